/- The walk of the statement ManifestBack. -/
import Derived.Test.YteplpgknnlehnaaMade
import Derived.Test.YteplpgknnlehnaaWhole
import Derived.Test.YteplpgknnlehnaaManRep3
import Derived.Test.YteplpgknnlehnaaSame
namespace Go.Proofs.Yteplpgknnlehnaa
set_option linter.unusedSimpArgs false
set_option linter.unusedVariables false
open Go.RowKit

theorem Own.cap_ {α : Type} {w : World} {base : Nat} {e : TypeId} {f : α → List Value} {sz : Nat} {A : Option Addr} {c : Nat} {l : List α} (h : Own w base e f sz A c l) : l.length ≤ c := by
  rcases h.2 with ⟨h0, h1⟩ | ⟨g, cap, cur, hv, _, _, h1, _⟩
  · omega
  · injection hv with _ _ h3
    omega
theorem Row.take_e {α : Type} {f : α → List Value} {w : World} {lo hi sz : Nat} {A : Option Addr} {l : List α} (h : Row w lo hi sz A l.length (l.flatMap f)) (hf : ∀ x, (f x).length = sz) {k : Nat} (hk : k ≤ l.length) : Row w lo hi sz A (l.take k).length ((l.take k).flatMap f) := by
  refine ⟨length_flatMap' hf _, fun hn => ?_⟩
  rw [List.length_take] at hn
  obtain ⟨b, off, e, h1, h2, hc⟩ := h.mem (by omega)
  exact ⟨b, off, e, h1, h2, fun j u hu => hc j u (part_take l k j hu)⟩
theorem Live.cells_eq {u v : Live} {p : Place} (h1 : u.next = v.next) (h2 : u.seq = v.seq) (h3 : u.log = v.log) (ht : ∀ k, k < 4 → u.tab k = v.tab k) : u.cells p = v.cells p := Live.cells_congr p h1 h2 h3 ht
theorem LiveAt.congr {w : World} {u v : Live} {p : Place} (h : LiveAt w u p) (ht : ∀ k, k < 4 → u.tab k = v.tab k) : LiveAt w v p := fun k hk => by rw [← ht k hk]; exact h k hk
/-- one edit, done on nothing: what is answered -/
def BackPost (v : Live) (w : World) (e : Ending) (w' : World) : Prop :=
  ∃ (u : Live) (p : Place) (no : Int), e = .returned (livVal u p no) ∧ LiveAt w' u p ∧ (∀ k, k < 4 → (u.tab k).length ≤ 1099511627776) ∧ ((no = 0 ∧ u = v) ∨ (no ≠ 0 ∧ 1000 < (allOf v).length)) ∧ Ext w w'
theorem back_any {v : Live} (h : WFl v) (hl : ∀ k, k < 4 → (v.tab k).length ≤ 137438953472) (A : Option Addr) (c : Nat) (w : World) (hr : Row w 0 w.heap.size 6 A (allOf v).length ((allOf v).flatMap Table.cells)) :
    Calls Try.prog 25 #[.agg (noLive.cells noPlace), .agg #[.int .u64 v.next, .int .u64 v.seq, .int .u64 v.log, .slice A (allOf v).length c, .slice none 0 0]] w (BackPost v w) := by
  by_cases hm : (allOf v).length ≤ 1000
  · have hok := may_ok (wholeE_may h hm)
    refine (apply_any noLive noPlace (wholeE v) hok (fun k hk => by simp [noLive]) (fun x hx => by simp [numsOf, numsTo, noLive] at hx) A none c 0 w ⟨hr, Row.nil_⟩ (LiveAt.none_ (lo := 0) w).live).mono ?_
    rintro _ w' ⟨p, rfl, hin, hX⟩
    rw [whole_back h hm] at hin ⊢
    dsimp only at hin ⊢
    refine ⟨v, p, 0, ?_, hin.live.congr (part_whole v), fun k hk => Nat.le_trans (hl k hk) (by omega), .inl ⟨rfl, rfl⟩, hX⟩
    unfold livVal
    rw [Live.cells_eq (u := part v 4 0) (v := v) rfl rfl rfl (part_whole v)]
  · have hal := allTo_len hl 4 (by omega)
    rw [allTo_four] at hal
    have h1 := h.next
    have h2 := h.seq
    have h3 := h.log
    refine (apply_many noLive noPlace v.next v.seq v.log (allOf v).length c 0 0 (by unfold M64; omega) (by unfold M64; omega) (by unfold M64; omega) (by omega) (by omega) A none w).mono ?_
    rintro _ w' ⟨p, rfl, hin, hX⟩
    exact ⟨noLive, p, 1, rfl, hin.live, fun k hk => by simp [noLive], .inr ⟨by decide, by omega⟩, hX⟩

set_option maxRecDepth 100000 in
set_option maxHeartbeats 800000 in
theorem manifestBack_walk (L0 : List LE) (cut : Int) (hcut : I64 cut) (hL : L0.length ≤ 1048576) (hq : ∀ q ∈ L0, q.e.Ok ∧ q.e.drop.length ≤ q.c') (A0 : Option Addr) (c0 : Nat) (w : World) (hr : EditsR w A0 L0) :
    Calls Try.prog 11 #[.slice A0 L0.length c0, .int .i64 cut] w fun e w' => e = .returned (.bool true) ∧ Ext w w' := by
  obtain ⟨hc1, hc2⟩ := hcut
  have HMADE := Lib.hid (made_any L0 hL hq A0 c0 w hr)
  have HRE := Lib.hid (fun w' hb => EditsR.ext (w' := w') hr hb)
  obtain ⟨f1, f2, f3⟩ := madeOf_facts L0
  have hgd := madeOf_good (L := L0) (fun q h => (hq q h).1) L0.length (Nat.le_refl _)
  rw [List.take_length] at hgd
  obtain ⟨⟨v, D⟩, hm⟩ : ∃ r, madeOf L0 = r := ⟨_, rfl⟩
  rw [hm] at HMADE f1 f2 f3 hgd
  dsimp only at HMADE f1 f2 f3 hgd
  have hv37 : ∀ k, k < 4 → (v.tab k).length ≤ 137438953472 := fun k hk => by have := hgd.len k hk; omega
  have HV := Lib.hid hv37
  have HWF := Lib.hid (WFl.zero.chain f1)
  have HCH := Lib.hid f1
  have HQ : Hid (∀ q ∈ D, q.e.Ok ∧ q.e.drop.length ≤ q.c') := fun q h => hq q (f2 q h)
  have HSUB := Lib.hid f2
  clear hm f1 f2 hgd hq hv37 hr
  go_enter Try.func11, Try.ntmps11
  go_wp2_with fail
  refine HMADE.out.mono ?_
  rintro _ w1 ⟨p0, A, c, rfl, hla1, hown1, hX1⟩
  dsimp only [Live.cells]
  go_wp2_with fail
  obtain ⟨S, hS⟩ : ∃ S, w1.heap.size = S := ⟨_, rfl⟩
  (obtain ⟨w2, hw2⟩ : ∃ w2, w2 = World.alloc w1 (.cells #[.int .u64 v.next, .int .u64 v.seq, .int .u64 v.log, .slice (p0.A 0) (v.tab 0).length (p0.c 0), .slice (p0.A 1) (v.tab 1).length (p0.c 1), .slice (p0.A 2) (v.tab 2).length (p0.c 2), .slice (p0.A 3) (v.tab 3).length (p0.c 3)] 48) := ⟨_, rfl⟩); (have hbox_w2 : Box w2 (w1).heap.size 48 #[.int .u64 v.next, .int .u64 v.seq, .int .u64 v.log, .slice (p0.A 0) (v.tab 0).length (p0.c 0), .slice (p0.A 1) (v.tab 1).length (p0.c 1), .slice (p0.A 2) (v.tab 2).length (p0.c 2), .slice (p0.A 3) (v.tab 3).length (p0.c 3)] := by rw [hw2]; exact Box.new _ _ _); (have hE_w2 : Ext w1 w2 := by rw [hw2]; exact Ext.al _ _); (have hz_w2 : (w2).heap.size = (w1).heap.size + 1 := by rw [hw2]; simp); rw [← hw2]; clear hw2
  have bL2 : Box w2 S 48 (v.cells p0) := by rw [← hS]; exact hbox_w2
  have hcap := hown1.cap_
  have HD : Hid (∀ w', Ext w1 w' → EditsR w' A D) := fun w' hb => ⟨((hown1.ext hb).row.wide (Nat.zero_le _) (Nat.le_refl _)), fun q h => (HRE.out w' (hX1.trans' hb)).at_ q (HSUB.out q h)⟩
  have HLA : Hid (∀ w', Ext w1 w' → LiveAt w' v p0) := fun w' hb => hla1.ext hb
  rw [hS]
  clear hbox_w2 hz_w2 hown1 hla1 HMADE HSUB HRE
  have hEw : Ext w1 w2 := hE_w2
  clear hE_w2
  go_loopw [7, 8, 9] (fun v7 v8 v9 wr => ∃ (i whole : Nat), i ≤ D.length ∧ v9 = .int .i64 i ∧ v7 = str (bytesE ((D.take i).map LE.e)) ∧ v8 = .int .i64 whole ∧ Hid (CutE cut ((D.take i).map LE.e) whole) ∧ Hid (∀ b ∈ (D.take i).map LE.e, EditR b) ∧
    (bytesE ((D.take i).map LE.e)).length ≤ 262200 * i ∧ Ext w2 wr) (fun _ _ v _ => D.length - (intOf v).toNat)
  · exact ⟨0, 0, by omega, rfl, rfl, rfl, CutE.start cut, by simp [Hid], by simp [bytesE], Below.refl _ _⟩
  · obtain ⟨i, whole, hi, rfl, rfl, rfl, hcat, hright, hbl, hX⟩ := hrel
    by_cases hlt : i < D.length
    · obtain ⟨q, hqe⟩ : ∃ q, D[i]? = some q := ⟨D[i], List.getElem?_eq_getElem hlt⟩
      have hqm := List.mem_of_getElem? hqe
      have hE1r := hEw.trans' hX
      have k1 := HD.out _ hE1r
      obtain ⟨b1, o1, hA, -, hbw, hc⟩ := k1.row.elem LE.cells_len rfl hqe
      have e0 := hc 0 _ rfl
      have e1 := hc 1 _ rfl
      have e2 := hc 2 _ rfl
      have e3 := hc 3 _ rfl
      have e4 := hc 4 _ rfl
      rw [Nat.add_zero] at e0
      have hok := (HQ.out q hqm).1
      have HENC := Lib.hid (encodeEdit_any q.e hok q.A q.A' q.c q.c' wr (k1.at_ q hqm))
      have HENR := Lib.hid (fun w' (hb : Ext wr w') => encodeEdit_ref q.e hok q.A q.A' q.c q.c' w' ((HD.out _ (hE1r.trans' hb)).at_ q hqm))
      have HC := Lib.hid (fun w' (hb : Ext wr w') j u (hj : q.cells[j]? = some u) => (hb.cell (p := ⟨b1, o1 + i * 5 + j, none⟩) hbw).trans (hc j u hj))
      obtain ⟨K, hK⟩ : ∃ K, (D.take i).map LE.e = K := ⟨_, rfl⟩
      have hKn : (D.take (i + 1)).map LE.e = K ++ [q.e] := by rw [← hK, List.take_add_one, hqe]; simp
      have hKl : K.length = i := by rw [← hK]; simp; omega
      have HKN := Lib.hid hKn
      rw [hK] at hcat hright hbl ⊢
      rw [hA]
      clear hc k1 hqe hqm hok hKn
      have j0 : (0 : Int) ≤ (i : Int) := by omega
      have j1 : (i : Int) < (D.length : Int) := by omega
      by_cases hR : EditR q.e
      · have hel := encE_len hR
        rw [encodeEdit_right hR] at HENC
        have HRR : Hid (∀ b ∈ (D.take (i + 1)).map LE.e, EditR b) := by
          unfold Hid
          rw [HKN.out]
          intro b hb
          rcases List.mem_append.1 hb with h | h
          · exact hright.out b h
          · rw [List.mem_singleton.1 h]; exact hR
        have HBS := Lib.hid (bytesE_snoc K q.e)
        obtain ⟨t, ht⟩ : ∃ t, encE q.e = t := ⟨_, rfl⟩
        rw [ht] at hel HENC
        have HT := Lib.hid ht
        obtain ⟨hel1, hel2⟩ := hel
        clear ht hR hright
        dsimp only [Edit.val] at HENC
        go_wp2_with fail
        refine HENC.out.mono ?_
        rintro _ w3 ⟨rfl, hb3⟩
        have hX3 := hX.trans' hb3
        clear e0 e1 e2 e3 e4 HC HENR hb3 hbw
        have hlen : ((bytesE (K ++ [q.e])).length : Int) = ((bytesE K).length : Int) + (t.length : Int) := by rw [HBS.out, List.length_append, HT.out]; push_cast; rfl
        by_cases hcc : ((bytesE K).length : Int) + (t.length : Int) ≤ cut
        · have HCT := Lib.hid (CutE.yes (K := K) (q := q.e) (cut := cut) (by rw [hlen]; exact hcc))
          clear hcat hlen
          go_wp2
          exact ⟨⟨i + 1, K.length + 1, by omega, by simp, by rw [HKN.out, HBS.out, HT.out]; simp [ByteArray.mk_append_mk], by rw [hKl]; simp, by rw [HKN.out]; exact HCT, HRR, by rw [HKN.out, HBS.out, List.length_append, HT.out]; omega, hX3⟩, by simp [intOf]; omega⟩
        · have HCT := Lib.hid (hcat.out.no (q := q.e) (by rw [hlen]; omega))
          clear hcat hlen
          go_wp2
          exact ⟨⟨i + 1, whole, by omega, by simp, by rw [HKN.out, HBS.out, HT.out]; simp [ByteArray.mk_append_mk], rfl, by rw [HKN.out]; exact HCT, HRR, by rw [HKN.out, HBS.out, List.length_append, HT.out]; omega, hX3⟩, by simp [intOf]; omega⟩
      · rw [encodeEdit_wrong hR] at HENC HENR
        clear hR
        dsimp only [Edit.val] at HENC HENR
        go_wp2_with fail
        refine HENC.out.mono ?_
        rintro _ w3 ⟨rfl, hb3⟩
        have e0 := HC.out _ hb3 0 _ rfl
        have e1 := HC.out _ hb3 1 _ rfl
        have e2 := HC.out _ hb3 2 _ rfl
        have e3 := HC.out _ hb3 3 _ rfl
        have e4 := HC.out _ hb3 4 _ rfl
        rw [Nat.add_zero] at e0
        go_wp2_with fail
        refine (HENR.out _ hb3).mono ?_
        rintro _ w4 ⟨rfl, hb4⟩
        go_wp2
        go_ret
        exact ⟨by simp, hX1.trans' (hEw.trans' (hX.trans' (hb3.trans' hb4)))⟩
    · obtain rfl : i = D.length := by omega
      obtain ⟨K, hK⟩ : ∃ K, D.map LE.e = K := ⟨_, rfl⟩
      have hKl : K.length = D.length := by rw [← hK]; simp
      rw [List.take_length, hK] at hcat hright hbl ⊢
      rw [hK] at HCH
      have hw := hcat.out.le
      have hcn := cutM_eq cut (bytesE K).length
      have hcl := cutM_le cut (bytesE K).length
      obtain ⟨rest, hs, hrest⟩ := hcat.out.split hright.out
      obtain ⟨u, hchu⟩ := HCH.out.take whole
      obtain ⟨F, hF, hrun, hFl⟩ := replay_cutM hright.out HCH.out [] takeFrame_none
      obtain ⟨F2, hF2, hrun2, hF2l⟩ := replay_cutM (K := K.take whole) (fun b hb => hright.out b (List.mem_of_mem_take hb)) hchu rest hrest
      have hmt : (D.take whole).map LE.e = K.take whole := by rw [List.map_take, hK]
      have hmade2 := madeOf_chain (D.take whole) u (by rw [hmt]; exact hchu)
      have hgu := madeOf_good (L := D.take whole) (fun q h => (HQ.out q (List.mem_of_mem_take h)).1) (D.take whole).length (Nat.le_refl _)
      rw [List.take_length, hmade2] at hgu
      dsimp only at hgu
      have HU : Hid (∀ k, k < 4 → (u.tab k).length ≤ 137438953472) := fun k hk => by
        have h1 := hgu.len k hk
        have h2 : (D.take whole).length ≤ D.length := by simp; omega
        omega
      obtain ⟨cn, hcn'⟩ : ∃ cn, cutM cut (bytesE K).length = cn := ⟨_, rfl⟩
      rw [hcn'] at hcn hcl hs
      have hx0 : (⟨(bytesE K).toArray⟩ : ByteArray).extract 0 cn = ⟨(bytesE (K.take whole) ++ rest).toArray⟩ := by rw [ba_extract, ← hs]; simp
      have hsl : (bytesE (K.take whole) ++ rest).length ≤ (bytesE K).length := by rw [← hs, List.length_take]; omega
      have hbe : (K.take whole).flatMap encE = bytesE (K.take whole) := rfl
      have hbe2 : K.flatMap encE = bytesE K := rfl
      rw [hbe] at hF2 hrun2
      rw [hbe2, List.append_nil] at hF
      rw [hbe2, hKl] at hrun
      have hwl : (K.take whole).length = whole := by simp; omega
      rw [hwl] at hrun2 hF2l
      have HRP := Lib.hid (fun w => manReplay_anyN (bytesE K) (by omega) D.length (by omega) (fun F' fin' h' => by rw [(h'.unique hF).1]; omega) w)
      have HRP2 := Lib.hid (fun w => manReplay_anyN (bytesE (K.take whole) ++ rest) (by omega) D.length (by omega) (fun F' fin' h' => by rw [(h'.unique hF2).1]; omega) w)
      have hw2 : whole ≤ D.length := by omega
      have hdl : (D.take whole).length = whole := by simp; omega
      have HM2 := Lib.hid (fun (w' : World) (hb : Ext w1 w') => made_any (D.take whole) (by omega) (fun q h => HQ.out q (List.mem_of_mem_take h)) A c w' ⟨(HD.out w' hb).row.take_e LE.cells_len hw2, fun q h => (HD.out w' hb).at_ q (List.mem_of_mem_take h)⟩)
      rw [hmade2, hdl] at HM2
      dsimp only at HM2
      have HF := Lib.hid hF
      have HRUN := Lib.hid hrun
      have HF2 := Lib.hid hF2
      have HRUN2 := Lib.hid hrun2
      obtain ⟨sC, hsC⟩ : ∃ sC, bytesE (K.take whole) ++ rest = sC := ⟨_, rfl⟩
      rw [hsC] at hx0 hsl HRP2 HF2
      have hXr := hEw.trans' hX
      have bLr := bL2.ext hX
      clear hcn' hs hrest hF hrun hF2 hrun2 hchu hbe hbe2 hsC hcat hright hmt hmade2 hgu hFl hF2l hwl hK HQ HCH
      go_wp2_with fail
      refine (HRP.out _).mono ?_
      rintro _ w3 ⟨F1, fin1, p1, hf1, rfl, hlaA, -, hX3⟩
      obtain ⟨rfl, rfl⟩ := HF.out.unique hf1
      rw [HRUN.out] at hlaA ⊢
      dsimp only [manVal, Live.cells] at hlaA ⊢
      have bL3 := bLr.ext hX3
      have hX13 := hXr.trans' hX3
      have a0 := bL3.cell 0
      have a1 := bL3.cell 1
      have a2 := bL3.cell 2
      have a3 := bL3.cell 3
      have a4 := bL3.cell 4
      have a5 := bL3.cell 5
      have a6 := bL3.cell 6
      simp only [Live.cells, List.getElem?_toArray, List.getElem?_cons_zero, List.getElem?_cons_succ] at a0 a1 a2 a3 a4 a5 a6
      have hSl : S < w3.heap.size := bL3.lt
      clear hf1 HRP HF HRUN bLr
      go_wp2_with fail
      have hX14 : Ext w1 (w3.alloc (.cells (v.cells p1) 48)) := hX13.trans' (Ext.al _ _)
      have bL4 := bL3.ext (Ext.al w3 (.cells (v.cells p1) 48))
      refine (sameLive_same v (fun k hk => Nat.le_trans (HV.out k hk) (by omega)) p1 p0 _ (hlaA.ext (Ext.al _ _)) (HLA.out _ hX14)).mono ?_
      rintro _ w5 ⟨rfl, hX5⟩
      have bL5 := bL4.ext hX5
      have hX15 := hX14.trans' hX5
      clear a0 a1 a2 a3 a4 a5 a6 hSl bL3 bL4 hX13 hX14 hX5 hX3 hlaA
      have j1 : (whole : Int) ≤ (c : Int) := by omega
      have j2 : (0 : Int) ≤ (whole : Int) := by omega
      go_wp2_with fail
      refine (HRP2.out _).mono ?_
      rintro _ w6 ⟨F1, fin1, p2, hf1, rfl, hlaB, -, hX6⟩
      obtain ⟨rfl, rfl⟩ := HF2.out.unique hf1
      rw [HRUN2.out] at hlaB ⊢
      dsimp only [manVal, Live.cells] at hlaB ⊢
      have bL6 := bL5.ext hX6
      have hX16 := hX15.trans' hX6
      clear hf1 HRP2 HF2 HRUN2 bL5 hX15 hX6 hx0 hsl hcn hcl
      go_wp2_with fail
      (obtain ⟨wp, hwp⟩ : ∃ wp, wp = World.alloc w6 (.cells #[.int .u64 u.next, .int .u64 u.seq, .int .u64 u.log, .slice (p2.A 0) (u.tab 0).length (p2.c 0), .slice (p2.A 1) (u.tab 1).length (p2.c 1), .slice (p2.A 2) (u.tab 2).length (p2.c 2), .slice (p2.A 3) (u.tab 3).length (p2.c 3)] 48) := ⟨_, rfl⟩); (have hbox_wp : Box wp (w6).heap.size 48 #[.int .u64 u.next, .int .u64 u.seq, .int .u64 u.log, .slice (p2.A 0) (u.tab 0).length (p2.c 0), .slice (p2.A 1) (u.tab 1).length (p2.c 1), .slice (p2.A 2) (u.tab 2).length (p2.c 2), .slice (p2.A 3) (u.tab 3).length (p2.c 3)] := by rw [hwp]; exact Box.new _ _ _); (have hE_wp : Ext w6 wp := by rw [hwp]; exact Ext.al _ _); (have hz_wp : (wp).heap.size = (w6).heap.size + 1 := by rw [hwp]; simp); rw [← hwp]; clear hwp
      have hX1p := hX16.trans' hE_wp
      have bLp := bL6.ext hE_wp
      have hlaBp := hlaB.ext hE_wp
      refine (HM2.out _ hX1p).mono ?_
      rintro _ w7 ⟨p3, A3, c3, rfl, hlaC, -, hX7⟩
      dsimp only [Live.cells]
      have bL7 := bLp.ext hX7
      have bP7 := hbox_wp.ext hX7
      have hX17 := hX1p.trans' hX7
      have hlaB7 := hlaBp.ext hX7
      have hP7 : w6.heap.size < w7.heap.size := bP7.lt
      have b0 := bP7.cell 0
      have b1 := bP7.cell 1
      have b2 := bP7.cell 2
      have b3 := bP7.cell 3
      have b4 := bP7.cell 4
      have b5 := bP7.cell 5
      have b6 := bP7.cell 6
      simp only [Live.cells, List.getElem?_toArray, List.getElem?_cons_zero, List.getElem?_cons_succ] at b0 b1 b2 b3 b4 b5 b6
      clear HM2 hX16 bL6 bLp hbox_wp hX1p hlaB hlaBp hX7 hE_wp hz_wp
      go_wp2_with fail
      refine (sameLive_same u (fun k hk => Nat.le_trans (HU.out k hk) (by omega)) p2 p3 _ (hlaB7.ext (Ext.al _ _)) (hlaC.ext (Ext.al _ _))).mono ?_
      rintro _ w8 ⟨rfl, hX8⟩
      have hE78 := Ext.trans' (Ext.al w7 (.cells (u.cells p3) 48)) hX8
      have bL8 := bL7.ext hE78
      have hX18 := hX17.trans' hE78
      have a0 := bL8.cell 0
      have a1 := bL8.cell 1
      have a2 := bL8.cell 2
      have a3 := bL8.cell 3
      have a4 := bL8.cell 4
      have a5 := bL8.cell 5
      have a6 := bL8.cell 6
      simp only [Live.cells, List.getElem?_toArray, List.getElem?_cons_zero, List.getElem?_cons_succ] at a0 a1 a2 a3 a4 a5 a6
      clear b0 b1 b2 b3 b4 b5 b6 hlaB7 hlaC bP7 hP7 bL7 hX17 hX8 hE78 HU
      go_wp2_with fail
      refine (whole_any v p0 HV.out _ (HLA.out _ hX18)).mono ?_
      rintro _ w9 ⟨A4, c4, rfl, hrow, hX9⟩
      have bL9 := bL8.ext hX9
      have hX19 := hX18.trans' hX9
      clear a0 a1 a2 a3 a4 a5 a6 bL8 hX18 hX9
      go_wp2_with fail
      (obtain ⟨wo, hwo⟩ : ∃ wo, wo = World.alloc w9 (.cells #[.int .u64 v.next, .int .u64 v.seq, .int .u64 v.log, .slice A4 (allOf v).length c4, .slice none 0 0] 35) := ⟨_, rfl⟩); (have hbox_wo : Box wo (w9).heap.size 35 #[.int .u64 v.next, .int .u64 v.seq, .int .u64 v.log, .slice A4 (allOf v).length c4, .slice none 0 0] := by rw [hwo]; exact Box.new _ _ _); (have hE_wo : Ext w9 wo := by rw [hwo]; exact Ext.al _ _); (have hz_wo : (wo).heap.size = (w9).heap.size + 1 := by rw [hwo]; simp); rw [← hwo]; clear hwo
      have hX1o := hX19.trans' hE_wo
      have bLo := bL9.ext hE_wo
      refine (back_any HWF.out HV.out A4 c4 _ ((hrow.below hE_wo (Nat.le_refl _)).wide (Nat.le_refl _) hE_wo.size)).mono ?_
      rintro _ w11 ⟨u2, p5, no2, rfl, hlaE, hu40, hcase, hX11⟩
      dsimp only [livVal, Live.cells]
      have bL11 := bLo.ext hX11
      have bO11 := hbox_wo.ext hX11
      have hX111 := hX1o.trans' hX11
      have hS11 : S < w11.heap.size := bL11.lt
      have hO11 : w9.heap.size < w11.heap.size := bO11.lt
      have a0 := bL11.cell 0
      have a1 := bL11.cell 1
      have a2 := bL11.cell 2
      have a3 := bL11.cell 3
      have a4 := bL11.cell 4
      have a5 := bL11.cell 5
      have a6 := bL11.cell 6
      simp only [Live.cells, List.getElem?_toArray, List.getElem?_cons_zero, List.getElem?_cons_succ] at a0 a1 a2 a3 a4 a5 a6
      clear hrow bL9 bLo hbox_wo hX19 hX1o hX11 hE_wo hz_wo
      have HU40 := Lib.hid hu40
      clear hu40
      go_wp2_with fail
      have hEx := Ext.al w11 (.cells (u2.cells p5) 48)
      have hX112 := hX111.trans' hEx
      have bO12 := bO11.ext hEx
      rcases hcase with ⟨rfl, rfl⟩ | ⟨hno, hmany⟩
      · refine (sameLive_same u2 (fun k hk => Nat.le_trans (HV.out k hk) (by omega)) p5 p0 _ (hlaE.ext hEx) (HLA.out _ hX112)).mono ?_
        rintro _ w13 ⟨rfl, hX13⟩
        have bO13 := bO12.ext hX13
        have o0 := bO13.cell 0
        have o1 := bO13.cell 1
        have o2 := bO13.cell 2
        have o3 := bO13.cell 3
        have o4 := bO13.cell 4
        simp only [Live.cells, List.getElem?_toArray, List.getElem?_cons_zero, List.getElem?_cons_succ] at o0 o1 o2 o3 o4
        clear a0 a1 a2 a3 a4 a5 a6 bL11 bO11 bO12 hS11 hO11 hlaE
        go_wp2
        go_ret
        exact ⟨by simp, hX1.trans' (hX112.trans' hX13)⟩
      · refine (sameLive_some u2 v HU40.out (fun k hk => Nat.le_trans (HV.out k hk) (by omega)) p5 p0 _ (hlaE.ext hEx) (HLA.out _ hX112)).mono ?_
        rintro _ w13 ⟨⟨bb, rfl⟩, hX13⟩
        have bO13 := bO12.ext hX13
        have o0 := bO13.cell 0
        have o1 := bO13.cell 1
        have o2 := bO13.cell 2
        have o3 := bO13.cell 3
        have o4 := bO13.cell 4
        simp only [Live.cells, List.getElem?_toArray, List.getElem?_cons_zero, List.getElem?_cons_succ] at o0 o1 o2 o3 o4
        have hno' : (no2 == (0 : Int)) = false := by simpa using hno
        have hmany' : (1000 : Int) < ((allOf v).length : Int) := by omega
        clear a0 a1 a2 a3 a4 a5 a6 bL11 bO11 bO12 hS11 hO11 hlaE
        go_wp2
        go_ret
        exact ⟨by simp, hX1.trans' (hX112.trans' hX13)⟩
end Go.Proofs.Yteplpgknnlehnaa
