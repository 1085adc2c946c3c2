/- Manifests read whole (layer 10): the document's walk. -/
import Derived.Test.YteplpgknnlehnaaManRep
import Derived.Test.YteplpgknnlehnaaAllRef
import Derived.Test.YteplpgknnlehnaaManDec3
import Derived.BigGuardPart
namespace Go.Proofs.Yteplpgknnlehnaa
set_option linter.unusedSimpArgs false
set_option linter.unusedVariables false
open Go.RowKit

def manVal (R : Live × Nat × Nat × Int) (p : Place) : Value := .tuple #[.agg (R.1.cells p), .int .i64 (R.2.1 : Int), .int .i64 (R.2.2.1 : Int), .int .i64 R.2.2.2]
def ManPost (s : List UInt8) (w : World) (e : Ending) (w' : World) : Prop :=
  ∃ (F : List (Nat × Frm)) (fin : Nat) (p : Place), FrAt s 0 F fin ∧ e = .returned (manVal (runMR fin (noLive, 0) F) p) ∧ LiveAt w' (runMR fin (noLive, 0) F).1 p ∧ (∀ j, j < 4 → ((runMR fin (noLive, 0) F).1.tab j).length ≤ 1000 * s.length) ∧ Ext w w'
theorem ManPost.mk {s : List UInt8} {w w' : World} {F : List (Nat × Frm)} {fin : Nat} {p : Place} {R : Live × Nat × Nat × Int} (h : FrAt s 0 F fin) (hr : runMR fin (noLive, 0) F = R) (hl : LiveAt w' R.1 p) (hb : ∀ j, j < 4 → (R.1.tab j).length ≤ 1000 * s.length) (hX : Ext w w') :
    ManPost s w (.returned (manVal R p)) w' := ⟨F, fin, p, h, by rw [hr], by rw [hr]; exact hl, by rw [hr]; exact hb, hX⟩
theorem man_ret {fn : Func} {R : Ending → World → Prop} {a : Act} {W : World} {S : Nat} {r : Live × Nat × Nat × Int} {p : Place} (hres : fn.results = #[.cell 2 48, .tmp 3, .tmp 4, .tmp 5]) (h2 : a.tmps.getD 2 undef = .pointer (some ⟨S, 0, none⟩))
    (h3 : a.tmps.getD 3 undef = .int .i64 (r.2.1 : Int)) (h4 : a.tmps.getD 4 undef = .int .i64 (r.2.2.1 : Int)) (h5 : a.tmps.getD 5 undef = .int .i64 r.2.2.2)
    (hd : a.defers = []) (bZ : Box W S 48 (r.1.cells p)) (h : R (.returned (manVal r p)) W) : bodyPost Try.prog fn R .ret a W := by
  have z0 := bZ.cell 0
  have z1 := bZ.cell 1
  have z2 := bZ.cell 2
  have z3 := bZ.cell 3
  have z4 := bZ.cell 4
  have z5 := bZ.cell 5
  have z6 := bZ.cell 6
  unfold manVal at h
  unfold Live.cells at z0 z1 z2 z3 z4 z5 z6 h
  simp only [List.getElem?_toArray, List.getElem?_cons_zero, List.getElem?_cons_succ] at z0 z1 z2 z3 z4 z5 z6
  have h2' : a.tmps[2]?.getD undef = .pointer (some ⟨S, 0, none⟩) := by simpa using h2
  have h3' : a.tmps[3]?.getD undef = .int .i64 (r.2.1 : Int) := by simpa using h3
  have h4' : a.tmps[4]?.getD undef = .int .i64 (r.2.2.1 : Int) := by simpa using h4
  have h5' : a.tmps[5]?.getD undef = .int .i64 r.2.2.2 := by simpa using h5
  refine bodyPost_ret ?_ hd h
  simp [results, hres, h2', h3', h4', h5', go_sem, z0, z1, z2, z3, z4, z5, z6]
theorem runMR_bad {fin : Nat} {st : Live × Nat} {x : Nat × Frm} {l : List (Nat × Frm)} (h : okM st.1 x = false) : runMR fin st (x :: l) = (st.1, st.2, x.1, 9) := by
  rw [runMR, if_neg (by rw [h]; simp)]
theorem runMR_ok {fin : Nat} {st : Live × Nat} {x : Nat × Frm} {l : List (Nat × Frm)} (h : okM st.1 x = true) : runMR fin st (x :: l) = runMR fin (nextM st.1 x, st.2 + 1) l := by
  rw [runMR, if_pos h]
theorem kind_seven {k : UInt8} : k.toNat = 7 ↔ k = 7 := ⟨fun h => UInt8.toNat_inj.1 (by simpa using h), fun h => by rw [h]; rfl⟩

theorem Fr.dd {S : Nat → Prop} {a w : World} (h : Fr S a w) : Fr S a.drew w.drew := ⟨h.os, h.tape, h.output, h.size, h.block⟩
theorem RS.put7 {S : Nat → Prop} (w : World) {g : Nat} (hg : ¬ S g) (v0 v1 v2 v3 v4 v5 v6 : Value) :
    RS S w.drew (((((((w.setCell ⟨g, 0, none⟩ v0).setCell ⟨g, 1, none⟩ v1).setCell ⟨g, 2, none⟩ v2).setCell ⟨g, 3, none⟩ v3).setCell ⟨g, 4, none⟩ v4).setCell ⟨g, 5, none⟩ v5).setCell ⟨g, 6, none⟩ v6).drew :=
  RS.fr (S' := S) (Fr.put7 (Fr.refl w) hg v0 v1 v2 v3 v4 v5 v6).dd (fun _ _ h => h)
set_option maxRecDepth 100000 in
set_option maxHeartbeats 1200000 in
theorem manReplay_ref (s : List UInt8) (hl : s.length ≤ 1048576) (w : World) : Calls Try.prog 34 #[str s] w (ManPost s w) := by
  have HA := Lib.hid (fun w => all_ref s (by omega) w)
  go_enter Try.func34, Try.ntmps34
  go_wp2_with fail
  obtain ⟨S, hS⟩ : ∃ S, w.heap.size = S := ⟨_, rfl⟩
  (obtain ⟨w0, hw0⟩ : ∃ w0, w0 = World.alloc w (.cells #[.int .u64 0, .int .u64 0, .int .u64 0, .slice none 0 0, .slice none 0 0, .slice none 0 0, .slice none 0 0] 48) := ⟨_, rfl⟩); (have hbox_w0 : Box w0 (w).heap.size 48 #[.int .u64 0, .int .u64 0, .int .u64 0, .slice none 0 0, .slice none 0 0, .slice none 0 0, .slice none 0 0] := by rw [hw0]; exact Box.new _ _ _); (have hE_w0 : Ext w w0 := by rw [hw0]; exact Ext.al _ _); (have hz_w0 : (w0).heap.size = (w).heap.size + 1 := by rw [hw0]; simp); rw [← hw0]; clear hw0
  (obtain ⟨w1, hw1⟩ : ∃ w1, w1 = World.alloc w0 (.cells #[.int .u64 0, .int .u64 0, .int .u64 0, .slice none 0 0, .slice none 0 0, .slice none 0 0, .slice none 0 0] 48) := ⟨_, rfl⟩); (have hbox_w1 : Box w1 (w0).heap.size 48 #[.int .u64 0, .int .u64 0, .int .u64 0, .slice none 0 0, .slice none 0 0, .slice none 0 0, .slice none 0 0] := by rw [hw1]; exact Box.new _ _ _); (have hE_w1 : Ext w0 w1 := by rw [hw1]; exact Ext.al _ _); (have hz_w1 : (w1).heap.size = (w0).heap.size + 1 := by rw [hw1]; simp); rw [← hw1]; clear hw1
  have bR1 := hbox_w0.ext hE_w1
  have bl1 := hbox_w1
  have hX1 := hE_w0.trans' hE_w1
  rw [hz_w0, hS] at bl1
  rw [hS] at bR1 hz_w0 ⊢
  clear hbox_w0 hbox_w1 hE_w0 hE_w1
  refine (HA.out _).mono ?_
  rintro _ w2 ⟨F, fin, AF, cF, rfl, hFr, hrF, hb2⟩
  obtain ⟨hfin, hF5, hFx⟩ := hFr.le (Nat.zero_le _)
  have HFX := Lib.hid hFx
  have HFR := Lib.hid hFr
  have hz1 : w1.heap.size = S + 2 := by omega
  rw [hz1] at hrF
  have bR2 := bR1.ext hb2
  have bl2 := bl1.ext hb2
  have hX2 := hX1.trans' hb2
  have hz2 := hb2.size
  clear hFx hFr bR1 bl1 hX1 hb2 HA hz_w0 hz_w1
  go_wp2_with fail
  go_loopw [7, 10] (fun v7 v10 wr => ∃ (i : Nat) (v : Live) (p : Place), i ≤ F.length ∧ v10 = .int .i64 i ∧ v7 = .int .i64 i ∧ Hid (runMR fin (noLive, 0) F = runMR fin (v, i) (F.drop i)) ∧
    Box wr (S + 1) 48 (v.cells p) ∧ LiveIn wr (S + 2) v p ∧ Hid (GoodM i v) ∧ Fr (fun x => x ≠ S + 1) w2 wr) (fun _ v _ => F.length - (intOf v).toNat)
  · exact ⟨0, noLive, noPlace, by omega, rfl, rfl, rfl, bl2, LiveAt.none_ (lo := S + 2) w2, GoodM.zero, Fr.refl _⟩
  · clear bl2
    obtain ⟨i, v, p, hi, rfl, rfl, hH, bl, hla, hgd, hF⟩ := hrel
    have bR := bR2.fr hF (by omega)
    have hzr := hF.size
    have hXr : Ext w wr := Fr.ext ((Fr.of_ext (S := fun x => x < S) hX2).step hF (fun x _ h => by omega)) (by omega)
    by_cases hlt : i < F.length
    · obtain ⟨x, hxe⟩ : ∃ x, F[i]? = some x := ⟨F[i], List.getElem?_eq_getElem hlt⟩
      obtain ⟨bb, off, hAF, hbl, hbw, hc⟩ := (hrF.fr hF (Nat.le_refl _) (fun x h1 _ => by omega)).elem AtC_len rfl hxe
      have hxl := HFX.out x (List.mem_of_getElem? hxe)
      have hd : F.drop i = x :: F.drop (i + 1) := by
        rw [List.drop_eq_getElem_cons hlt]
        rw [List.getElem?_eq_getElem hlt] at hxe
        cases hxe
        rfl
      have hH' := hH.out
      rw [hd] at hH'
      obtain ⟨pl, kd, ld⟩ := x
      dsimp only at hxl
      have x0 := hc 0 _ rfl
      have x1 := hc 1 _ rfl
      have x2 := hc 2 _ rfl
      rw [Nat.add_zero] at x0
      rw [hAF]
      have hv37 : ∀ j, j < 4 → (v.tab j).length ≤ 137438953472 := fun j hj => by have := hgd.out.len j hj; omega
      have C := Lib.hid (fun w => decodeEdit_refC ld (by omega) w)
      have HOKE := Lib.hid (decodeEdit_ok ld)
      have HOK : Hid (okM v (pl, ⟨kd, ld⟩) = (decide (kd.toNat = 7) && decide ((decodeEdit ld).2 = 0) && decide ((applyWith putRef v (decodeEdit ld).1).2 = 0))) := by
        unfold Hid okM
        dsimp only
        rw [show decide (kd = 7) = decide (kd.toNat = 7) from decide_eq_decide.2 kind_seven.symm]
      have HN : Hid (okM v (pl, ⟨kd, ld⟩) = true → runMR fin (noLive, 0) F = runMR fin ((applyWith putRef v (decodeEdit ld).1).1, i + 1) (F.drop (i + 1))) := fun hok => by
        rw [hH', runMR_ok hok]
        simp only [nextM]
      have HG : Hid (okM v (pl, ⟨kd, ld⟩) = true → GoodM (i + 1) (applyWith putRef v (decodeEdit ld).1).1) := fun hok => by
        have h := hgd.out.next (x := (pl, ⟨kd, ld⟩)) hok
        simp only [nextM] at h
        exact h
      have HBAD := Lib.hid (fun h => hH'.trans (runMR_bad (st := (v, i)) (x := (pl, ⟨kd, ld⟩)) (l := F.drop (i + 1)) h))
      obtain ⟨⟨e, no⟩, hdec⟩ : ∃ r, decodeEdit ld = r := ⟨_, rfl⟩
      rw [hdec] at C HOKE HOK HN HG
      dsimp only at HOKE HOK HN HG
      have hkl := kd.toNat_lt
      obtain ⟨kn, hkn⟩ : ∃ kn, kd.toNat = kn := ⟨_, rfl⟩
      have x1' : wr.cell? ⟨bb, off + i * 3 + 1, none⟩ = some (.int .u8 (kn : Int)) := by rw [← hkn]; exact x1
      rw [hkn] at hkl HOK
      have HXE := Lib.hid hxe
      clear hc x1 hd hH' hH hdec hkn hxe
      go_wp2_with fail
      refine (C.out _).mono ?_
      rintro _ w3 ⟨A2, A2', c2, c2', rfl, hat3, hcd3, hb3⟩
      dsimp only [pairVal, Edit.val] at *
      have bl3 := bl.ext hb3
      have bR3 := bR.ext hb3
      have hz3 := hb3.size
      have hS3 : S + 1 < w3.heap.size := bl3.lt
      have hbw3 : bb < w3.heap.size := by omega
      have y0 := (hb3.cell (p := ⟨bb, off + i * 3, none⟩) (by show bb < wr.heap.size; omega)).trans x0
      have y1 := (hb3.cell (p := ⟨bb, off + i * 3 + 1, none⟩) (by show bb < wr.heap.size; omega)).trans x1'
      have l0 := bl3.cell 0
      have l1 := bl3.cell 1
      have l2 := bl3.cell 2
      have l3 := bl3.cell 3
      have l4 := bl3.cell 4
      have l5 := bl3.cell 5
      have l6 := bl3.cell 6
      simp only [Live.cells, List.getElem?_toArray, List.getElem?_cons_zero, List.getElem?_cons_succ] at l0 l1 l2 l3 l4 l5 l6
      clear bl bR x0 x1' x2
      go_wp2_with fail
      (obtain ⟨w4, hw4⟩ : ∃ w4, w4 = World.alloc w3 (.cells #[.int .u64 e.next, .int .u64 e.seq, .int .u64 e.log, .slice A2 e.add.length c2, .slice A2' e.drop.length c2'] 35) := ⟨_, rfl⟩); (have hbox_w4 : Box w4 (w3).heap.size 35 #[.int .u64 e.next, .int .u64 e.seq, .int .u64 e.log, .slice A2 e.add.length c2, .slice A2' e.drop.length c2'] := by rw [hw4]; exact Box.new _ _ _); (have hE_w4 : Ext w3 w4 := by rw [hw4]; exact Ext.al _ _); (have hz_w4 : (w4).heap.size = (w3).heap.size + 1 := by rw [hw4]; simp); rw [← hw4]; clear hw4
      refine (apply_ref v p e HOKE.out hv37 A2 A2' c2 c2' hcd3 w4 (hat3.ext hE_w4) ((hla.live.ext hb3).ext hE_w4)).mono ?_
      rintro _ w5 ⟨p2, rfl, hin5, hb5⟩
      dsimp only [livVal, Live.cells]
      obtain ⟨⟨o, nb⟩, hap⟩ : ∃ r, applyWith putRef v e = r := ⟨_, rfl⟩
      rw [hap] at hin5 HOK HN HG ⊢
      dsimp only at hin5 HOK HN HG ⊢
      have hE35 := hE_w4.trans' hb5
      obtain ⟨ob, hob⟩ : ∃ ob, ob = Obj.cells #[.int .u64 o.next, .int .u64 o.seq, .int .u64 o.log, .slice (p2.A 0) (o.tab 0).length (p2.c 0), .slice (p2.A 1) (o.tab 1).length (p2.c 1), .slice (p2.A 2) (o.tab 2).length (p2.c 2), .slice (p2.A 3) (o.tab 3).length (p2.c 3)] 48 := ⟨_, rfl⟩
      obtain ⟨w6, hw6⟩ : ∃ w6, w5.alloc ob = w6 := ⟨_, rfl⟩
      have hE56 : Ext w5 w6 := by rw [← hw6]; exact Ext.al _ _
      have bN6 : Box w6 w5.heap.size 48 (o.cells p2) := by rw [← hw6, hob]; exact Box.new _ _ _
      have hz_w6 : w6.heap.size = w5.heap.size + 1 := by rw [← hw6]; simp
      have bl5 := bl3.ext hE35
      have hF5' : Fr (fun x => x ≠ S + 1) w2 w5 := hF.step (Fr.of_ext (S := fun _ => True) (hb3.trans' hE35)) (fun x h1 h2 => trivial)
      have hin5' := hin5
      have hE36 := hE35.trans' hE56
      have bl6 := bl3.ext hE36
      have bR6 := bR3.ext hE36
      have hin6 : LiveIn w6 w4.heap.size o p2 := fun j hj => ((hin5 j hj).below hE56 (Nat.le_refl _)).wide (Nat.le_refl _) hE56.size
      have hla6 : LiveIn w6 (S + 2) v p := fun j hj => ((hla j hj).below (hb3.trans' hE36) (Nat.le_refl _)).wide (Nat.le_refl _) (hb3.trans' hE36).size
      have hF6 : Fr (fun x => x < S + 1) w2 w6 := (hF.mono (fun x _ (h : x < S + 1) => (show x ≠ S + 1 by omega))).step (Fr.of_ext (S := fun _ => True) (hb3.trans' hE36)) (fun x h1 h2 => trivial)
      have z0 := (hE36.cell (p := ⟨bb, off + i * 3, none⟩) hbw3).trans y0
      have z1 := (hE36.cell (p := ⟨bb, off + i * 3 + 1, none⟩) hbw3).trans y1
      have hz56 := hb5.size
      have hbw6 : bb < w6.heap.size := by have := hE36.size; omega
      have hS6 : S + 1 < w6.heap.size := by have := hE36.size; omega
      obtain ⟨N, hN⟩ : ∃ N, w5.heap.size = N := ⟨_, rfl⟩
      rw [hN] at hz_w6 bN6
      have hNS : S + 1 < N := by omega
      have hNb : bb < N := by omega
      have HW := Lib.hid hw6
      have z1w := z1
      rw [← hw6, hob] at z1w
      subst hob
      clear hw6 hE36 hE56 hE35 hin5 hb5 hE_w4 hbox_w4 bl3 bR3 hat3 hb3 hla y0 y1 l0 l1 l2 l3 l4 l5 l6 hap hbw3 hS3
      have l0 := bl6.cell 0
      have l1 := bl6.cell 1
      have l2 := bl6.cell 2
      have l3 := bl6.cell 3
      have l4 := bl6.cell 4
      have l5 := bl6.cell 5
      have l6 := bl6.cell 6
      simp only [Live.cells, List.getElem?_toArray, List.getElem?_cons_zero, List.getElem?_cons_succ] at l0 l1 l2 l3 l4 l5 l6
      by_cases hk : kn = 7
      · subst hk
        by_cases hn : no = 0
        · subst hn
          by_cases hq : nb = 0
          · subst hq
            have hok : okM v (pl, ⟨kd, ld⟩) = true := by rw [HOK.out]; simp
            have HNX := Lib.hid (HN.out hok)
            have HGX := Lib.hid (HG.out hok)
            clear hok HOK HBAD HN HG l0 l1 l2 l3 l4 l5 l6
            have lf := bl5.frozen
            have l0 := bl5.cell 0
            have l1 := bl5.cell 1
            have l2 := bl5.cell 2
            have l3 := bl5.cell 3
            have l4 := bl5.cell 4
            have l5 := bl5.cell 5
            have l6 := bl5.cell 6
            simp only [Live.cells, List.getElem?_toArray, List.getElem?_cons_zero, List.getElem?_cons_succ] at l0 l1 l2 l3 l4 l5 l6
            have hS5 := bl5.lt
            clear bl6 bR6 bN6 hin6 hla6 hF6
            go_wp2
            have hF7 := fun x : Obj => (Fr.put7 hF5' (g := S + 1) (fun h => h rfl) (.int .u64 o.next) (.int .u64 o.seq) (.int .u64 o.log) (.slice (p2.A 0) (o.tab 0).length (p2.c 0)) (.slice (p2.A 1) (o.tab 1).length (p2.c 1)) (.slice (p2.A 2) (o.tab 2).length (p2.c 2)) (.slice (p2.A 3) (o.tab 3).length (p2.c 3))).alloc x
            refine ⟨⟨i + 1, o, p2, by omega, by simp, by simp, HNX.out, (bl5.put7 _ _ _ _ _ _ _).ext (Ext.al _ _), ?_, HGX.out, hF7 _⟩, by simp [intOf]; omega⟩
            exact fun j hj => ((hin5' j hj).fr (S := fun x => x ≠ S + 1) ((Fr.put7 (Fr.refl w5) (g := S + 1) (fun h => h rfl) _ _ _ _ _ _ _).alloc _) (Nat.le_refl _) (fun x h1 _ => by omega)).wide (by omega) (by simp)
          · have hne : ((nb : Int) != 0) = true := by simp; omega
            have hok : okM v (pl, ⟨kd, ld⟩) = false := by rw [HOK.out]; simp [hq]
            have HF := Lib.hid (HBAD.out hok)
            clear hok HOK HBAD HN HG
            go_wp2_with fail
            rw [HW.out]
            have r0 := bR6.cell 0
            have r1 := bR6.cell 1
            have r2 := bR6.cell 2
            have r3 := bR6.cell 3
            have r4 := bR6.cell 4
            have r5 := bR6.cell 5
            have r6 := bR6.cell 6
            have rf := bR6.frozen
            simp only [List.getElem?_toArray, List.getElem?_cons_zero, List.getElem?_cons_succ] at r0 r1 r2 r3 r4 r5 r6
            refine wp_region_sch (RS ((fun x => x = S + 1 ∨ x = bb))) 11 [(0, true), (1, true), (2, true), (3, true), (4, true), (5, true), (6, true), (7, false), (8, true), (9, true), (10, true)] (by kernel_rfl) (by kernel_rfl) RS.refl RS.trans (fun _ _ d _ _ h => by cases d <;> exact h) ?_
            refine wpSch_q ?_ rfl rfl (fun w' hR => ?_) ?_
            rotate_left
            · (obtain ⟨hRs, hRc⟩ := hR; (try have hRd := fun o => hRc _ o rfl (by first | (simp; done) | (simp; omega) | omega)); (try have hRe := fun o => hRc _ o (Or.inl rfl) (by first | (simp; done) | (simp; omega) | omega)); (try have hRf := fun o => hRc _ o (Or.inr rfl) (by first | (simp; done) | (simp; omega) | omega)); (try have hRg := fun o => hRc _ o (Or.inr (Or.inl rfl)) (by first | (simp; done) | (simp; omega) | omega)); (try have hRh := fun o => hRc _ o (Or.inr (Or.inr rfl)) (by first | (simp; done) | (simp; omega) | omega)); go_simp; first | rfl | rw [if_neg (by simp; omega)] | rw [if_neg (by omega)])
            (try simp only [Act.put, List.setIfInBounds_toArray, List.set_cons_zero, List.set_cons_succ])
            refine wpSch_q ?_ rfl rfl (fun w' hR => ?_) ?_
            rotate_left
            · (go_simp; first | rfl | rw [if_neg (by simp; omega)] | rw [if_neg (by omega)])
            (try simp only [Act.put, List.setIfInBounds_toArray, List.set_cons_zero, List.set_cons_succ])
            refine wpSch_q ?_ rfl rfl (fun w' hR => ?_) ?_
            rotate_left
            · (go_simp; first | rfl | rw [if_neg (by simp; omega)] | rw [if_neg (by omega)])
            (try simp only [Act.put, List.setIfInBounds_toArray, List.set_cons_zero, List.set_cons_succ])
            refine wpSch_q ?_ rfl rfl (fun w' hR => ?_) ?_
            rotate_left
            · (go_simp; first | rfl | rw [if_neg (by simp; omega)] | rw [if_neg (by omega)])
            (try simp only [Act.put, List.setIfInBounds_toArray, List.set_cons_zero, List.set_cons_succ])
            refine wpSch_q ?_ rfl rfl (fun w' hR => ?_) ?_
            rotate_left
            · (go_simp; first | rfl | rw [if_neg (by simp; omega)] | rw [if_neg (by omega)])
            (try simp only [Act.put, List.setIfInBounds_toArray, List.set_cons_zero, List.set_cons_succ])
            refine wpSch_q ?_ rfl rfl (fun w' hR => ?_) ?_
            rotate_left
            · (go_simp; first | rfl | rw [if_neg (by simp; omega)] | rw [if_neg (by omega)])
            (try simp only [Act.put, List.setIfInBounds_toArray, List.set_cons_zero, List.set_cons_succ])
            refine wpSch_q ?_ rfl rfl (fun w' hR => ?_) ?_
            rotate_left
            · (obtain ⟨hRs, hRc⟩ := hR; (try have hRd := fun o => hRc _ o rfl (by first | (simp; done) | (simp; omega) | omega)); (try have hRe := fun o => hRc _ o (Or.inl rfl) (by first | (simp; done) | (simp; omega) | omega)); (try have hRf := fun o => hRc _ o (Or.inr rfl) (by first | (simp; done) | (simp; omega) | omega)); (try have hRg := fun o => hRc _ o (Or.inr (Or.inl rfl)) (by first | (simp; done) | (simp; omega) | omega)); (try have hRh := fun o => hRc _ o (Or.inr (Or.inr rfl)) (by first | (simp; done) | (simp; omega) | omega)); go_simp; first | rfl | rw [if_neg (by simp; omega)] | rw [if_neg (by omega)])
            (try simp only [Act.put, List.setIfInBounds_toArray, List.set_cons_zero, List.set_cons_succ])
            refine wpSch_e rfl rfl (fun K hK => ?_)
            go_simp
            refine hK _ _ (fun _ => RS.put7 w6 (fun h => by omega) _ _ _ _ _ _ _) ?_
            clear hK K
            (try simp only [Act.put, List.setIfInBounds_toArray, List.set_cons_zero, List.set_cons_succ])
            skip
            refine wpSch_q ?_ rfl rfl (fun w' hR => ?_) ?_
            rotate_left
            · (go_simp; first | rfl | rw [if_neg (by simp; omega)] | rw [if_neg (by omega)])
            (try simp only [Act.put, List.setIfInBounds_toArray, List.set_cons_zero, List.set_cons_succ])
            refine wpSch_q ?_ rfl rfl (fun w' hR => ?_) ?_
            rotate_left
            · (go_simp; first | rfl | rw [if_neg (by simp; omega)] | rw [if_neg (by omega)])
            (try simp only [Act.put, List.setIfInBounds_toArray, List.set_cons_zero, List.set_cons_succ])
            refine wpSch_q ?_ rfl rfl (fun w' hR => ?_) ?_
            rotate_left
            · (go_simp; first | rfl | rw [if_neg (by simp; omega)] | rw [if_neg (by omega)])
            (try simp only [Act.put, List.setIfInBounds_toArray, List.set_cons_zero, List.set_cons_succ])
            refine wpSch_nil ?_
            clear r0 r1 r2 r3 r4 r5 r6 rf l0 l1 l2 l3 l4 l5 l6 z0 z1 z1w bN6 hin6 hrF hin5' hF5' hF bl6 bl5
            (try simp only [Exit.then]); (try go_at_K); (try dsimp only); (repeat (first | go_values | go_skip | go_guarded | go_step | go_upon)); (try simp only [Exit.inBlock, Exit.then])
            refine man_ret (r := (v, i, pl, 9)) (p := p) (S := S) rfl rfl rfl rfl rfl rfl (bR6.put7 _ _ _ _ _ _ _).drew ?_
            refine ManPost.mk HFR.out HF.out ?_ ?_ ?_
            · exact fun j hj => ((hla6 j hj).fr (S := fun x => x ≠ S) ((Fr.put7 (Fr.refl w6) (g := S) (fun h => h rfl) _ _ _ _ _ _ _).drew) (Nat.le_refl _) (fun x h1 _ => by omega)).wide (Nat.zero_le _) (by simp)
            · exact fun j hj => by have := hgd.out.len j hj; dsimp only; omega
            · exact (Below.put7 (Fr.ext ((Fr.of_ext (S := fun x => x < S) hX2).step hF6 (fun x _ h => by omega)) (by omega)) (by omega) _ _ _ _ _ _ _).trans' (Ext.dr _)
        · have hne : ((no : Int) != 0) = true := by simp; omega
          have hok : okM v (pl, ⟨kd, ld⟩) = false := by rw [HOK.out]; simp [hn]
          have HF := Lib.hid (HBAD.out hok)
          clear hok HOK HBAD HN HG
          go_wp2_with fail
          rw [HW.out]
          have r0 := bR6.cell 0
          have r1 := bR6.cell 1
          have r2 := bR6.cell 2
          have r3 := bR6.cell 3
          have r4 := bR6.cell 4
          have r5 := bR6.cell 5
          have r6 := bR6.cell 6
          have rf := bR6.frozen
          simp only [List.getElem?_toArray, List.getElem?_cons_zero, List.getElem?_cons_succ] at r0 r1 r2 r3 r4 r5 r6
          refine wp_region_sch (RS ((fun x => x = S + 1 ∨ x = bb))) 11 [(0, true), (1, true), (2, true), (3, true), (4, true), (5, true), (6, true), (7, false), (8, true), (9, true), (10, true)] (by kernel_rfl) (by kernel_rfl) RS.refl RS.trans (fun _ _ d _ _ h => by cases d <;> exact h) ?_
          refine wpSch_q ?_ rfl rfl (fun w' hR => ?_) ?_
          rotate_left
          · (obtain ⟨hRs, hRc⟩ := hR; (try have hRd := fun o => hRc _ o rfl (by first | (simp; done) | (simp; omega) | omega)); (try have hRe := fun o => hRc _ o (Or.inl rfl) (by first | (simp; done) | (simp; omega) | omega)); (try have hRf := fun o => hRc _ o (Or.inr rfl) (by first | (simp; done) | (simp; omega) | omega)); (try have hRg := fun o => hRc _ o (Or.inr (Or.inl rfl)) (by first | (simp; done) | (simp; omega) | omega)); (try have hRh := fun o => hRc _ o (Or.inr (Or.inr rfl)) (by first | (simp; done) | (simp; omega) | omega)); go_simp; first | rfl | rw [if_neg (by simp; omega)] | rw [if_neg (by omega)])
          (try simp only [Act.put, List.setIfInBounds_toArray, List.set_cons_zero, List.set_cons_succ])
          refine wpSch_q ?_ rfl rfl (fun w' hR => ?_) ?_
          rotate_left
          · (go_simp; first | rfl | rw [if_neg (by simp; omega)] | rw [if_neg (by omega)])
          (try simp only [Act.put, List.setIfInBounds_toArray, List.set_cons_zero, List.set_cons_succ])
          refine wpSch_q ?_ rfl rfl (fun w' hR => ?_) ?_
          rotate_left
          · (go_simp; first | rfl | rw [if_neg (by simp; omega)] | rw [if_neg (by omega)])
          (try simp only [Act.put, List.setIfInBounds_toArray, List.set_cons_zero, List.set_cons_succ])
          refine wpSch_q ?_ rfl rfl (fun w' hR => ?_) ?_
          rotate_left
          · (go_simp; first | rfl | rw [if_neg (by simp; omega)] | rw [if_neg (by omega)])
          (try simp only [Act.put, List.setIfInBounds_toArray, List.set_cons_zero, List.set_cons_succ])
          refine wpSch_q ?_ rfl rfl (fun w' hR => ?_) ?_
          rotate_left
          · (go_simp; first | rfl | rw [if_neg (by simp; omega)] | rw [if_neg (by omega)])
          (try simp only [Act.put, List.setIfInBounds_toArray, List.set_cons_zero, List.set_cons_succ])
          refine wpSch_q ?_ rfl rfl (fun w' hR => ?_) ?_
          rotate_left
          · (go_simp; first | rfl | rw [if_neg (by simp; omega)] | rw [if_neg (by omega)])
          (try simp only [Act.put, List.setIfInBounds_toArray, List.set_cons_zero, List.set_cons_succ])
          refine wpSch_q ?_ rfl rfl (fun w' hR => ?_) ?_
          rotate_left
          · (obtain ⟨hRs, hRc⟩ := hR; (try have hRd := fun o => hRc _ o rfl (by first | (simp; done) | (simp; omega) | omega)); (try have hRe := fun o => hRc _ o (Or.inl rfl) (by first | (simp; done) | (simp; omega) | omega)); (try have hRf := fun o => hRc _ o (Or.inr rfl) (by first | (simp; done) | (simp; omega) | omega)); (try have hRg := fun o => hRc _ o (Or.inr (Or.inl rfl)) (by first | (simp; done) | (simp; omega) | omega)); (try have hRh := fun o => hRc _ o (Or.inr (Or.inr rfl)) (by first | (simp; done) | (simp; omega) | omega)); go_simp; first | rfl | rw [if_neg (by simp; omega)] | rw [if_neg (by omega)])
          (try simp only [Act.put, List.setIfInBounds_toArray, List.set_cons_zero, List.set_cons_succ])
          refine wpSch_e rfl rfl (fun K hK => ?_)
          go_simp
          refine hK _ _ (fun _ => RS.put7 w6 (fun h => by omega) _ _ _ _ _ _ _) ?_
          clear hK K
          (try simp only [Act.put, List.setIfInBounds_toArray, List.set_cons_zero, List.set_cons_succ])
          skip
          refine wpSch_q ?_ rfl rfl (fun w' hR => ?_) ?_
          rotate_left
          · (go_simp; first | rfl | rw [if_neg (by simp; omega)] | rw [if_neg (by omega)])
          (try simp only [Act.put, List.setIfInBounds_toArray, List.set_cons_zero, List.set_cons_succ])
          refine wpSch_q ?_ rfl rfl (fun w' hR => ?_) ?_
          rotate_left
          · (go_simp; first | rfl | rw [if_neg (by simp; omega)] | rw [if_neg (by omega)])
          (try simp only [Act.put, List.setIfInBounds_toArray, List.set_cons_zero, List.set_cons_succ])
          refine wpSch_q ?_ rfl rfl (fun w' hR => ?_) ?_
          rotate_left
          · (go_simp; first | rfl | rw [if_neg (by simp; omega)] | rw [if_neg (by omega)])
          (try simp only [Act.put, List.setIfInBounds_toArray, List.set_cons_zero, List.set_cons_succ])
          refine wpSch_nil ?_
          clear r0 r1 r2 r3 r4 r5 r6 rf l0 l1 l2 l3 l4 l5 l6 z0 z1 z1w bN6 hin6 hrF hin5' hF5' hF bl6 bl5
          (try simp only [Exit.then]); (try go_at_K); (try dsimp only); (repeat (first | go_values | go_skip | go_guarded | go_step | go_upon)); (try simp only [Exit.inBlock, Exit.then])
          refine man_ret (r := (v, i, pl, 9)) (p := p) (S := S) rfl rfl rfl rfl rfl rfl (bR6.put7 _ _ _ _ _ _ _).drew ?_
          refine ManPost.mk HFR.out HF.out ?_ ?_ ?_
          · exact fun j hj => ((hla6 j hj).fr (S := fun x => x ≠ S) ((Fr.put7 (Fr.refl w6) (g := S) (fun h => h rfl) _ _ _ _ _ _ _).drew) (Nat.le_refl _) (fun x h1 _ => by omega)).wide (Nat.zero_le _) (by simp)
          · exact fun j hj => by have := hgd.out.len j hj; dsimp only; omega
          · exact (Below.put7 (Fr.ext ((Fr.of_ext (S := fun x => x < S) hX2).step hF6 (fun x _ h => by omega)) (by omega)) (by omega) _ _ _ _ _ _ _).trans' (Ext.dr _)
      · have hne : ((kn : Int) != 7) = true := by simp; omega
        have hok : okM v (pl, ⟨kd, ld⟩) = false := by rw [HOK.out]; simp [hk]
        have HF := Lib.hid (HBAD.out hok)
        clear hok HOK HBAD HN HG
        go_wp2_with fail
        rw [HW.out]
        have r0 := bR6.cell 0
        have r1 := bR6.cell 1
        have r2 := bR6.cell 2
        have r3 := bR6.cell 3
        have r4 := bR6.cell 4
        have r5 := bR6.cell 5
        have r6 := bR6.cell 6
        have rf := bR6.frozen
        simp only [List.getElem?_toArray, List.getElem?_cons_zero, List.getElem?_cons_succ] at r0 r1 r2 r3 r4 r5 r6
        refine wp_region_sch (RS ((fun x => x = S + 1 ∨ x = bb))) 11 [(0, true), (1, true), (2, true), (3, true), (4, true), (5, true), (6, true), (7, false), (8, true), (9, true), (10, true)] (by kernel_rfl) (by kernel_rfl) RS.refl RS.trans (fun _ _ d _ _ h => by cases d <;> exact h) ?_
        refine wpSch_q ?_ rfl rfl (fun w' hR => ?_) ?_
        rotate_left
        · (obtain ⟨hRs, hRc⟩ := hR; (try have hRd := fun o => hRc _ o rfl (by first | (simp; done) | (simp; omega) | omega)); (try have hRe := fun o => hRc _ o (Or.inl rfl) (by first | (simp; done) | (simp; omega) | omega)); (try have hRf := fun o => hRc _ o (Or.inr rfl) (by first | (simp; done) | (simp; omega) | omega)); (try have hRg := fun o => hRc _ o (Or.inr (Or.inl rfl)) (by first | (simp; done) | (simp; omega) | omega)); (try have hRh := fun o => hRc _ o (Or.inr (Or.inr rfl)) (by first | (simp; done) | (simp; omega) | omega)); go_simp; first | rfl | rw [if_neg (by simp; omega)] | rw [if_neg (by omega)])
        (try simp only [Act.put, List.setIfInBounds_toArray, List.set_cons_zero, List.set_cons_succ])
        refine wpSch_q ?_ rfl rfl (fun w' hR => ?_) ?_
        rotate_left
        · (go_simp; first | rfl | rw [if_neg (by simp; omega)] | rw [if_neg (by omega)])
        (try simp only [Act.put, List.setIfInBounds_toArray, List.set_cons_zero, List.set_cons_succ])
        refine wpSch_q ?_ rfl rfl (fun w' hR => ?_) ?_
        rotate_left
        · (go_simp; first | rfl | rw [if_neg (by simp; omega)] | rw [if_neg (by omega)])
        (try simp only [Act.put, List.setIfInBounds_toArray, List.set_cons_zero, List.set_cons_succ])
        refine wpSch_q ?_ rfl rfl (fun w' hR => ?_) ?_
        rotate_left
        · (go_simp; first | rfl | rw [if_neg (by simp; omega)] | rw [if_neg (by omega)])
        (try simp only [Act.put, List.setIfInBounds_toArray, List.set_cons_zero, List.set_cons_succ])
        refine wpSch_q ?_ rfl rfl (fun w' hR => ?_) ?_
        rotate_left
        · (go_simp; first | rfl | rw [if_neg (by simp; omega)] | rw [if_neg (by omega)])
        (try simp only [Act.put, List.setIfInBounds_toArray, List.set_cons_zero, List.set_cons_succ])
        refine wpSch_q ?_ rfl rfl (fun w' hR => ?_) ?_
        rotate_left
        · (go_simp; first | rfl | rw [if_neg (by simp; omega)] | rw [if_neg (by omega)])
        (try simp only [Act.put, List.setIfInBounds_toArray, List.set_cons_zero, List.set_cons_succ])
        refine wpSch_q ?_ rfl rfl (fun w' hR => ?_) ?_
        rotate_left
        · (obtain ⟨hRs, hRc⟩ := hR; (try have hRd := fun o => hRc _ o rfl (by first | (simp; done) | (simp; omega) | omega)); (try have hRe := fun o => hRc _ o (Or.inl rfl) (by first | (simp; done) | (simp; omega) | omega)); (try have hRf := fun o => hRc _ o (Or.inr rfl) (by first | (simp; done) | (simp; omega) | omega)); (try have hRg := fun o => hRc _ o (Or.inr (Or.inl rfl)) (by first | (simp; done) | (simp; omega) | omega)); (try have hRh := fun o => hRc _ o (Or.inr (Or.inr rfl)) (by first | (simp; done) | (simp; omega) | omega)); go_simp; first | rfl | rw [if_neg (by simp; omega)] | rw [if_neg (by omega)])
        (try simp only [Act.put, List.setIfInBounds_toArray, List.set_cons_zero, List.set_cons_succ])
        refine wpSch_e rfl rfl (fun K hK => ?_)
        go_simp
        refine hK _ _ (fun _ => RS.put7 w6 (fun h => by omega) _ _ _ _ _ _ _) ?_
        clear hK K
        (try simp only [Act.put, List.setIfInBounds_toArray, List.set_cons_zero, List.set_cons_succ])
        skip
        refine wpSch_q ?_ rfl rfl (fun w' hR => ?_) ?_
        rotate_left
        · (go_simp; first | rfl | rw [if_neg (by simp; omega)] | rw [if_neg (by omega)])
        (try simp only [Act.put, List.setIfInBounds_toArray, List.set_cons_zero, List.set_cons_succ])
        refine wpSch_q ?_ rfl rfl (fun w' hR => ?_) ?_
        rotate_left
        · (go_simp; first | rfl | rw [if_neg (by simp; omega)] | rw [if_neg (by omega)])
        (try simp only [Act.put, List.setIfInBounds_toArray, List.set_cons_zero, List.set_cons_succ])
        refine wpSch_q ?_ rfl rfl (fun w' hR => ?_) ?_
        rotate_left
        · (go_simp; first | rfl | rw [if_neg (by simp; omega)] | rw [if_neg (by omega)])
        (try simp only [Act.put, List.setIfInBounds_toArray, List.set_cons_zero, List.set_cons_succ])
        refine wpSch_nil ?_
        clear r0 r1 r2 r3 r4 r5 r6 rf l0 l1 l2 l3 l4 l5 l6 z0 z1 z1w bN6 hin6 hrF hin5' hF5' hF bl6 bl5
        (try simp only [Exit.then]); (try go_at_K); (try dsimp only); (repeat (first | go_values | go_skip | go_guarded | go_step | go_upon)); (try simp only [Exit.inBlock, Exit.then])
        refine man_ret (r := (v, i, pl, 9)) (p := p) (S := S) rfl rfl rfl rfl rfl rfl (bR6.put7 _ _ _ _ _ _ _).drew ?_
        refine ManPost.mk HFR.out HF.out ?_ ?_ ?_
        · exact fun j hj => ((hla6 j hj).fr (S := fun x => x ≠ S) ((Fr.put7 (Fr.refl w6) (g := S) (fun h => h rfl) _ _ _ _ _ _ _).drew) (Nat.le_refl _) (fun x h1 _ => by omega)).wide (Nat.zero_le _) (by simp)
        · exact fun j hj => by have := hgd.out.len j hj; dsimp only; omega
        · exact (Below.put7 (Fr.ext ((Fr.of_ext (S := fun x => x < S) hX2).step hF6 (fun x _ h => by omega)) (by omega)) (by omega) _ _ _ _ _ _ _).trans' (Ext.dr _)
    · obtain rfl : i = F.length := by omega
      have hH' := hH.out
      rw [List.drop_length, show runMR fin (v, F.length) [] = (v, F.length, fin, 0) from rfl] at hH'
      have HH := Lib.hid hH'
      have r0 := bR.cell 0
      have r1 := bR.cell 1
      have r2 := bR.cell 2
      have r3 := bR.cell 3
      have r4 := bR.cell 4
      have r5 := bR.cell 5
      have r6 := bR.cell 6
      have rf := bR.frozen
      have l0 := bl.cell 0
      have l1 := bl.cell 1
      have l2 := bl.cell 2
      have l3 := bl.cell 3
      have l4 := bl.cell 4
      have l5 := bl.cell 5
      have l6 := bl.cell 6
      simp only [Live.cells, List.getElem?_toArray, List.getElem?_cons_zero, List.getElem?_cons_succ] at r0 r1 r2 r3 r4 r5 r6 l0 l1 l2 l3 l4 l5 l6
      clear hH' hH hrF
      (try dsimp only); (repeat (first | go_values | go_skip | go_guarded | go_step | go_upon)); (try simp only [Exit.inBlock, Exit.then])
      refine man_ret (r := (v, F.length, fin, 0)) (p := p) (S := S) rfl rfl rfl rfl rfl rfl (bR.put7 _ _ _ _ _ _ _) ?_
      refine ManPost.mk HFR.out HH.out ?_ ?_ ?_
      · exact fun j hj => ((hla j hj).fr (S := fun x => x ≠ S) (Fr.put7 (Fr.refl wr) (g := S) (fun h => h rfl) _ _ _ _ _ _ _) (Nat.le_refl _) (fun x h1 _ => by omega)).wide (Nat.zero_le _) (by simp)
      · exact fun j hj => by have := hgd.out.len j hj; dsimp only; omega
      · exact Below.put7 hXr (by omega) _ _ _ _ _ _ _
end Go.Proofs.Yteplpgknnlehnaa
