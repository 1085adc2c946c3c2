/- The law ManifestApplies, walked. -/
import Derived.Test.YteplpgknnlehnaaApl5
import Derived.Test.YteplpgknnlehnaaApl6
import Derived.Test.YteplpgknnlehnaaSame
import Derived.Test.YteplpgknnlehnaaRegion2
import Derived.BigGuardPart
namespace Go.Proofs.Yteplpgknnlehnaa
set_option linter.unusedSimpArgs false
set_option linter.unusedVariables false
open Go.RowKit

/-- an edit, and where its rows lie -/
structure LE where
  e : Edit
  A : Option Addr
  A' : Option Addr
  c : Nat
  c' : Nat
def LE.cells (q : LE) : List Value := [.int .u64 q.e.next, .int .u64 q.e.seq, .int .u64 q.e.log, .slice q.A q.e.add.length q.c, .slice q.A' q.e.drop.length q.c']
theorem LE.cells_len (q : LE) : q.cells.length = 5 := rfl
structure EditsR (w : World) (A : Option Addr) (L : List LE) : Prop where
  row : Row w 0 w.heap.size 5 A L.length (L.flatMap LE.cells)
  at_ : ∀ q ∈ L, EditAt w w.heap.size q.e q.A q.A'
theorem EditsR.ext {w w' : World} {A : Option Addr} {L : List LE} (h : EditsR w A L) (hb : Ext w w') : EditsR w' A L :=
  ⟨(h.row.below hb (Nat.le_refl _)).wide (Nat.le_refl _) hb.size, fun q hq => (h.at_ q hq).ext hb⟩

theorem putRef_mem {l : List Table} {t u : Table} (h : u ∈ putRef l t) : u = t ∨ u ∈ l := by
  unfold putRef at h
  rcases List.mem_append.1 h with h | h
  · exact .inr ((List.takeWhile_sublist _).subset h)
  · rcases List.mem_cons.1 h with h | h
    · exact .inl h
    · exact .inr ((List.dropWhile_sublist _).subset h)
theorem addAll_grow {next : Nat} : ∀ (ts : List Table) (v o : Live), addAll putRef next ts v = some o → ∀ k, (o.tab k).length ≤ (v.tab k).length + ts.length ∧ ∀ u ∈ o.tab k, u ∈ v.tab k ∨ u ∈ ts
  | [], v, o, h, k => by
    cases h
    exact ⟨Nat.le_refl _, fun u hu => .inl hu⟩
  | t :: ts, v, o, h, k => by
    unfold addAll at h
    split at h
    · cases h
    · split at h
      · cases h
      · obtain ⟨h1, h2⟩ := addAll_grow ts _ o h k
        by_cases hk : k = lvl t
        · subst hk
          rw [Live.set_same] at h1 h2
          rw [putRef_len] at h1
          refine ⟨by simp; omega, fun u hu => ?_⟩
          rcases h2 u hu with h3 | h3
          · rcases putRef_mem h3 with rfl | h4
            · exact .inr (by simp)
            · exact .inl h4
          · exact .inr (by simp [h3])
        · rw [Live.set_other _ _ hk] at h1 h2
          refine ⟨by simp; omega, fun u hu => ?_⟩
          rcases h2 u hu with h3 | h3
          · exact .inl h3
          · exact .inr (by simp [h3])
theorem may_few {e : Edit} (h : e.may = true) : e.add.length ≤ 1000 := by
  simp [Edit.may] at h
  omega
/-- what is done makes little more -/
theorem apply_grow {v : Live} {e : Edit} (h : (applyWith putRef v e).2 = 0) (hok : e.Ok) (hn : ∀ x ∈ numsOf v, x < M64) :
    (∀ k, ((applyWith putRef v e).1.tab k).length ≤ (v.tab k).length + 1000) ∧ ∀ x ∈ numsOf (applyWith putRef v e).1, x < M64 := by
  unfold applyWith at h ⊢
  by_cases hm : e.may = false
  · rw [if_pos hm] at h; cases h
  · rw [if_neg hm] at h ⊢
    split at h
    · cases h
    · rename_i h1
      rw [if_neg h1]
      split at h
      · cases h
      · rename_i h2
        rw [if_neg h2]
        cases ha : addAll putRef e.next e.add (keptOf v e) with
        | none => rw [ha] at h; cases h
        | some o =>
          have hg := addAll_grow e.add _ o ha
          have hf := may_few (by simpa using hm)
          refine ⟨fun k => ?_, fun x hx => ?_⟩
          · have := (hg k).1
            have h3 : ((keptOf v e).tab k).length ≤ (v.tab k).length := List.length_filter_le _ _
            show (o.tab k).length ≤ _
            omega
          · obtain ⟨k, hk, t, ht, rfl⟩ := mem_numsOf.1 hx
            rcases (hg k).2 t ht with h3 | h3
            · exact hn _ (mem_numsOf.2 ⟨k, hk, t, (List.mem_filter.1 h3).1, rfl⟩)
            · exact (hok.add t h3).1
theorem apply_len (v : Live) (e : Edit) (k : Nat) : ((applyWith putRef v e).1.tab k).length ≤ (v.tab k).length + 1000 := by
  unfold applyWith
  split
  · simp [noLive]
  · rename_i hm
    split
    · simp [noLive]
    · split
      · simp [noLive]
      · split
        · simp [noLive]
        · rename_i o ha
          have h1 := (addAll_grow e.add _ o ha k).1
          have h2 := may_few (e := e) (by simpa using hm)
          have h3 : ((keptOf v e).tab k).length ≤ (v.tab k).length := List.length_filter_le _ _
          show (o.tab k).length ≤ _
          omega
theorem Fr.put7 {S : Nat → Prop} {a w : World} (h : Fr S a w) {g : Nat} (hg : ¬ S g) (v0 v1 v2 v3 v4 v5 v6 : Value) :
    Fr S a (((((((w.setCell ⟨g, 0, none⟩ v0).setCell ⟨g, 1, none⟩ v1).setCell ⟨g, 2, none⟩ v2).setCell ⟨g, 3, none⟩ v3).setCell ⟨g, 4, none⟩ v4).setCell ⟨g, 5, none⟩ v5).setCell ⟨g, 6, none⟩ v6) :=
  ((((((h.set (p := ⟨g, 0, none⟩) v0 (fun _ => hg)).set (p := ⟨g, 1, none⟩) v1 (fun _ => hg)).set (p := ⟨g, 2, none⟩) v2 (fun _ => hg)).set (p := ⟨g, 3, none⟩) v3 (fun _ => hg)).set (p := ⟨g, 4, none⟩) v4 (fun _ => hg)).set (p := ⟨g, 5, none⟩) v5 (fun _ => hg)).set (p := ⟨g, 6, none⟩) v6 (fun _ => hg)
theorem Fr.realloc (w : World) (x y : Obj) : Fr (fun b => b ≠ w.heap.size) (w.alloc x) (w.alloc y) :=
  ⟨rfl, rfl, rfl, by simp, fun k hk h => by
    have hk' : k < w.heap.size := by simp at hk; omega
    rw [Below.heap_alloc w x k hk', Below.heap_alloc w y k hk']⟩
set_option maxRecDepth 100000 in
set_option maxHeartbeats 6000000 in
theorem manifestApplies_walk (L0 : List LE) (hL : L0.length ≤ 1048576) (hq : ∀ q ∈ L0, q.e.Ok ∧ q.e.drop.length ≤ q.c') (A0 : Option Addr) (c0 : Nat) (w : World) (hr : EditsR w A0 L0) :
    Calls Try.prog 7 #[.slice A0 L0.length c0] w fun e w' => e = .returned (.bool true) ∧ Ext w w' := by
  have HR := Lib.hid (fun w' (hb : Ext w w') => hr.ext hb)
  have HQ := Lib.hid hq
  clear hr hq
  go_enter Try.func7, Try.ntmps7
  go_wp2_with fail
  obtain ⟨S, hS⟩ : ∃ S, w.heap.size = S := ⟨_, rfl⟩
  (obtain ⟨w0, hw0⟩ : ∃ w0, w0 = World.alloc w (.cells #[.int .u64 0, .int .u64 0, .int .u64 0, .slice none 0 0, .slice none 0 0, .slice none 0 0, .slice none 0 0] 48) := ⟨_, rfl⟩); (have hbox_w0 : Box w0 (w).heap.size 48 #[.int .u64 0, .int .u64 0, .int .u64 0, .slice none 0 0, .slice none 0 0, .slice none 0 0, .slice none 0 0] := by rw [hw0]; exact Box.new _ _ _); (have hE_w0 : Ext w w0 := by rw [hw0]; exact Ext.al _ _); (have hz_w0 : (w0).heap.size = (w).heap.size + 1 := by rw [hw0]; simp); rw [← hw0]; clear hw0
  (obtain ⟨w1, hw1⟩ : ∃ w1, w1 = World.alloc w0 (.cells #[.int .u64 0, .int .u64 0, .int .u64 0, .slice none 0 0, .slice none 0 0, .slice none 0 0, .slice none 0 0] 48) := ⟨_, rfl⟩); (have hbox_w1 : Box w1 (w0).heap.size 48 #[.int .u64 0, .int .u64 0, .int .u64 0, .slice none 0 0, .slice none 0 0, .slice none 0 0, .slice none 0 0] := by rw [hw1]; exact Box.new _ _ _); (have hE_w1 : Ext w0 w1 := by rw [hw1]; exact Ext.al _ _); (have hz_w1 : (w1).heap.size = (w0).heap.size + 1 := by rw [hw1]; simp); rw [← hw1]; clear hw1
  have ba := hbox_w0.ext hE_w1
  have bb := hbox_w1
  have hX1 := hE_w0.trans' hE_w1
  rw [hz_w0, hS] at bb
  rw [hS] at ba hz_w0 ⊢
  clear hbox_w0 hbox_w1 hE_w0 hE_w1
  have hz1 : w1.heap.size = S + 2 := by omega
  clear hz_w0 hz_w1
  go_loopw [5] (fun i wr => ∃ (k : Nat) (v : Live) (p p2 : Place), k ≤ L0.length ∧ i = .int .i64 k ∧ Box wr S 48 (v.cells p) ∧ Box wr (S + 1) 48 (v.cells p2) ∧ LiveAt wr v p ∧ LiveAt wr v p2 ∧ Hid v.Srt ∧
    (∀ j, j < 4 → (v.tab j).length ≤ 1000 * k) ∧ Hid (∀ x ∈ numsOf v, x < M64) ∧ Ext w wr) (fun i _ => L0.length - (intOf i).toNat)
  · exact ⟨0, noLive, noPlace, noPlace, by omega, rfl, ba, bb, (LiveAt.none_ (lo := 0) w1).live, (LiveAt.none_ (lo := 0) w1).live, noLive_srt, fun j _ => by simp [noLive], (fun x hx => by simp [numsOf, numsTo, noLive] at hx), hX1⟩
  · clear ba bb hX1 hz1
    obtain ⟨k, v, p, p2, hk, rfl, ba, bb, hla, hlb, hsr, hlen, hnum, hX⟩ := hrel
    by_cases hlk : k < L0.length
    · obtain ⟨q, hq⟩ : ∃ q, L0[k]? = some q := ⟨_, List.getElem?_eq_getElem hlk⟩
      have hqm := List.mem_of_getElem? hq
      obtain ⟨b, off, hA, -, hbw, hc⟩ := (HR.out _ hX).row.elem LE.cells_len rfl hq
      have c0' := hc 0 _ rfl
      have c1' := hc 1 _ rfl
      have c2' := hc 2 _ rfl
      have c3' := hc 3 _ rfl
      have c4' := hc 4 _ rfl
      rw [Nat.add_zero] at c0'
      have hok := (HQ.out q hqm).1
      have hcd := (HQ.out q hqm).2
      have hat := (HR.out _ hX).at_ q hqm
      have HHELD := Lib.hid (held_any q.e hok q.A q.A' q.c q.c' wr hat)
      have HOK := Lib.hid hok
      have HB := Lib.hid (fun w' (hb : Ext wr w') => (HR.out _ (hX.trans' hb)).at_ q hqm)
      have hal := hok.addLen
      have hdl := hok.dropLen
      have HC := Lib.hid (fun w' (hb : Ext wr w') j u (hj : q.cells[j]? = some u) => (hb.cell (p := ⟨b, off + k * 5 + j, none⟩) hbw).trans (hc j u hj))
      rw [hA]
      clear hc hq hqm hok hat
      go_wp2_with fail
      refine HHELD.out.mono ?_
      rintro _ w2 ⟨g, g', rfl, bG, bG', hg, hg', hgg, hb2⟩
      have ba2 := ba.ext hb2
      have bb2 := bb.ext hb2
      have hz2 := hb2.size
      have hg2 := bG.lt
      have hg2' := bG'.lt
      have hSr : S + 1 < wr.heap.size := bb.lt
      have hS2 : S + 1 < w2.heap.size := bb2.lt
      have hS2' : S < w2.heap.size := ba2.lt
      clear ba bb c0' c1' c2' c3' c4' HHELD
      have b0 := bb2.cell 0
      have b1 := bb2.cell 1
      have b2 := bb2.cell 2
      have b3 := bb2.cell 3
      have b4 := bb2.cell 4
      have b5 := bb2.cell 5
      have b6 := bb2.cell 6
      have a0 := ba2.cell 0
      have a1 := ba2.cell 1
      have a2 := ba2.cell 2
      have a3 := ba2.cell 3
      have a4 := ba2.cell 4
      have a5 := ba2.cell 5
      have a6 := ba2.cell 6
      simp only [Live.cells, List.getElem?_toArray, List.getElem?_cons_zero, List.getElem?_cons_succ] at a0 a1 a2 a3 a4 a5 a6 b0 b1 b2 b3 b4 b5 b6
      dsimp only [Edit.val]
      go_wp2_with fail
      obtain ⟨G, hG⟩ : ∃ G, w2.heap.size = G := ⟨_, rfl⟩
      (obtain ⟨w3, hw3⟩ : ∃ w3, w3 = World.alloc w2 (.cells #[.int .u64 q.e.next, .int .u64 q.e.seq, .int .u64 q.e.log, .slice (some ⟨g, 0, none⟩) q.e.add.length q.e.add.length, .slice (some ⟨g', 0, none⟩) q.e.drop.length q.e.drop.length] 35) := ⟨_, rfl⟩); (have hbox_w3 : Box w3 (w2).heap.size 35 #[.int .u64 q.e.next, .int .u64 q.e.seq, .int .u64 q.e.log, .slice (some ⟨g, 0, none⟩) q.e.add.length q.e.add.length, .slice (some ⟨g', 0, none⟩) q.e.drop.length q.e.drop.length] := by rw [hw3]; exact Box.new _ _ _); (have hE_w3 : Ext w2 w3 := by rw [hw3]; exact Ext.al _ _); (have hz_w3 : (w3).heap.size = (w2).heap.size + 1 := by rw [hw3]; simp); rw [← hw3]; clear hw3
      (obtain ⟨w4, hw4⟩ : ∃ w4, w4 = World.alloc w3 (.cells #[.int .u64 v.next, .int .u64 v.seq, .int .u64 v.log, .slice (p2.A 0) (v.tab 0).length (p2.c 0), .slice (p2.A 1) (v.tab 1).length (p2.c 1), .slice (p2.A 2) (v.tab 2).length (p2.c 2), .slice (p2.A 3) (v.tab 3).length (p2.c 3)] 48) := ⟨_, rfl⟩); (have hbox_w4 : Box w4 (w3).heap.size 48 #[.int .u64 v.next, .int .u64 v.seq, .int .u64 v.log, .slice (p2.A 0) (v.tab 0).length (p2.c 0), .slice (p2.A 1) (v.tab 1).length (p2.c 1), .slice (p2.A 2) (v.tab 2).length (p2.c 2), .slice (p2.A 3) (v.tab 3).length (p2.c 3)] := by rw [hw4]; exact Box.new _ _ _); (have hE_w4 : Ext w3 w4 := by rw [hw4]; exact Ext.al _ _); (have hz_w4 : (w4).heap.size = (w3).heap.size + 1 := by rw [hw4]; simp); rw [← hw4]; clear hw4
      have bX4 := hbox_w3.ext hE_w4
      have bY4 := hbox_w4
      have hE4 := hE_w3.trans' hE_w4
      have hz4 : w4.heap.size = G + 2 := by omega
      rw [hz_w3, hG] at bY4
      rw [hG] at bX4 hz2 hg2 hg2' hS2 hS2' ⊢
      clear hbox_w3 hbox_w4 hE_w3 hE_w4 hz_w3 hz_w4 a0 a1 a2 a3 a4 a5 a6 b0 b1 b2 b3 b4 b5 b6
      have hrg4 := hb2.trans' hE4
      have bG4 := bG.ext hE4
      have bG4' := bG'.ext hE4
      have ba4 := ba2.ext hE4
      have bb4 := bb2.ext hE4
      have hv37 : ∀ j, j < 4 → (v.tab j).length ≤ 137438953472 := fun j hj => by have := hlen j hj; omega
      have HAP := apply_any v p q.e HOK.out (fun j hj => Nat.le_trans (hv37 j hj) (by omega)) hnum.out (some ⟨g, 0, none⟩) (some ⟨g', 0, none⟩) q.e.add.length q.e.drop.length w4 (EditAt.of_boxes bG4 bG4') (hla.ext hrg4)
      obtain ⟨sm1, sm2⟩ := apply_same hsr.out q.e
      have HGR := Lib.hid (fun h => apply_grow (v := v) (e := q.e) h HOK.out hnum.out)
      have HREF := Lib.hid (fun (w' : World) (hb : Ext wr w') => apply_ref v p2 q.e HOK.out hv37 q.A q.A' q.c q.c' hcd w' (HB.out w' hb) (hlb.ext hb))
      rw [sm1] at HAP
      have HSR := Lib.hid sm2
      obtain ⟨⟨o, no⟩, hro⟩ : ∃ r, applyWith putRef v q.e = r := ⟨_, rfl⟩
      have hlo : ∀ j, (o.tab j).length ≤ (v.tab j).length + 1000 := fun j => by have := apply_len v q.e j; rw [hro] at this; exact this
      rw [hro] at HAP HGR HREF HSR
      clear sm1 sm2 hro ba2 bb2 bG bG'
      refine HAP.mono ?_
      rintro _ w5 ⟨p3, rfl, hin3, hb5⟩
      dsimp only [livVal, Live.cells]
      have ba5 := ba4.ext hb5
      have bb5 := bb4.ext hb5
      have bX5 := bX4.ext hb5
      have bY5 := bY4.ext hb5
      have bG5 := bG4.ext hb5
      have bG5' := bG4'.ext hb5
      have hrg5 := hrg4.trans' hb5
      have hz5 := hb5.size
      clear HAP ba4 bb4 bX4 bY4 bG4 bG4'
      go_wp2_with fail
      obtain ⟨N, hN⟩ : ∃ N, w5.heap.size = N := ⟨_, rfl⟩
      (obtain ⟨w6, hw6⟩ : ∃ w6, w6 = World.alloc w5 (.cells #[.int .u64 o.next, .int .u64 o.seq, .int .u64 o.log, .slice (p3.A 0) (o.tab 0).length (p3.c 0), .slice (p3.A 1) (o.tab 1).length (p3.c 1), .slice (p3.A 2) (o.tab 2).length (p3.c 2), .slice (p3.A 3) (o.tab 3).length (p3.c 3)] 48) := ⟨_, rfl⟩); (have hbox_w6 : Box w6 (w5).heap.size 48 #[.int .u64 o.next, .int .u64 o.seq, .int .u64 o.log, .slice (p3.A 0) (o.tab 0).length (p3.c 0), .slice (p3.A 1) (o.tab 1).length (p3.c 1), .slice (p3.A 2) (o.tab 2).length (p3.c 2), .slice (p3.A 3) (o.tab 3).length (p3.c 3)] := by rw [hw6]; exact Box.new _ _ _); (have hE_w6 : Ext w5 w6 := by rw [hw6]; exact Ext.al _ _); (have hz_w6 : (w6).heap.size = (w5).heap.size + 1 := by rw [hw6]; simp); rw [← hw6]; clear hw6
      have bN6 : Box w6 N 48 (o.cells p3) := by rw [← hN]; exact hbox_w6
      have ba6 := ba5.ext hE_w6
      have bb6 := bb5.ext hE_w6
      have bX6 := bX5.ext hE_w6
      have bY6 := bY5.ext hE_w6
      have bG6 := bG5.ext hE_w6
      have bG6' := bG5'.ext hE_w6
      have hrg6 := hrg5.trans' hE_w6
      have hin6 : LiveIn w6 (G + 2) o p3 := fun j hj => by
        have := (hin3 j hj).below hE_w6 (Nat.le_refl _)
        rw [hz4] at this
        exact this.wide (Nat.le_refl _) hE_w6.size
      have hz6 : w6.heap.size = N + 1 := by omega
      have hGN : G + 2 ≤ N := by omega
      rw [hN]
      clear hbox_w6 hE_w6 hz_w6 ba5 bb5 bX5 bY5 bG5 bG5' hrg5 hin3 hz5 hb5
      have s0 := bb6.cell 0
      have s1 := bb6.cell 1
      have s2 := bb6.cell 2
      have s3 := bb6.cell 3
      have s4 := bb6.cell 4
      have s5 := bb6.cell 5
      have s6 := bb6.cell 6
      have e0 := HC.out w6 hrg6 0 _ rfl
      have e1 := HC.out w6 hrg6 1 _ rfl
      have e2 := HC.out w6 hrg6 2 _ rfl
      have e3 := HC.out w6 hrg6 3 _ rfl
      have e4 := HC.out w6 hrg6 4 _ rfl
      rw [Nat.add_zero] at e0
      simp only [Live.cells, List.getElem?_toArray, List.getElem?_cons_zero, List.getElem?_cons_succ] at s0 s1 s2 s3 s4 s5 s6
      have hbw6 : b < w6.heap.size := by have := hrg6.size; omega
      have hSw6 : S + 1 < w6.heap.size := bb6.lt
      have j0 : (0 : Int) ≤ (k : Int) := by omega
      have j1 : (k : Int) < (L0.length : Int) := by omega
      have hrd6 : Ext wr w6.drew := hrg6.trans' (Ext.dr w6)
      refine wp_region_tr (RS ((fun x => x = S + 1 ∨ x = b))) 12 (.q 0 (.q 1 (.q 2 (.q 3 (.q 4 (.fork 5 9 (.q 6 (.q 7 (.q 8 (.e 9 (.e 10 (.q 11 .done)))))) (.e 5 (.q 6 (.q 7 (.q 8 (.e 10 (.q 11 .done)))))))))))) (by kernel_rfl) (by kernel_rfl) RS.refl RS.trans (fun _ _ d _ _ h => by cases d <;> exact h) ?_
      refine wpTr_q ?_ rfl rfl (fun w' hR => ?_) ?_
      rotate_left
      · (obtain ⟨hRs, hRc⟩ := hR; (try have hRd := fun o => hRc _ o (rfl) (by first | (simp; done) | (simp; omega) | omega)); (try have hRe := fun o => hRc _ o (Or.inl rfl) (by first | (simp; done) | (simp; omega) | omega)); (try have hRf := fun o => hRc _ o (Or.inr rfl) (by first | (simp; done) | (simp; omega) | omega)); (try have hRg := fun o => hRc _ o (Or.inr (Or.inl rfl)) (by first | (simp; done) | (simp; omega) | omega)); (try have hRh := fun o => hRc _ o (Or.inr (Or.inr rfl)) (by first | (simp; done) | (simp; omega) | omega)); go_simp; first | rfl | rw [if_neg (by simp; omega)] | rw [if_neg (by omega)])
      (try simp only [Act.put, List.setIfInBounds_toArray, List.set_cons_zero, List.set_cons_succ])
      refine wpTr_q ?_ rfl rfl (fun w' hR => ?_) ?_
      rotate_left
      · (go_simp; first | rfl | rw [if_neg (by simp; omega)] | rw [if_neg (by omega)])
      (try simp only [Act.put, List.setIfInBounds_toArray, List.set_cons_zero, List.set_cons_succ])
      refine wpTr_q ?_ rfl rfl (fun w' hR => ?_) ?_
      rotate_left
      · (go_simp; first | rfl | rw [if_neg (by simp; omega)] | rw [if_neg (by omega)])
      (try simp only [Act.put, List.setIfInBounds_toArray, List.set_cons_zero, List.set_cons_succ])
      refine wpTr_q ?_ rfl rfl (fun w' hR => ?_) ?_
      rotate_left
      · (go_simp; first | rfl | rw [if_neg (by simp; omega)] | rw [if_neg (by omega)])
      (try simp only [Act.put, List.setIfInBounds_toArray, List.set_cons_zero, List.set_cons_succ])
      refine wpTr_q ?_ rfl rfl (fun w' hR => ?_) ?_
      rotate_left
      · (obtain ⟨hRs, hRc⟩ := hR; (try have hRd := fun o => hRc _ o (rfl) (by first | (simp; done) | (simp; omega) | omega)); (try have hRe := fun o => hRc _ o (Or.inl rfl) (by first | (simp; done) | (simp; omega) | omega)); (try have hRf := fun o => hRc _ o (Or.inr rfl) (by first | (simp; done) | (simp; omega) | omega)); (try have hRg := fun o => hRc _ o (Or.inr (Or.inl rfl)) (by first | (simp; done) | (simp; omega) | omega)); (try have hRh := fun o => hRc _ o (Or.inr (Or.inr rfl)) (by first | (simp; done) | (simp; omega) | omega)); go_simp; first | rfl | rw [if_neg (by simp; omega)] | rw [if_neg (by omega)])
      (try simp only [Act.put, List.setIfInBounds_toArray, List.set_cons_zero, List.set_cons_succ])
      refine wpTr_fork ?_ ?_
      refine wpTr_e rfl rfl (fun K hK => ?_)
      go_simp
      refine (HREF.out w6.drew hrd6).mono ?_
      rintro e wA ⟨p4, rfl, hin4, hbA⟩
      refine hK _ _ (fun _ => RS.fr (S' := fun _ => True) (Fr.of_ext hbA) (fun _ _ _ => trivial)) ?_
      clear hK K
      (try simp only [Act.put, List.setIfInBounds_toArray, List.set_cons_zero, List.set_cons_succ])
      (dsimp only [livVal, Live.cells]; have hzA : w6.heap.size ≤ wA.heap.size := hbA.size)
      refine wpTr_q ?_ rfl rfl (fun w' hR => ?_) ?_
      rotate_left
      · (go_simp; first | rfl | rw [if_neg (by simp; omega)] | rw [if_neg (by omega)])
      (try simp only [Act.put, List.setIfInBounds_toArray, List.set_cons_zero, List.set_cons_succ])
      refine wpTr_q ?_ rfl rfl (fun w' hR => ?_) ?_
      rotate_left
      · (go_simp; first | rfl | rw [if_neg (by simp; omega)] | rw [if_neg (by omega)])
      (try simp only [Act.put, List.setIfInBounds_toArray, List.set_cons_zero, List.set_cons_succ])
      refine wpTr_q ?_ rfl rfl (fun w' hR => ?_) ?_
      rotate_left
      · (go_simp; first | rfl | rw [if_neg (by simp; omega)] | rw [if_neg (by omega)])
      (try simp only [Act.put, List.setIfInBounds_toArray, List.set_cons_zero, List.set_cons_succ])
      refine wpTr_e rfl rfl (fun K hK => ?_)
      go_simp
      refine hK _ _ (fun _ => RS.alloc _) ?_
      clear hK K
      (try simp only [Act.put, List.setIfInBounds_toArray, List.set_cons_zero, List.set_cons_succ])
      refine wpTr_e rfl rfl (fun K hK => ?_)
      go_simp
      refine hK _ _ (fun _ => RS.fr (S' := fun x => x ≠ wA.heap.size) (Fr.realloc _ _ _) (fun x _ h => by rcases h with rfl | rfl <;> omega)) ?_
      clear hK K
      (try simp only [Act.put, List.setIfInBounds_toArray, List.set_cons_zero, List.set_cons_succ])
      refine wpTr_q ?_ rfl rfl (fun w' hR => ?_) ?_
      rotate_left
      · (go_simp; first | rfl | rw [if_neg (by simp; omega)] | rw [if_neg (by omega)])
      (try simp only [Act.put, List.setIfInBounds_toArray, List.set_cons_zero, List.set_cons_succ])
      refine wpTr_done ?_
      rotate_left
      refine wpTr_e rfl rfl (fun K hK => ?_)
      go_simp
      refine hK _ _ (fun _ => RS.alloc _) ?_
      clear hK K
      (try simp only [Act.put, List.setIfInBounds_toArray, List.set_cons_zero, List.set_cons_succ])
      refine wpTr_e rfl rfl (fun K hK => ?_)
      go_simp
      refine (HREF.out (w6.drew.alloc (.cells #[.int .u64 0, .int .u64 0, .int .u64 0, .slice none 0 0, .slice none 0 0, .slice none 0 0, .slice none 0 0] 48)) (hrd6.trans' (Ext.al _ _))).mono ?_
      rintro e wA ⟨p4, rfl, hin4, hbA⟩
      refine hK _ _ (fun _ => RS.fr (S' := fun _ => True) (Fr.of_ext hbA) (fun _ _ _ => trivial)) ?_
      clear hK K
      (try simp only [Act.put, List.setIfInBounds_toArray, List.set_cons_zero, List.set_cons_succ])
      (dsimp only [livVal, Live.cells]; have bZ := (Box.new_at w6.drew 48 #[.int .u64 0, .int .u64 0, .int .u64 0, .slice none 0 0, .slice none 0 0, .slice none 0 0, .slice none 0 0] (N + 1) hz6.symm).ext hbA; have z0 := bZ.cell 0; have z1 := bZ.cell 1; have z2 := bZ.cell 2; have z3 := bZ.cell 3; have z4 := bZ.cell 4; have z5 := bZ.cell 5; have z6 := bZ.cell 6; have zf := bZ.frozen; simp only [List.getElem?_toArray, List.getElem?_cons_zero, List.getElem?_cons_succ] at z0 z1 z2 z3 z4 z5 z6)
      refine wpTr_q ?_ rfl rfl (fun w' hR => ?_) ?_
      rotate_left
      · (go_simp; first | rfl | rw [if_neg (by simp; omega)] | rw [if_neg (by omega)])
      (try simp only [Act.put, List.setIfInBounds_toArray, List.set_cons_zero, List.set_cons_succ])
      refine wpTr_q ?_ rfl rfl (fun w' hR => ?_) ?_
      rotate_left
      · (go_simp; first | rfl | rw [if_neg (by simp; omega)] | rw [if_neg (by omega)])
      (try simp only [Act.put, List.setIfInBounds_toArray, List.set_cons_zero, List.set_cons_succ])
      refine wpTr_q ?_ rfl rfl (fun w' hR => ?_) ?_
      rotate_left
      · (go_simp; first | rfl | rw [if_neg (by simp; omega)] | rw [if_neg (by omega)])
      (try simp only [Act.put, List.setIfInBounds_toArray, List.set_cons_zero, List.set_cons_succ])
      refine wpTr_e rfl rfl (fun K hK => ?_)
      go_simp
      refine hK _ _ (fun _ => RS.fr (S' := fun x => x ≠ N + 1) (Fr.put7 (Fr.refl wA) (g := N + 1) (fun k => k rfl) _ _ _ _ _ _ _) (fun x _ h => by rcases h with rfl | rfl <;> omega)) ?_
      clear hK K
      (try simp only [Act.put, List.setIfInBounds_toArray, List.set_cons_zero, List.set_cons_succ])
      refine wpTr_q ?_ rfl rfl (fun w' hR => ?_) ?_
      rotate_left
      · (go_simp; first | rfl | rw [if_neg (by simp; omega)] | rw [if_neg (by omega)])
      (try simp only [Act.put, List.setIfInBounds_toArray, List.set_cons_zero, List.set_cons_succ])
      refine wpTr_done ?_
      rotate_left
      ·
        obtain ⟨X, hXe⟩ : ∃ X, wA.heap.size = X := ⟨_, rfl⟩
        obtain ⟨w7, hw7⟩ : ∃ w7, w7 = wA.alloc (.cells (o.cells p4) 48) := ⟨_, rfl⟩
        rw [show wA.alloc (.cells #[.int .u64 o.next, .int .u64 o.seq, .int .u64 o.log, .slice (p4.A 0) (o.tab 0).length (p4.c 0), .slice (p4.A 1) (o.tab 1).length (p4.c 1), .slice (p4.A 2) (o.tab 2).length (p4.c 2), .slice (p4.A 3) (o.tab 3).length (p4.c 3)] 48) = w7 from hw7.symm, hXe]
        have bW7 : Box w7 X 48 (o.cells p4) := by rw [hw7]; exact Box.new_at _ _ _ _ hXe.symm
        have hEA : Ext w6 wA := (Ext.dr w6).trans' hbA
        have hE67 : Ext w6 w7 := by rw [hw7]; exact hEA.trans' (Ext.al _ _)
        have hin7 : LiveIn w7 (N + 1) o p4 := fun j hj => by
          have h1 := (hin4 j hj).below (Ext.al wA (.cells (o.cells p4) 48)) (Nat.le_refl _)
          rw [hw7]
          exact h1.wide (by show N + 1 ≤ w6.heap.size; omega) (Ext.al wA (.cells (o.cells p4) 48)).size
        have hXN : N + 1 ≤ X := by have := hEA.size; omega
        clear hin4 hbA hw7 hXe hzA hEA HREF
        have hr7 := hrg6.trans' hE67
        have ba7 := ba6.ext hE67
        have bX7 := bX6.ext hE67
        have bY7 := bY6.ext hE67
        have bN7 := bN6.ext hE67
        have bG7 := bG6.ext hE67
        have bG7' := bG6'.ext hE67
        have bb7 := bb6.ext hE67
        have hin67 : LiveIn w7 (G + 2) o p3 := fun j hj => ((hin6 j hj).below hE67 (Nat.le_refl _)).wide (Nat.le_refl _) hE67.size
        have hv40 : ∀ j, j < 4 → (v.tab j).length ≤ 1099511627776 := fun j hj => Nat.le_trans (hv37 j hj) (by omega)
        have ho40 : ∀ j, j < 4 → (o.tab j).length ≤ 1099511627776 := fun j hj => by have h1 := hv37 j hj; have h2 := hlo j; omega
        have HS1 := Lib.hid (sameLive_same v hv40 p p2 w7 (hla.ext hr7) (hlb.ext hr7))
        have HS2 := Lib.hid (fun w' (hb : Ext w7 w') => sameLive_same o ho40 p3 p4 w' (hin67.live.ext hb) (hin7.live.ext hb))
        clear hin6 ba6 bX6 bY6 bN6 bG6 bG6' bb6 s0 s1 s2 s3 s4 s5 s6 e0 e1 e2 e3 e4 hbw6 hSw6 hrd6 hv40 ho40
        have a0 := ba7.cell 0
        have a1 := ba7.cell 1
        have a2 := ba7.cell 2
        have a3 := ba7.cell 3
        have a4 := ba7.cell 4
        have a5 := ba7.cell 5
        have a6 := ba7.cell 6
        have y0 := bY7.cell 0
        have y1 := bY7.cell 1
        have y2 := bY7.cell 2
        have y3 := bY7.cell 3
        have y4 := bY7.cell 4
        have y5 := bY7.cell 5
        have y6 := bY7.cell 6
        simp only [Live.cells, List.getElem?_toArray, List.getElem?_cons_zero, List.getElem?_cons_succ] at a0 a1 a2 a3 a4 a5 a6 y0 y1 y2 y3 y4 y5 y6
        go_wp2_with fail
        refine HS1.out.mono ?_
        rintro _ w8 ⟨rfl, hb8⟩
        clear a0 a1 a2 a3 a4 a5 a6 y0 y1 y2 y3 y4 y5 y6 HS1 bY7
        have bN8 := bN7.ext hb8
        have bW8 := bW7.ext hb8
        have a0 := bN8.cell 0
        have a1 := bN8.cell 1
        have a2 := bN8.cell 2
        have a3 := bN8.cell 3
        have a4 := bN8.cell 4
        have a5 := bN8.cell 5
        have a6 := bN8.cell 6
        have y0 := bW8.cell 0
        have y1 := bW8.cell 1
        have y2 := bW8.cell 2
        have y3 := bW8.cell 3
        have y4 := bW8.cell 4
        have y5 := bW8.cell 5
        have y6 := bW8.cell 6
        simp only [Live.cells, List.getElem?_toArray, List.getElem?_cons_zero, List.getElem?_cons_succ] at a0 a1 a2 a3 a4 a5 a6 y0 y1 y2 y3 y4 y5 y6
        go_wp2_with fail
        refine (HS2.out w8 hb8).mono ?_
        rintro _ w9 ⟨rfl, hb9⟩
        clear a0 a1 a2 a3 a4 a5 a6 y0 y1 y2 y3 y4 y5 y6 HS2 bN8 bW8
        have hE79 := hb8.trans' hb9
        have hr9 := hr7.trans' hE79
        have bX9 := bX7.ext hE79
        have hrd9 : Ext wr w9.drew := hr9.trans' (Ext.dr w9)
        have HSE := sameEdit_any q.e q.e HOK.out.addLen HOK.out.addLen HOK.out.dropLen HOK.out.dropLen (some ⟨g, 0, none⟩) (some ⟨g', 0, none⟩) q.A q.A' q.e.add.length q.e.drop.length q.c q.c' w9.drew (EditAt.of_boxes (bG7.ext (hE79.trans' (Ext.dr w9))) (bG7'.ext (hE79.trans' (Ext.dr w9)))) (HB.out _ hrd9)
        rw [decide_eq_true rfl] at HSE
        have HSE := Lib.hid HSE
        have x0 := bX9.cell 0
        have x1 := bX9.cell 1
        have x2 := bX9.cell 2
        have x3 := bX9.cell 3
        have x4 := bX9.cell 4
        have e0 := HC.out w9 hr9 0 _ rfl
        have e1 := HC.out w9 hr9 1 _ rfl
        have e2 := HC.out w9 hr9 2 _ rfl
        have e3 := HC.out w9 hr9 3 _ rfl
        have e4 := HC.out w9 hr9 4 _ rfl
        rw [Nat.add_zero] at e0
        simp only [List.getElem?_toArray, List.getElem?_cons_zero, List.getElem?_cons_succ] at x0 x1 x2 x3 x4
        have hbw9 : b < w9.heap.size := by have := hr9.size; omega
        have hGw9 : G < w9.heap.size := bX9.lt
        go_wp2_with fail
        refine wp_region_sch (RS ((fun x => x = G ∨ x = b))) 7 [(0, true), (1, true), (2, true), (3, true), (4, true), (5, false), (6, true)] (by kernel_rfl) (by kernel_rfl) RS.refl RS.trans (fun _ _ d _ _ h => by cases d <;> exact h) ?_
        refine wpSch_q ?_ rfl rfl (fun w' hR => ?_) ?_
        rotate_left
        · (obtain ⟨hRs, hRc⟩ := hR; (try have hRd := fun o => hRc _ o rfl (by first | (simp; done) | (simp; omega) | omega)); (try have hRe := fun o => hRc _ o (Or.inl rfl) (by first | (simp; done) | (simp; omega) | omega)); (try have hRf := fun o => hRc _ o (Or.inr rfl) (by first | (simp; done) | (simp; omega) | omega)); (try have hRg := fun o => hRc _ o (Or.inr (Or.inl rfl)) (by first | (simp; done) | (simp; omega) | omega)); (try have hRh := fun o => hRc _ o (Or.inr (Or.inr rfl)) (by first | (simp; done) | (simp; omega) | omega)); go_simp; first | rfl | rw [if_neg (by simp; omega)] | rw [if_neg (by omega)])
        (try simp only [Act.put, List.setIfInBounds_toArray, List.set_cons_zero, List.set_cons_succ])
        refine wpSch_q ?_ rfl rfl (fun w' hR => ?_) ?_
        rotate_left
        · (go_simp; first | rfl | rw [if_neg (by simp; omega)] | rw [if_neg (by omega)])
        (try simp only [Act.put, List.setIfInBounds_toArray, List.set_cons_zero, List.set_cons_succ])
        refine wpSch_q ?_ rfl rfl (fun w' hR => ?_) ?_
        rotate_left
        · (go_simp; first | rfl | rw [if_neg (by simp; omega)] | rw [if_neg (by omega)])
        (try simp only [Act.put, List.setIfInBounds_toArray, List.set_cons_zero, List.set_cons_succ])
        refine wpSch_q ?_ rfl rfl (fun w' hR => ?_) ?_
        rotate_left
        · (go_simp; first | rfl | rw [if_neg (by simp; omega)] | rw [if_neg (by omega)])
        (try simp only [Act.put, List.setIfInBounds_toArray, List.set_cons_zero, List.set_cons_succ])
        refine wpSch_q ?_ rfl rfl (fun w' hR => ?_) ?_
        rotate_left
        · (obtain ⟨hRs, hRc⟩ := hR; (try have hRd := fun o => hRc _ o rfl (by first | (simp; done) | (simp; omega) | omega)); (try have hRe := fun o => hRc _ o (Or.inl rfl) (by first | (simp; done) | (simp; omega) | omega)); (try have hRf := fun o => hRc _ o (Or.inr rfl) (by first | (simp; done) | (simp; omega) | omega)); (try have hRg := fun o => hRc _ o (Or.inr (Or.inl rfl)) (by first | (simp; done) | (simp; omega) | omega)); (try have hRh := fun o => hRc _ o (Or.inr (Or.inr rfl)) (by first | (simp; done) | (simp; omega) | omega)); go_simp; first | rfl | rw [if_neg (by simp; omega)] | rw [if_neg (by omega)])
        (try simp only [Act.put, List.setIfInBounds_toArray, List.set_cons_zero, List.set_cons_succ])
        refine wpSch_e rfl rfl (fun K hK => ?_)
        go_simp
        refine (HSE.out).mono ?_
        rintro e wB ⟨rfl, hbB⟩
        refine hK _ _ (fun _ => RS.fr (S' := fun _ => True) (Fr.of_ext hbB) (fun _ _ _ => trivial)) ?_
        clear hK K
        (try simp only [Act.put, List.setIfInBounds_toArray, List.set_cons_zero, List.set_cons_succ])
        skip
        refine wpSch_q ?_ rfl rfl (fun w' hR => ?_) ?_
        rotate_left
        · (go_simp; first | rfl | rw [if_neg (by simp; omega)] | rw [if_neg (by omega)])
        (try simp only [Act.put, List.setIfInBounds_toArray, List.set_cons_zero, List.set_cons_succ])
        refine wpSch_nil ?_
        have hE7B := (hE79.trans' (Ext.dr w9)).trans' hbB
        clear x0 x1 x2 x3 x4 e0 e1 e2 e3 e4 hbB hrd9 hbw9 hGw9 bX9 hr9 hE79 hb8 hb9 j0 j1 HSE bG7'
        have baB := ba7.ext hE7B
        have bbB := bb7.ext hE7B
        have bXB := bX7.ext hE7B
        have bNB := bN7.ext hE7B
        have bWB := bW7.ext hE7B
        have bGB := bG7.ext hE7B
        have hinB1 : LiveIn wB (G + 2) o p3 := fun j hj => ((hin67 j hj).below hE7B (Nat.le_refl _)).wide (Nat.le_refl _) hE7B.size
        have hinB2 : LiveIn wB (N + 1) o p4 := fun j hj => ((hin7 j hj).below hE7B (Nat.le_refl _)).wide (Nat.le_refl _) hE7B.size
        have hrB := hr7.trans' hE7B
        have hne : (no != no) = false := by simp
        clear ba7 bb7 bX7 bN7 bW7 bG7 hin67 hin7 hr7 hE67 hE7B
        go_wp2_with fail
        have hFrW : ∀ W, Fr (fun x => x ≠ g) wB W → Fr (fun x => x < wr.heap.size) wr W := fun W h => (Fr.of_ext hrB).step h (fun x _ h => by omega)
        have HXF : Hid (∀ W, Fr (fun x => x ≠ g) wB W → Ext w W) := fun W h => Fr.ext ((Fr.of_ext (S := fun x => x < S) hX).step (hFrW W h) (fun x _ h => by omega)) (by omega)
        have HLA : Hid (∀ W, Fr (fun x => x ≠ g) wB W → LiveAt W v p) := fun W h j hj => ((hla j hj).fr (hFrW W h) (Nat.le_refl _) (fun x _ h => h)).wide (Nat.le_refl _) (hFrW W h).size
        have HLB : Hid (∀ W, Fr (fun x => x ≠ g) wB W → LiveAt W v p2) := fun W h j hj => ((hlb j hj).fr (hFrW W h) (Nat.le_refl _) (fun x _ h => h)).wide (Nat.le_refl _) (hFrW W h).size
        clear hFrW
        go_loopw [15] (fun i wr' => ∃ (m : Nat) (cs : Array Value), m ≤ q.e.add.length ∧ i = .int .i64 m ∧ Box wr' g 53 cs ∧ cs.size = q.e.add.length * 6 ∧ Fr (fun x => x ≠ g) wB wr') (fun i _ => q.e.add.length - (intOf i).toNat)
        · exact ⟨0, _, by omega, rfl, bGB, by simp [length_flatMap' Table.cells_len], Fr.refl _⟩
        · clear bGB
          obtain ⟨m, cs, hm, rfl, bG, hcs, hF⟩ := hrel
          have bX := bXB.fr hF (by omega)
          have x3 := bX.cell 3
          simp only [List.getElem?_toArray, List.getElem?_cons_zero, List.getElem?_cons_succ] at x3
          by_cases hml : m < q.e.add.length
          · have g0 := bG.cell (m * 6)
            rw [Array.getElem?_eq_getElem (show m * 6 < cs.size by omega)] at g0
            have gf := bG.frozen
            have bG1 := bG.put (m * 6) (.int .u64 0)
            have hF1 := hF.set (p := ⟨g, m * 6, none⟩) (.int .u64 0) (fun _ h => h rfl)
            go_wp2
            exact ⟨⟨m + 1, cs.setIfInBounds (m * 6) (.int .u64 0), by omega, by simp, bG1, by simpa using hcs, hF1⟩, by simp [intOf]; omega⟩
          · have ba := baB.fr hF (by omega)
            have bb := bbB.fr hF (by omega)
            have bN := bNB.fr hF (by omega)
            have bW := bWB.fr hF (by omega)
            have hXf := HXF.out _ hF
            have hla2 := HLA.out _ hF
            have hlb2 := HLB.out _ hF
            have hzb := hF.size
            have hin1 : LiveIn wr (G + 2) o p3 := fun j hj => ((hinB1 j hj).fr hF (Nat.le_refl _) (fun x h1 _ => by omega)).wide (Nat.le_refl _) hzb
            have hin2 : LiveIn wr (N + 1) o p4 := fun j hj => ((hinB2 j hj).fr hF (Nat.le_refl _) (fun x h1 _ => by omega)).wide (Nat.le_refl _) hzb
            by_cases hno : no = 0
            · have hg0 := HGR.out hno
              have HNO := Lib.hid hno
              subst hno
              have n0 := bN.cell 0
              have n1 := bN.cell 1
              have n2 := bN.cell 2
              have n3 := bN.cell 3
              have n4 := bN.cell 4
              have n5 := bN.cell 5
              have n6 := bN.cell 6
              have m0 := bW.cell 0
              have m1 := bW.cell 1
              have m2 := bW.cell 2
              have m3 := bW.cell 3
              have m4 := bW.cell 4
              have m5 := bW.cell 5
              have m6 := bW.cell 6
              have a0 := ba.cell 0
              have a1 := ba.cell 1
              have a2 := ba.cell 2
              have a3 := ba.cell 3
              have a4 := ba.cell 4
              have a5 := ba.cell 5
              have a6 := ba.cell 6
              have b0 := bb.cell 0
              have b1 := bb.cell 1
              have b2 := bb.cell 2
              have b3 := bb.cell 3
              have b4 := bb.cell 4
              have b5 := bb.cell 5
              have b6 := bb.cell 6
              have af := ba.frozen
              have bf := bb.frozen
              simp only [Live.cells, List.getElem?_toArray, List.getElem?_cons_zero, List.getElem?_cons_succ] at n0 n1 n2 n3 n4 n5 n6 m0 m1 m2 m3 m4 m5 m6 a0 a1 a2 a3 a4 a5 a6 b0 b1 b2 b3 b4 b5 b6
              have hnS : ¬ N = S := by omega
              have hXS : ¬ X = S := by omega
              have hNS1 : ¬ N = S + 1 := by omega
              have hXS1 : ¬ X = S + 1 := by omega
              have HNUM2 := Lib.hid hg0.2
              have hlen2 : ∀ j, j < 4 → (o.tab j).length ≤ 1000 * (k + 1) := fun j hj => by have h1 := hg0.1 j; have h2 := hlen j hj; omega
              clear hg0 bX bG hF
              go_wp2
              have hF2 := fun a0 a1 a2 a3 a4 a5 a6 b0 b1 b2 b3 b4 b5 b6 => Fr.put7 (S := fun x => x ≠ S ∧ x ≠ S + 1) (Fr.put7 (Fr.refl wr) (g := S) (fun h => h.1 rfl) a0 a1 a2 a3 a4 a5 a6) (g := S + 1) (fun h => h.2 rfl) b0 b1 b2 b3 b4 b5 b6
              refine ⟨⟨k + 1, o, p3, p4, by omega, by simp, (ba.put7 _ _ _ _ _ _ _).fr (Fr.put7 (S := fun x => x ≠ S + 1) (Fr.refl _) (g := S + 1) (fun k => k rfl) _ _ _ _ _ _ _) (by omega), (bb.fr (Fr.put7 (S := fun x => x ≠ S) (Fr.refl wr) (g := S) (fun k => k rfl) _ _ _ _ _ _ _) (by omega)).put7 _ _ _ _ _ _ _,
                fun j hj => ((hin1 j hj).fr (hF2 _ _ _ _ _ _ _ _ _ _ _ _ _ _) (Nat.le_refl _) (fun x h1 _ => by omega)).wide (Nat.zero_le _) (hF2 _ _ _ _ _ _ _ _ _ _ _ _ _ _).size,
                fun j hj => ((hin2 j hj).fr (hF2 _ _ _ _ _ _ _ _ _ _ _ _ _ _) (Nat.le_refl _) (fun x h1 _ => by omega)).wide (Nat.zero_le _) (hF2 _ _ _ _ _ _ _ _ _ _ _ _ _ _).size,
                HSR.out, hlen2, HNUM2.out, Below.put7 (Below.put7 hXf (by omega) _ _ _ _ _ _ _) (by omega) _ _ _ _ _ _ _⟩, by simp [intOf]; omega⟩
            · have hno' : (no == (0 : Int)) = false := by simpa using hno
              have hlen2 : ∀ j, j < 4 → (v.tab j).length ≤ 1000 * (k + 1) := fun j hj => Nat.le_trans (hlen j hj) (by omega)
              clear bX bG hF
              go_wp2
              exact ⟨⟨k + 1, v, p, p2, by omega, by simp, ba, bb, hla2, hlb2, hsr, hlen2, hnum, hXf⟩, by simp [intOf]; omega⟩
      ·
        obtain ⟨w7, hw7⟩ : ∃ w7, w7 = (((((((wA.setCell ⟨N + 1, 0, none⟩ (.int .u64 o.next)).setCell ⟨N + 1, 1, none⟩ (.int .u64 o.seq)).setCell ⟨N + 1, 2, none⟩ (.int .u64 o.log)).setCell ⟨N + 1, 3, none⟩ (.slice (p4.A 0) (o.tab 0).length (p4.c 0))).setCell ⟨N + 1, 4, none⟩ (.slice (p4.A 1) (o.tab 1).length (p4.c 1))).setCell ⟨N + 1, 5, none⟩ (.slice (p4.A 2) (o.tab 2).length (p4.c 2))).setCell ⟨N + 1, 6, none⟩ (.slice (p4.A 3) (o.tab 3).length (p4.c 3))) := ⟨_, rfl⟩
        rw [← hw7]
        obtain ⟨X, hXe⟩ : ∃ X, N + 1 = X := ⟨_, rfl⟩
        have bW7 : Box w7 X 48 (o.cells p4) := by rw [hw7, ← hXe]; exact bZ.put7 _ _ _ _ _ _ _
        have hEA : Ext w6 wA := ((Ext.dr w6).trans' (Ext.al _ _)).trans' hbA
        have hE67 : Ext w6 w7 := by rw [hw7]; exact Below.put7 hEA (by omega) _ _ _ _ _ _ _
        have hFA : Fr (fun x => x ≠ N + 1) wA w7 := by rw [hw7]; exact Fr.put7 (Fr.refl wA) (g := N + 1) (fun k => k rfl) _ _ _ _ _ _ _
        have hlo4 : (w6.drew.alloc (.cells #[.int .u64 0, .int .u64 0, .int .u64 0, .slice none 0 0, .slice none 0 0, .slice none 0 0, .slice none 0 0] 48)).heap.size = N + 2 := by
          have h1 : w6.drew.heap.size = N + 1 := hz6
          simp [h1]
        have hin7 : LiveIn w7 (N + 1) o p4 := fun j hj => by
          have h1 := hin4 j hj
          rw [hlo4] at h1
          exact (h1.fr hFA (Nat.le_refl _) (fun x h1 _ => by omega)).wide (Nat.le_succ _) hFA.size
        have hXN : N + 1 ≤ X := by omega
        rw [hXe]
        clear hin4 hbA hw7 hXe hEA HREF hFA hlo4 bZ z0 z1 z2 z3 z4 z5 z6 zf
        have hr7 := hrg6.trans' hE67
        have ba7 := ba6.ext hE67
        have bX7 := bX6.ext hE67
        have bY7 := bY6.ext hE67
        have bN7 := bN6.ext hE67
        have bG7 := bG6.ext hE67
        have bG7' := bG6'.ext hE67
        have bb7 := bb6.ext hE67
        have hin67 : LiveIn w7 (G + 2) o p3 := fun j hj => ((hin6 j hj).below hE67 (Nat.le_refl _)).wide (Nat.le_refl _) hE67.size
        have hv40 : ∀ j, j < 4 → (v.tab j).length ≤ 1099511627776 := fun j hj => Nat.le_trans (hv37 j hj) (by omega)
        have ho40 : ∀ j, j < 4 → (o.tab j).length ≤ 1099511627776 := fun j hj => by have h1 := hv37 j hj; have h2 := hlo j; omega
        have HS1 := Lib.hid (sameLive_same v hv40 p p2 w7 (hla.ext hr7) (hlb.ext hr7))
        have HS2 := Lib.hid (fun w' (hb : Ext w7 w') => sameLive_same o ho40 p3 p4 w' (hin67.live.ext hb) (hin7.live.ext hb))
        clear hin6 ba6 bX6 bY6 bN6 bG6 bG6' bb6 s0 s1 s2 s3 s4 s5 s6 e0 e1 e2 e3 e4 hbw6 hSw6 hrd6 hv40 ho40
        have a0 := ba7.cell 0
        have a1 := ba7.cell 1
        have a2 := ba7.cell 2
        have a3 := ba7.cell 3
        have a4 := ba7.cell 4
        have a5 := ba7.cell 5
        have a6 := ba7.cell 6
        have y0 := bY7.cell 0
        have y1 := bY7.cell 1
        have y2 := bY7.cell 2
        have y3 := bY7.cell 3
        have y4 := bY7.cell 4
        have y5 := bY7.cell 5
        have y6 := bY7.cell 6
        simp only [Live.cells, List.getElem?_toArray, List.getElem?_cons_zero, List.getElem?_cons_succ] at a0 a1 a2 a3 a4 a5 a6 y0 y1 y2 y3 y4 y5 y6
        go_wp2_with fail
        refine HS1.out.mono ?_
        rintro _ w8 ⟨rfl, hb8⟩
        clear a0 a1 a2 a3 a4 a5 a6 y0 y1 y2 y3 y4 y5 y6 HS1 bY7
        have bN8 := bN7.ext hb8
        have bW8 := bW7.ext hb8
        have a0 := bN8.cell 0
        have a1 := bN8.cell 1
        have a2 := bN8.cell 2
        have a3 := bN8.cell 3
        have a4 := bN8.cell 4
        have a5 := bN8.cell 5
        have a6 := bN8.cell 6
        have y0 := bW8.cell 0
        have y1 := bW8.cell 1
        have y2 := bW8.cell 2
        have y3 := bW8.cell 3
        have y4 := bW8.cell 4
        have y5 := bW8.cell 5
        have y6 := bW8.cell 6
        simp only [Live.cells, List.getElem?_toArray, List.getElem?_cons_zero, List.getElem?_cons_succ] at a0 a1 a2 a3 a4 a5 a6 y0 y1 y2 y3 y4 y5 y6
        go_wp2_with fail
        refine (HS2.out w8 hb8).mono ?_
        rintro _ w9 ⟨rfl, hb9⟩
        clear a0 a1 a2 a3 a4 a5 a6 y0 y1 y2 y3 y4 y5 y6 HS2 bN8 bW8
        have hE79 := hb8.trans' hb9
        have hr9 := hr7.trans' hE79
        have bX9 := bX7.ext hE79
        have hrd9 : Ext wr w9.drew := hr9.trans' (Ext.dr w9)
        have HSE := sameEdit_any q.e q.e HOK.out.addLen HOK.out.addLen HOK.out.dropLen HOK.out.dropLen (some ⟨g, 0, none⟩) (some ⟨g', 0, none⟩) q.A q.A' q.e.add.length q.e.drop.length q.c q.c' w9.drew (EditAt.of_boxes (bG7.ext (hE79.trans' (Ext.dr w9))) (bG7'.ext (hE79.trans' (Ext.dr w9)))) (HB.out _ hrd9)
        rw [decide_eq_true rfl] at HSE
        have HSE := Lib.hid HSE
        have x0 := bX9.cell 0
        have x1 := bX9.cell 1
        have x2 := bX9.cell 2
        have x3 := bX9.cell 3
        have x4 := bX9.cell 4
        have e0 := HC.out w9 hr9 0 _ rfl
        have e1 := HC.out w9 hr9 1 _ rfl
        have e2 := HC.out w9 hr9 2 _ rfl
        have e3 := HC.out w9 hr9 3 _ rfl
        have e4 := HC.out w9 hr9 4 _ rfl
        rw [Nat.add_zero] at e0
        simp only [List.getElem?_toArray, List.getElem?_cons_zero, List.getElem?_cons_succ] at x0 x1 x2 x3 x4
        have hbw9 : b < w9.heap.size := by have := hr9.size; omega
        have hGw9 : G < w9.heap.size := bX9.lt
        go_wp2_with fail
        refine wp_region_sch (RS ((fun x => x = G ∨ x = b))) 7 [(0, true), (1, true), (2, true), (3, true), (4, true), (5, false), (6, true)] (by kernel_rfl) (by kernel_rfl) RS.refl RS.trans (fun _ _ d _ _ h => by cases d <;> exact h) ?_
        refine wpSch_q ?_ rfl rfl (fun w' hR => ?_) ?_
        rotate_left
        · (obtain ⟨hRs, hRc⟩ := hR; (try have hRd := fun o => hRc _ o rfl (by first | (simp; done) | (simp; omega) | omega)); (try have hRe := fun o => hRc _ o (Or.inl rfl) (by first | (simp; done) | (simp; omega) | omega)); (try have hRf := fun o => hRc _ o (Or.inr rfl) (by first | (simp; done) | (simp; omega) | omega)); (try have hRg := fun o => hRc _ o (Or.inr (Or.inl rfl)) (by first | (simp; done) | (simp; omega) | omega)); (try have hRh := fun o => hRc _ o (Or.inr (Or.inr rfl)) (by first | (simp; done) | (simp; omega) | omega)); go_simp; first | rfl | rw [if_neg (by simp; omega)] | rw [if_neg (by omega)])
        (try simp only [Act.put, List.setIfInBounds_toArray, List.set_cons_zero, List.set_cons_succ])
        refine wpSch_q ?_ rfl rfl (fun w' hR => ?_) ?_
        rotate_left
        · (go_simp; first | rfl | rw [if_neg (by simp; omega)] | rw [if_neg (by omega)])
        (try simp only [Act.put, List.setIfInBounds_toArray, List.set_cons_zero, List.set_cons_succ])
        refine wpSch_q ?_ rfl rfl (fun w' hR => ?_) ?_
        rotate_left
        · (go_simp; first | rfl | rw [if_neg (by simp; omega)] | rw [if_neg (by omega)])
        (try simp only [Act.put, List.setIfInBounds_toArray, List.set_cons_zero, List.set_cons_succ])
        refine wpSch_q ?_ rfl rfl (fun w' hR => ?_) ?_
        rotate_left
        · (go_simp; first | rfl | rw [if_neg (by simp; omega)] | rw [if_neg (by omega)])
        (try simp only [Act.put, List.setIfInBounds_toArray, List.set_cons_zero, List.set_cons_succ])
        refine wpSch_q ?_ rfl rfl (fun w' hR => ?_) ?_
        rotate_left
        · (obtain ⟨hRs, hRc⟩ := hR; (try have hRd := fun o => hRc _ o rfl (by first | (simp; done) | (simp; omega) | omega)); (try have hRe := fun o => hRc _ o (Or.inl rfl) (by first | (simp; done) | (simp; omega) | omega)); (try have hRf := fun o => hRc _ o (Or.inr rfl) (by first | (simp; done) | (simp; omega) | omega)); (try have hRg := fun o => hRc _ o (Or.inr (Or.inl rfl)) (by first | (simp; done) | (simp; omega) | omega)); (try have hRh := fun o => hRc _ o (Or.inr (Or.inr rfl)) (by first | (simp; done) | (simp; omega) | omega)); go_simp; first | rfl | rw [if_neg (by simp; omega)] | rw [if_neg (by omega)])
        (try simp only [Act.put, List.setIfInBounds_toArray, List.set_cons_zero, List.set_cons_succ])
        refine wpSch_e rfl rfl (fun K hK => ?_)
        go_simp
        refine (HSE.out).mono ?_
        rintro e wB ⟨rfl, hbB⟩
        refine hK _ _ (fun _ => RS.fr (S' := fun _ => True) (Fr.of_ext hbB) (fun _ _ _ => trivial)) ?_
        clear hK K
        (try simp only [Act.put, List.setIfInBounds_toArray, List.set_cons_zero, List.set_cons_succ])
        skip
        refine wpSch_q ?_ rfl rfl (fun w' hR => ?_) ?_
        rotate_left
        · (go_simp; first | rfl | rw [if_neg (by simp; omega)] | rw [if_neg (by omega)])
        (try simp only [Act.put, List.setIfInBounds_toArray, List.set_cons_zero, List.set_cons_succ])
        refine wpSch_nil ?_
        have hE7B := (hE79.trans' (Ext.dr w9)).trans' hbB
        clear x0 x1 x2 x3 x4 e0 e1 e2 e3 e4 hbB hrd9 hbw9 hGw9 bX9 hr9 hE79 hb8 hb9 j0 j1 HSE bG7'
        have baB := ba7.ext hE7B
        have bbB := bb7.ext hE7B
        have bXB := bX7.ext hE7B
        have bNB := bN7.ext hE7B
        have bWB := bW7.ext hE7B
        have bGB := bG7.ext hE7B
        have hinB1 : LiveIn wB (G + 2) o p3 := fun j hj => ((hin67 j hj).below hE7B (Nat.le_refl _)).wide (Nat.le_refl _) hE7B.size
        have hinB2 : LiveIn wB (N + 1) o p4 := fun j hj => ((hin7 j hj).below hE7B (Nat.le_refl _)).wide (Nat.le_refl _) hE7B.size
        have hrB := hr7.trans' hE7B
        have hne : (no != no) = false := by simp
        clear ba7 bb7 bX7 bN7 bW7 bG7 hin67 hin7 hr7 hE67 hE7B
        go_wp2_with fail
        have hFrW : ∀ W, Fr (fun x => x ≠ g) wB W → Fr (fun x => x < wr.heap.size) wr W := fun W h => (Fr.of_ext hrB).step h (fun x _ h => by omega)
        have HXF : Hid (∀ W, Fr (fun x => x ≠ g) wB W → Ext w W) := fun W h => Fr.ext ((Fr.of_ext (S := fun x => x < S) hX).step (hFrW W h) (fun x _ h => by omega)) (by omega)
        have HLA : Hid (∀ W, Fr (fun x => x ≠ g) wB W → LiveAt W v p) := fun W h j hj => ((hla j hj).fr (hFrW W h) (Nat.le_refl _) (fun x _ h => h)).wide (Nat.le_refl _) (hFrW W h).size
        have HLB : Hid (∀ W, Fr (fun x => x ≠ g) wB W → LiveAt W v p2) := fun W h j hj => ((hlb j hj).fr (hFrW W h) (Nat.le_refl _) (fun x _ h => h)).wide (Nat.le_refl _) (hFrW W h).size
        clear hFrW
        go_loopw [15] (fun i wr' => ∃ (m : Nat) (cs : Array Value), m ≤ q.e.add.length ∧ i = .int .i64 m ∧ Box wr' g 53 cs ∧ cs.size = q.e.add.length * 6 ∧ Fr (fun x => x ≠ g) wB wr') (fun i _ => q.e.add.length - (intOf i).toNat)
        · exact ⟨0, _, by omega, rfl, bGB, by simp [length_flatMap' Table.cells_len], Fr.refl _⟩
        · clear bGB
          obtain ⟨m, cs, hm, rfl, bG, hcs, hF⟩ := hrel
          have bX := bXB.fr hF (by omega)
          have x3 := bX.cell 3
          simp only [List.getElem?_toArray, List.getElem?_cons_zero, List.getElem?_cons_succ] at x3
          by_cases hml : m < q.e.add.length
          · have g0 := bG.cell (m * 6)
            rw [Array.getElem?_eq_getElem (show m * 6 < cs.size by omega)] at g0
            have gf := bG.frozen
            have bG1 := bG.put (m * 6) (.int .u64 0)
            have hF1 := hF.set (p := ⟨g, m * 6, none⟩) (.int .u64 0) (fun _ h => h rfl)
            go_wp2
            exact ⟨⟨m + 1, cs.setIfInBounds (m * 6) (.int .u64 0), by omega, by simp, bG1, by simpa using hcs, hF1⟩, by simp [intOf]; omega⟩
          · have ba := baB.fr hF (by omega)
            have bb := bbB.fr hF (by omega)
            have bN := bNB.fr hF (by omega)
            have bW := bWB.fr hF (by omega)
            have hXf := HXF.out _ hF
            have hla2 := HLA.out _ hF
            have hlb2 := HLB.out _ hF
            have hzb := hF.size
            have hin1 : LiveIn wr (G + 2) o p3 := fun j hj => ((hinB1 j hj).fr hF (Nat.le_refl _) (fun x h1 _ => by omega)).wide (Nat.le_refl _) hzb
            have hin2 : LiveIn wr (N + 1) o p4 := fun j hj => ((hinB2 j hj).fr hF (Nat.le_refl _) (fun x h1 _ => by omega)).wide (Nat.le_refl _) hzb
            by_cases hno : no = 0
            · have hg0 := HGR.out hno
              have HNO := Lib.hid hno
              subst hno
              have n0 := bN.cell 0
              have n1 := bN.cell 1
              have n2 := bN.cell 2
              have n3 := bN.cell 3
              have n4 := bN.cell 4
              have n5 := bN.cell 5
              have n6 := bN.cell 6
              have m0 := bW.cell 0
              have m1 := bW.cell 1
              have m2 := bW.cell 2
              have m3 := bW.cell 3
              have m4 := bW.cell 4
              have m5 := bW.cell 5
              have m6 := bW.cell 6
              have a0 := ba.cell 0
              have a1 := ba.cell 1
              have a2 := ba.cell 2
              have a3 := ba.cell 3
              have a4 := ba.cell 4
              have a5 := ba.cell 5
              have a6 := ba.cell 6
              have b0 := bb.cell 0
              have b1 := bb.cell 1
              have b2 := bb.cell 2
              have b3 := bb.cell 3
              have b4 := bb.cell 4
              have b5 := bb.cell 5
              have b6 := bb.cell 6
              have af := ba.frozen
              have bf := bb.frozen
              simp only [Live.cells, List.getElem?_toArray, List.getElem?_cons_zero, List.getElem?_cons_succ] at n0 n1 n2 n3 n4 n5 n6 m0 m1 m2 m3 m4 m5 m6 a0 a1 a2 a3 a4 a5 a6 b0 b1 b2 b3 b4 b5 b6
              have hnS : ¬ N = S := by omega
              have hXS : ¬ X = S := by omega
              have hNS1 : ¬ N = S + 1 := by omega
              have hXS1 : ¬ X = S + 1 := by omega
              have HNUM2 := Lib.hid hg0.2
              have hlen2 : ∀ j, j < 4 → (o.tab j).length ≤ 1000 * (k + 1) := fun j hj => by have h1 := hg0.1 j; have h2 := hlen j hj; omega
              clear hg0 bX bG hF
              go_wp2
              have hF2 := fun a0 a1 a2 a3 a4 a5 a6 b0 b1 b2 b3 b4 b5 b6 => Fr.put7 (S := fun x => x ≠ S ∧ x ≠ S + 1) (Fr.put7 (Fr.refl wr) (g := S) (fun h => h.1 rfl) a0 a1 a2 a3 a4 a5 a6) (g := S + 1) (fun h => h.2 rfl) b0 b1 b2 b3 b4 b5 b6
              refine ⟨⟨k + 1, o, p3, p4, by omega, by simp, (ba.put7 _ _ _ _ _ _ _).fr (Fr.put7 (S := fun x => x ≠ S + 1) (Fr.refl _) (g := S + 1) (fun k => k rfl) _ _ _ _ _ _ _) (by omega), (bb.fr (Fr.put7 (S := fun x => x ≠ S) (Fr.refl wr) (g := S) (fun k => k rfl) _ _ _ _ _ _ _) (by omega)).put7 _ _ _ _ _ _ _,
                fun j hj => ((hin1 j hj).fr (hF2 _ _ _ _ _ _ _ _ _ _ _ _ _ _) (Nat.le_refl _) (fun x h1 _ => by omega)).wide (Nat.zero_le _) (hF2 _ _ _ _ _ _ _ _ _ _ _ _ _ _).size,
                fun j hj => ((hin2 j hj).fr (hF2 _ _ _ _ _ _ _ _ _ _ _ _ _ _) (Nat.le_refl _) (fun x h1 _ => by omega)).wide (Nat.zero_le _) (hF2 _ _ _ _ _ _ _ _ _ _ _ _ _ _).size,
                HSR.out, hlen2, HNUM2.out, Below.put7 (Below.put7 hXf (by omega) _ _ _ _ _ _ _) (by omega) _ _ _ _ _ _ _⟩, by simp [intOf]; omega⟩
            · have hno' : (no == (0 : Int)) = false := by simpa using hno
              have hlen2 : ∀ j, j < 4 → (v.tab j).length ≤ 1000 * (k + 1) := fun j hj => Nat.le_trans (hlen j hj) (by omega)
              clear bX bG hF
              go_wp2
              exact ⟨⟨k + 1, v, p, p2, by omega, by simp, ba, bb, hla2, hlb2, hsr, hlen2, hnum, hXf⟩, by simp [intOf]; omega⟩
    · obtain rfl : k = L0.length := by omega
      have hv40 : ∀ j, j < 4 → (v.tab j).length ≤ 1099511627776 := fun j hj => by have := hlen j hj; omega
      have a0 := ba.cell 0
      have a1 := ba.cell 1
      have a2 := ba.cell 2
      have a3 := ba.cell 3
      have a4 := ba.cell 4
      have a5 := ba.cell 5
      have a6 := ba.cell 6
      have b0 := bb.cell 0
      have b1 := bb.cell 1
      have b2 := bb.cell 2
      have b3 := bb.cell 3
      have b4 := bb.cell 4
      have b5 := bb.cell 5
      have b6 := bb.cell 6
      simp only [Live.cells, List.getElem?_toArray, List.getElem?_cons_zero, List.getElem?_cons_succ] at a0 a1 a2 a3 a4 a5 a6 b0 b1 b2 b3 b4 b5 b6
      go_wp2_with fail
      refine (sameLive_same v hv40 p p2 wr hla hlb).mono ?_
      rintro _ w9 ⟨rfl, hb9⟩
      go_wp2
      go_ret
      exact ⟨rfl, hX.trans' hb9⟩
end Go.Proofs.Yteplpgknnlehnaa
