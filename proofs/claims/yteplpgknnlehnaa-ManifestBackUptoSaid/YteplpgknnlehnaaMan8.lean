/- Manifests (layer 10): an edit held; the walk of the statement ManifestEncodes. -/
import Derived.Test.YteplpgknnlehnaaMan7
namespace Go.Proofs.Yteplpgknnlehnaa
set_option linter.unusedSimpArgs false
set_option linter.unusedVariables false
open Go.RowKit

theorem Try.tablesOf : ElemOf Try.prog 32 53 6 64 := elemOf_mk Try.underlying32 (z := .agg #[.int .u64 0, .int .i64 0, .int .i64 0, .int .i64 0, str [], str []]) (by kernel_rfl) rfl (by decide)
theorem Try.numbersOf : ElemOf Try.prog 33 22 1 8 := elemOf_mk Try.underlying33 (z := .int .u64 0) (by kernel_rfl) rfl (by decide)
theorem u64C_one (n : Nat) : ∀ u ∈ u64C n, u.oneCell' = true := by simp [u64C, Value.oneCell']

set_option maxRecDepth 100000 in
set_option maxHeartbeats 800000 in
theorem held_any (e : Edit) (h : e.Ok) (A A' : Option Addr) (c c' : Nat) (w : World) (hr : EditAt w w.heap.size e A A') :
    Calls Try.prog 17 #[e.val A A' c c'] w fun r w' => ∃ g g', r = .returned (e.val (some ⟨g, 0, none⟩) (some ⟨g', 0, none⟩) e.add.length e.drop.length) ∧
      Box w' g 53 (e.add.flatMap Table.cells).toArray ∧ Box w' g' 22 (e.drop.flatMap u64C).toArray ∧ w.heap.size ≤ g ∧ w.heap.size ≤ g' ∧ g ≠ g' ∧ Ext w w' := by
  have HR := Lib.hid (fun w' hb => EditAt.ext (w' := w') hr hb)
  have h6 := h.addLen
  have h7 := h.dropLen
  have ho1 : ∀ u ∈ e.add.flatMap Table.cells, u.oneCell' = true := fun u hu => by
    obtain ⟨p, _, hp⟩ := List.mem_flatMap.1 hu
    exact p.one u hp
  have ho2 : ∀ u ∈ e.drop.flatMap u64C, u.oneCell' = true := fun u hu => by
    obtain ⟨p, _, hp⟩ := List.mem_flatMap.1 hu
    exact u64C_one p u hp
  have HO1 := Lib.hid ho1
  have HO2 := Lib.hid ho2
  clear h hr ho1 ho2
  obtain ⟨n, s, g, l, d⟩ := e
  dsimp only [Edit.val] at *
  go_enter Try.func17, Try.ntmps17
  go_wp2_with (at_make; refine wpList_make_all Try.tablesOf rfl _ _ rfl l.length _ _ rfl rfl rfl rfl (by omega) (by omega) ?_)
  intro w1 cur1 hcur1 hcs1 hb1
  obtain ⟨S, hS⟩ : ∃ S, w.heap.size = S := ⟨_, rfl⟩
  have bE := (((Box.new w 35 #[.int .u64 n, .int .u64 s, .int .u64 g, .slice A l.length c, .slice A' d.length c']).alloc (.cells #[.int .u64 0, .int .u64 0, .int .u64 0, .slice none 0 0, .slice none 0 0] 35)).alloc
    (.cells #[.int .u64 n, .int .u64 s, .int .u64 g, .slice A l.length c, .slice A' d.length c'] 35)).ext hb1
  have bR := ((Box.new_at (w.alloc (.cells #[.int .u64 n, .int .u64 s, .int .u64 g, .slice A l.length c, .slice A' d.length c'] 35)) 35 #[.int .u64 0, .int .u64 0, .int .u64 0, .slice none 0 0, .slice none 0 0] (S + 1) (by simp [hS])).alloc
    (.cells #[.int .u64 n, .int .u64 s, .int .u64 g, .slice A l.length c, .slice A' d.length c'] 35)).ext hb1
  have bO := (Box.new_at ((w.alloc (.cells #[.int .u64 n, .int .u64 s, .int .u64 g, .slice A l.length c, .slice A' d.length c'] 35)).alloc (.cells #[.int .u64 0, .int .u64 0, .int .u64 0, .slice none 0 0, .slice none 0 0] 35)) 35
    #[.int .u64 n, .int .u64 s, .int .u64 g, .slice A l.length c, .slice A' d.length c'] (S + 1 + 1) (by simp [hS])).ext hb1
  have bA : Box w1 (S + 1 + 1 + 1) 53 cur1 := by rw [hS] at hcur1; exact hcur1
  rw [hS] at bE
  have hE1 : Ext w w1 := by (repeat (first | exact Below.refl _ _ | refine Ext.trans' ?_ (Ext.al _ _) | refine Ext.trans' ?_ (Ext.dr _) | refine Ext.trans' ?_ (by assumption)))
  have hz1 := bA.lt
  rw [hS]
  clear hb1 hcur1
  have e3 := bE.cell 3
  have e4 := bE.cell 4
  have o3 := bO.cell 3
  have o4 := bO.cell 4
  have of := bO.frozen
  simp at e3 e4 o3 o4
  go_wp2_with (at_make; refine wpList_make_all Try.numbersOf rfl _ _ rfl d.length _ _ rfl rfl rfl rfl (by omega) (by omega) ?_)
  intro w2 cur2 hcur2 hcs2 hb2
  clear e3 e4 o3 o4 of
  have bE2 := (bE.far (p := ⟨S + 1 + 1, 3, none⟩) (by simp; omega) _).ext hb2
  have bR2 := (bR.far (p := ⟨S + 1 + 1, 3, none⟩) (by simp) _).ext hb2
  have bO2 := (bO.put 3 _).ext hb2
  have bA2 := (bA.far (p := ⟨S + 1 + 1, 3, none⟩) (by simp) _).ext hb2
  have bD2 : Box w2 w1.heap.size 22 cur2 := hcur2
  simp only [List.setIfInBounds_toArray, List.set_cons_zero, List.set_cons_succ] at bO2
  have hE2 : Ext w w2 := (hE1.setCell (p := ⟨S + 1 + 1, 3, none⟩) (by simp; omega) _).trans (hb2.mono (by simp; omega))
  obtain ⟨D, hD⟩ : ∃ D, w1.heap.size = D := ⟨_, rfl⟩
  rw [hD] at bD2 hz1 ⊢
  clear hb2 bE bR bO bA hcur2 hE1
  have e3 := bE2.cell 3
  have e4 := bE2.cell 4
  have o3 := bO2.cell 3
  have o4 := bO2.cell 4
  have of := bO2.frozen
  simp at e3 e4 o3 o4
  have q1 : S ≠ S + 1 + 1 := by omega
  have q2 : S + 1 ≠ S + 1 + 1 := by omega
  have q3 : S + 1 + 1 + 1 ≠ S + 1 + 1 := by omega
  have q4 : D ≠ S + 1 + 1 := by omega
  have bE3 := bE2.far (p := ⟨S + 1 + 1, 4, none⟩) q1 (.slice (some ⟨D, 0, none⟩) d.length d.length)
  have bR3 := bR2.far (p := ⟨S + 1 + 1, 4, none⟩) q2 (.slice (some ⟨D, 0, none⟩) d.length d.length)
  have bO3 := bO2.put 4 (.slice (some ⟨D, 0, none⟩) d.length d.length)
  have bA3 := bA2.far (p := ⟨S + 1 + 1, 4, none⟩) q3 (.slice (some ⟨D, 0, none⟩) d.length d.length)
  have bD3 := bD2.far (p := ⟨S + 1 + 1, 4, none⟩) q4 (.slice (some ⟨D, 0, none⟩) d.length d.length)
  simp only [List.setIfInBounds_toArray, List.set_cons_zero, List.set_cons_succ] at bO3
  have hE3 : Ext w (w2.setCell ⟨S + 1 + 1, 4, none⟩ (.slice (some ⟨D, 0, none⟩) d.length d.length)) := hE2.setCell (p := ⟨S + 1 + 1, 4, none⟩) (by simp; omega) _
  have hrA := (HR.out _ hE3).add
  have hrD := (HR.out _ hE3).drop
  dsimp only at hrA hrD
  have hz2 := bD2.lt
  clear bE2 bR2 bO2 bA2 bD2 hE2
  have uA := bA3
  unfold Box at uA
  go_wp2_with (with_reducible refine wpList_copy_all Try.tablesOf rfl (.tmp 16) (.tmp 18) rfl (S + 1 + 1 + 1) l.length l.length c A rfl rfl uA hcs1 hrA HO1.out ?_)
  intro w3 bA4 hg3
  have bE4 := bE3.grown hg3 (by simp; omega)
  have bR4 := bR3.grown hg3 (by simp)
  have bO4 := bO3.grown hg3 (by simp)
  have bD4 := bD3.grown hg3 (by simp; omega)
  have hE4 : Ext w w3 := hE3.grown hg3 hE3.size (by intro k e; cases e; omega)
  have hrD4 := (HR.out _ hE4).drop
  dsimp only at hrD4
  have e3 := bE4.cell 3
  have e4 := bE4.cell 4
  have o3 := bO4.cell 3
  have o4 := bO4.cell 4
  simp at e3 e4 o3 o4
  clear bE3 bR3 bO3 bA3 bD3 hE3 hg3 hrA hrD
  clear uA
  have uD := bD4
  unfold Box at uD
  have hcs2' : cur2.size = d.length * 1 := by omega
  go_wp2_with (with_reducible refine wpList_copy_all Try.numbersOf rfl (.tmp 21) (.tmp 23) rfl D d.length d.length c' A' rfl rfl uD hcs2' hrD4 HO2.out ?_)
  intro w4 bD5 hg4
  have bR5 := bR4.grown hg4 (by simp; omega)
  have bO5 := bO4.grown hg4 (by simp; omega)
  have bA5 := Box.grown (t := 53) bA4 hg4 (by simp; omega)
  have hE5 : Ext w w4 := hE4.grown hg4 hE4.size (by intro k e; cases e; omega)
  clear uD bE4 bR4 bO4 bD4 bA4 hE4 hg4 hrD4 e3 e4 o3 o4
  have o0 := bO5.cell 0
  have o1 := bO5.cell 1
  have o2 := bO5.cell 2
  have o3 := bO5.cell 3
  have o4 := bO5.cell 4
  have r0 := bR5.cell 0
  have r1 := bR5.cell 1
  have r2 := bR5.cell 2
  have r3 := bR5.cell 3
  have r4 := bR5.cell 4
  have rf := bR5.frozen
  simp at o0 o1 o2 o3 o4 r0 r1 r2 r3 r4
  go_wp2
  have q5 : S + 1 + 1 + 1 ≠ S + 1 := by omega
  have q6 : D ≠ S + 1 := by omega
  have q7 : w.heap.size ≤ S + 1 := by omega
  have bR6 := (((((bR5.put 0 (.int .u64 n)).put 1 (.int .u64 s)).put 2 (.int .u64 g)).put 3 (.slice (some ⟨S + 1 + 1 + 1, 0, none⟩) l.length l.length)).put 4 (.slice (some ⟨D, 0, none⟩) d.length d.length))
  have bA6 := (((((bA5.far (p := ⟨S + 1, 0, none⟩) q5 (.int .u64 n)).far (p := ⟨S + 1, 1, none⟩) q5 (.int .u64 s)).far (p := ⟨S + 1, 2, none⟩) q5 (.int .u64 g)).far (p := ⟨S + 1, 3, none⟩) q5 (.slice (some ⟨S + 1 + 1 + 1, 0, none⟩) l.length l.length)).far (p := ⟨S + 1, 4, none⟩) q5 (.slice (some ⟨D, 0, none⟩) d.length d.length))
  have bD6 := ((((((Box.keep (t := 22) (g := D) bD5 rfl).far (p := ⟨S + 1, 0, none⟩) q6 (.int .u64 n)).far (p := ⟨S + 1, 1, none⟩) q6 (.int .u64 s)).far (p := ⟨S + 1, 2, none⟩) q6 (.int .u64 g)).far (p := ⟨S + 1, 3, none⟩) q6 (.slice (some ⟨S + 1 + 1 + 1, 0, none⟩) l.length l.length)).far (p := ⟨S + 1, 4, none⟩) q6 (.slice (some ⟨D, 0, none⟩) d.length d.length))
  have hE6 := (((((hE5.setCell (p := ⟨S + 1, 0, none⟩) q7 (.int .u64 n)).setCell (p := ⟨S + 1, 1, none⟩) q7 (.int .u64 s)).setCell (p := ⟨S + 1, 2, none⟩) q7 (.int .u64 g)).setCell (p := ⟨S + 1, 3, none⟩) q7 (.slice (some ⟨S + 1 + 1 + 1, 0, none⟩) l.length l.length)).setCell (p := ⟨S + 1, 4, none⟩) q7 (.slice (some ⟨D, 0, none⟩) d.length d.length))
  simp only [List.setIfInBounds_toArray, List.set_cons_zero, List.set_cons_succ] at bR6
  have r0 := bR6.cell 0
  have r1 := bR6.cell 1
  have r2 := bR6.cell 2
  have r3 := bR6.cell 3
  have r4 := bR6.cell 4
  simp only [List.getElem?_toArray, List.getElem?_cons_zero, List.getElem?_cons_succ] at r0 r1 r2 r3 r4
  obtain ⟨W, hW⟩ : ∃ W, ((World.setCell (World.setCell (World.setCell (World.setCell (World.setCell w4 ⟨S + 1, 0, none⟩ (.int .u64 n)) ⟨S + 1, 1, none⟩ (.int .u64 s)) ⟨S + 1, 2, none⟩ (.int .u64 g)) ⟨S + 1, 3, none⟩ (.slice (some ⟨S + 1 + 1 + 1, 0, none⟩) l.length l.length)) ⟨S + 1, 4, none⟩ (.slice (some ⟨D, 0, none⟩) d.length d.length))) = W := ⟨_, rfl⟩
  rw [hW] at bR6 bA6 bD6 hE6 r0 r1 r2 r3 r4
  refine bodyPost_ret (v := .agg #[.int .u64 n, .int .u64 s, .int .u64 g, .slice (some ⟨S + 1 + 1 + 1, 0, none⟩) l.length l.length, .slice (some ⟨D, 0, none⟩) d.length d.length]) ?_ rfl ?_
  · rw [hW]
    clear bR6 bA6 bD6 hE6 bR5 bA5 bD5 hE5 bO5 o0 o1 o2 o3 o4 hW
    simp [results, go_sem, Try.f17, r0, r1, r2, r3, r4]
  · rw [hW]
    exact ⟨S + 1 + 1 + 1, D, rfl, bA6, bD6, by omega, by omega, by omega, hE6⟩

theorem EditAt.of_boxes {w : World} {e : Edit} {g g' : Nat} (h1 : Box w g 53 (e.add.flatMap Table.cells).toArray) (h2 : Box w g' 22 (e.drop.flatMap u64C).toArray) : EditAt w w.heap.size e (some ⟨g, 0, none⟩) (some ⟨g', 0, none⟩) :=
  ⟨Row.of_box h1 rfl (length_flatMap' Table.cells_len _), Row.of_box h2 rfl (length_flatMap' u64C_len _)⟩

set_option maxRecDepth 100000 in
set_option maxHeartbeats 800000 in
theorem manifestEncodes_walk (e : Edit) (h : e.Ok) (A A' : Option Addr) (c c' : Nat) (w : World) (hr : EditAt w w.heap.size e A A') :
    Calls Try.prog 4 #[e.val A A' c c'] w fun r w' => r = .returned (.bool true) ∧ Ext w w' := by
  have HR := Lib.hid (fun w' hb => EditAt.ext (w' := w') hr hb)
  have HH := Lib.hid (fun w hr => held_any e h A A' c c' w hr)
  have HE := Lib.hid (fun A A' c c' w hr => encodeEdit_any e h A A' c c' w hr)
  have HER := Lib.hid (fun w hr => encodeEdit_ref e h A A' c c' w hr)
  have HS := Lib.hid (fun A1 A1' c1 c1' w hr1 hr2 => sameEdit_any e e h.addLen h.addLen h.dropLen h.dropLen A1 A1' A A' c1 c1' c c' w hr1 hr2)
  obtain ⟨F, hF⟩ : ∃ F, F = encodeEdit e := ⟨_, rfl⟩
  rw [← hF] at HE HER
  rw [decide_eq_true (rfl : e = e)] at HS
  clear h hr hF
  obtain ⟨n, s, g, l, d⟩ := e
  dsimp only [Edit.val] at *
  go_enter Try.func4, Try.ntmps4
  go_wp2_with fail
  (obtain ⟨w0, hw0⟩ : ∃ w0, w0 = World.alloc w (.cells #[.int .u64 n, .int .u64 s, .int .u64 g, .slice A l.length c, .slice A' d.length c'] 35) := ⟨_, rfl⟩); (have hbox_w0 : Box w0 (w).heap.size 35 #[.int .u64 n, .int .u64 s, .int .u64 g, .slice A l.length c, .slice A' d.length c'] := by rw [hw0]; exact Box.new _ _ _); (have hE_w0 : Ext w w0 := by rw [hw0]; exact Ext.al _ _); (have hz_w0 : (w0).heap.size = (w).heap.size + 1 := by rw [hw0]; simp); rw [← hw0]; clear hw0
  refine (HH.out _ (HR.out _ (by (repeat (first | exact Below.refl _ _ | refine Ext.trans' ?_ (Ext.al _ _) | refine Ext.trans' ?_ (Ext.dr _) | refine Ext.trans' ?_ (by assumption)))))).mono ?_
  rintro e w1 ⟨g1, g2, rfl, bA, bD, -, -, -, hb1⟩
  have b1 := hbox_w0.ext hb1
  have x0 := b1.cell 0
  have x1 := b1.cell 1
  have x2 := b1.cell 2
  have x3 := b1.cell 3
  have x4 := b1.cell 4
  simp at x0 x1 x2 x3 x4
  have hz1 : w.heap.size < w1.heap.size := by have := hb1.size; omega
  go_wp2_with fail
  (obtain ⟨w2, hw2⟩ : ∃ w2, w2 = World.alloc w1 (.cells #[.int .u64 n, .int .u64 s, .int .u64 g, .slice (some ⟨g1, 0, none⟩) l.length l.length, .slice (some ⟨g2, 0, none⟩) d.length d.length] 35) := ⟨_, rfl⟩); (have hbox_w2 : Box w2 (w1).heap.size 35 #[.int .u64 n, .int .u64 s, .int .u64 g, .slice (some ⟨g1, 0, none⟩) l.length l.length, .slice (some ⟨g2, 0, none⟩) d.length d.length] := by rw [hw2]; exact Box.new _ _ _); (have hE_w2 : Ext w1 w2 := by rw [hw2]; exact Ext.al _ _); (have hz_w2 : (w2).heap.size = (w1).heap.size + 1 := by rw [hw2]; simp); rw [← hw2]; clear hw2
  have bA2 := bA.ext hE_w2
  have bD2 := bD.ext hE_w2
  refine (HE.out _ _ _ _ _ (EditAt.of_boxes bA2 bD2)).mono ?_
  rintro e w3 ⟨rfl, hb3⟩
  have b3 := (b1.ext hE_w2).ext hb3
  have x0 := b3.cell 0
  have x1 := b3.cell 1
  have x2 := b3.cell 2
  have x3 := b3.cell 3
  have x4 := b3.cell 4
  simp at x0 x1 x2 x3 x4
  have hE3 : Ext w w3 := by (repeat (first | exact Below.refl _ _ | refine Ext.trans' ?_ (Ext.al _ _) | refine Ext.trans' ?_ (Ext.dr _) | refine Ext.trans' ?_ (by assumption)))
  go_wp2_with fail
  refine (HER.out _ (HR.out _ hE3)).mono ?_
  rintro e w4 ⟨rfl, hb4⟩
  have b4 := b3.ext hb4
  have x0 := b4.cell 0
  have x1 := b4.cell 1
  have x2 := b4.cell 2
  have x3 := b4.cell 3
  have x4 := b4.cell 4
  have c4 := (hbox_w2.ext hb3).ext hb4
  have y0 := c4.cell 0
  have y1 := c4.cell 1
  have y2 := c4.cell 2
  have y3 := c4.cell 3
  have y4 := c4.cell 4
  simp at x0 x1 x2 x3 x4 y0 y1 y2 y3 y4
  go_wp2_with fail
  refine (HS.out _ _ _ _ _ (EditAt.of_boxes (e := ⟨n, s, g, l, d⟩) ((bA2.ext hb3).ext hb4) ((bD2.ext hb3).ext hb4)) (HR.out _ (hE3.trans' hb4))).mono ?_
  rintro e w5 ⟨rfl, hb5⟩
  go_wp2
  go_ret
  exact ⟨by simp, by (repeat (first | exact Below.refl _ _ | refine Ext.trans' ?_ (Ext.al _ _) | refine Ext.trans' ?_ (Ext.dr _) | refine Ext.trans' ?_ (by assumption)))⟩
end Go.Proofs.Yteplpgknnlehnaa
