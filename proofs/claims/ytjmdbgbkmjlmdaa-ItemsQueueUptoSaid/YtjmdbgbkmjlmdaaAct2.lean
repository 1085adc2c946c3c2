/- What becomes of an activity (layer 18): its end, its being done, its being tried again: the program's walks and the document's. -/
import Derived.Test.YtjmdbgbkmjlmdaaAct1
namespace Go.Proofs.Ytjmdbgbkmjlmdaa
set_option linter.unusedSimpArgs false
set_option linter.unusedVariables false
open Go.RowKit

theorem Fr.dd {S : Nat → Prop} {a w : World} (h : Fr S a w) : Fr S a.drew w.drew := ⟨h.os, h.tape, h.output, h.size, h.block⟩
theorem RS.put10 {S : Nat → Prop} (w : World) {g : Nat} (hg : ¬ S g) (v0 v1 v2 v3 v4 v5 v6 v7 v8 v9 : Value) :
    RS S w.drew ((((((((((w.setCell ⟨g, 0, none⟩ v0).setCell ⟨g, 1, none⟩ v1).setCell ⟨g, 2, none⟩ v2).setCell ⟨g, 3, none⟩ v3).setCell ⟨g, 4, none⟩ v4).setCell ⟨g, 5, none⟩ v5).setCell ⟨g, 6, none⟩ v6).setCell ⟨g, 7, none⟩ v7).setCell ⟨g, 8, none⟩ v8).setCell ⟨g, 9, none⟩ v9).drew :=
  RS.fr (S' := S) (Fr.put10 (Fr.refl w) hg v0 v1 v2 v3 v4 v5 v6 v7 v8 v9).dd (fun _ _ h => h)
set_option maxRecDepth 100000 in
set_option maxHeartbeats 800000 in
theorem end_any (a : ActV) (kind b : Int) (w : World) : Calls Try.prog 42 #[.agg a.cells, iv kind, iv b] w fun r w' => r = .returned (.agg (endOf a kind b).cells) ∧ Ext w w' := by
  go_enter Try.func42, Try.ntmps42
  dsimp only [ActV.cells]
  go_wp2
  refine ret_E rfl rfl (x0 := endOf a kind b) (Box.new_at _ _ _ _ (by simp)) rfl ?_
  exact ⟨rfl, by (repeat (first | exact Below.refl _ _ | refine Ext.trans' ?_ (Ext.al _ _) | refine Ext.trans' ?_ (Ext.dr _) | refine Ext.trans' ?_ (by assumption)))⟩
set_option maxRecDepth 100000 in
set_option maxHeartbeats 800000 in
theorem done_any (a : ActV) (attempt value : Int) (w : World) : Calls Try.prog 28 #[.agg a.cells, iv attempt, iv value] w fun r w' => r = .returned (.tuple #[.agg (doneOf a attempt value).1.cells, iv (doneOf a attempt value).2]) ∧ Ext w w' := by
  have HH := Lib.hid (fun w => held_any a attempt w)
  have HEND := Lib.hid (fun w => end_any a 22 value w)
  obtain ⟨hb, hh⟩ : ∃ b, heldBy a attempt = b := ⟨_, rfl⟩
  unfold doneOf
  rw [hh] at HH ⊢
  clear hh
  go_enter Try.func28, Try.ntmps28
  dsimp only [ActV.cells]
  go_wp2_with fail
  obtain ⟨S, hS⟩ : ∃ S, w.heap.size = S := ⟨_, rfl⟩
  (obtain ⟨v0, hv0⟩ : ∃ v0, v0 = World.alloc w (.cells #[iv a.event, iv a.opts, iv a.input, iv a.at_, iv a.attempt, iv a.phase, iv a.since, iv a.beat, iv a.detail, iv a.again] 40) := ⟨_, rfl⟩); (have hbox_v0 : Box v0 (w).heap.size 40 #[iv a.event, iv a.opts, iv a.input, iv a.at_, iv a.attempt, iv a.phase, iv a.since, iv a.beat, iv a.detail, iv a.again] := by rw [hv0]; exact Box.new _ _ _); (have hE_v0 : Ext w v0 := by rw [hv0]; exact Ext.al _ _); (have hz_v0 : (v0).heap.size = (w).heap.size + 1 := by rw [hv0]; simp); rw [← hv0]; clear hv0
  (obtain ⟨v1, hv1⟩ : ∃ v1, v1 = World.alloc v0 (.cells #[.int .i64 0, .int .i64 0, .int .i64 0, .int .i64 0, .int .i64 0, .int .i64 0, .int .i64 0, .int .i64 0, .int .i64 0] 51) := ⟨_, rfl⟩); (have hbox_v1 : Box v1 (v0).heap.size 51 #[.int .i64 0, .int .i64 0, .int .i64 0, .int .i64 0, .int .i64 0, .int .i64 0, .int .i64 0, .int .i64 0, .int .i64 0] := by rw [hv1]; exact Box.new _ _ _); (have hE_v1 : Ext v0 v1 := by rw [hv1]; exact Ext.al _ _); (have hz_v1 : (v1).heap.size = (v0).heap.size + 1 := by rw [hv1]; simp); rw [← hv1]; clear hv1
  have B0 : Box v1 (S) 40 #[iv a.event, iv a.opts, iv a.input, iv a.at_, iv a.attempt, iv a.phase, iv a.since, iv a.beat, iv a.detail, iv a.again] := by
    have h := (hbox_v0).ext hE_v1
    rw [hS] at h
    exact h
  have B1 : Box v1 (S + 1) 51 #[.int .i64 0, .int .i64 0, .int .i64 0, .int .i64 0, .int .i64 0, .int .i64 0, .int .i64 0, .int .i64 0, .int .i64 0] := by
    have h := hbox_v1
    rw [hz_v0, hS] at h
    exact h
  have hX1 := (hE_v0).trans' hE_v1
  have hz1 : v1.heap.size = S + 2 := by omega
  (try rw [hz_v0])
  rw [hS]
  clear hbox_v0 hE_v0 hz_v0 hbox_v1 hE_v1 hz_v1
  refine (HH.out _).mono ?_
  rintro _ w2 ⟨rfl, hb2⟩
  have bA2 := B0.ext hb2
  have bR2 := B1.ext hb2
  have hX2 := hX1.trans' hb2
  have fA := bA2.frozen
  have fR := bR2.frozen
  clear B0 B1 hX1 hb2 HH hz1
  have a0 := bA2.cell 0
  have a1 := bA2.cell 1
  have a2 := bA2.cell 2
  have a3 := bA2.cell 3
  have a4 := bA2.cell 4
  have a5 := bA2.cell 5
  have a6 := bA2.cell 6
  have a7 := bA2.cell 7
  have a8 := bA2.cell 8
  have a9 := bA2.cell 9
  simp only [List.getElem?_toArray, List.getElem?_cons_zero, List.getElem?_cons_succ] at a0 a1 a2 a3 a4 a5 a6 a7 a8 a9
  have r0 := bR2.cell 0
  have r1 := bR2.cell 1
  have r2 := bR2.cell 2
  have r3 := bR2.cell 3
  have r4 := bR2.cell 4
  have r5 := bR2.cell 5
  have r6 := bR2.cell 6
  have r7 := bR2.cell 7
  have r8 := bR2.cell 8
  simp only [List.getElem?_toArray, List.getElem?_cons_zero, List.getElem?_cons_succ] at r0 r1 r2 r3 r4 r5 r6 r7 r8
  have HS := Lib.hid hS
  clear hS
  cases hb with
  | false =>
    (try dsimp only); (repeat (first | go_values | go_skip | go_guarded | go_step | go_upon)); (try simp only [Exit.inBlock, Exit.then])
    refine ret_ET rfl rfl (x0 := noEv) (bR2.put9 _ _ _ _ _ _ _ _ _) rfl rfl ?_
    exact ⟨rfl, Fr.ext (S := fun x => x < S) (Fr.put9 (Fr.of_ext hX2) (g := S + 1) (by omega) _ _ _ _ _ _ _ _ _) (fun x h => by rw [← HS.out]; exact h)⟩
  | true =>
    go_wp2_with fail
    refine (HEND.out _).mono ?_
    rintro _ w3 ⟨rfl, hb3⟩
    have bR3 := bR2.ext hb3
    have hX3 := hX2.trans' hb3
    clear a0 a1 a2 a3 a4 a5 a6 a7 a8 a9 r0 r1 r2 r3 r4 r5 r6 r7 r8 fA fR bA2 bR2 hb3 hX2
    have fR := bR3.frozen
    dsimp only [endOf, EvV.cells]
    have r0 := bR3.cell 0
    have r1 := bR3.cell 1
    have r2 := bR3.cell 2
    have r3 := bR3.cell 3
    have r4 := bR3.cell 4
    have r5 := bR3.cell 5
    have r6 := bR3.cell 6
    have r7 := bR3.cell 7
    have r8 := bR3.cell 8
    simp only [List.getElem?_toArray, List.getElem?_cons_zero, List.getElem?_cons_succ] at r0 r1 r2 r3 r4 r5 r6 r7 r8
    (try dsimp only); (repeat (first | go_values | go_skip | go_guarded | go_step | go_upon)); (try simp only [Exit.inBlock, Exit.then])
    refine ret_ET rfl rfl (x0 := endOf a 22 value) (bR3.put9 _ _ _ _ _ _ _ _ _) rfl rfl ?_
    exact ⟨rfl, Fr.ext (S := fun x => x < S) (Fr.put9 (Fr.of_ext hX3) (g := S + 1) (by omega) _ _ _ _ _ _ _ _ _) (fun x h => by rw [← HS.out]; exact h)⟩
set_option maxRecDepth 100000 in
set_option maxHeartbeats 800000 in
theorem done_ref (a : ActV) (attempt value : Int) (w : World) : Calls Try.prog 29 #[.agg a.cells, iv attempt, iv value] w fun r w' => r = .returned (.tuple #[.agg (doneOf a attempt value).1.cells, iv (doneOf a attempt value).2]) ∧ Ext w w' := by
  have HH := Lib.hid (fun w => has_ref a attempt w)
  have HEND := Lib.hid (fun w => end_any a 22 value w)
  obtain ⟨hb, hh⟩ : ∃ b, heldBy a attempt = b := ⟨_, rfl⟩
  unfold doneOf
  rw [hh] at HH ⊢
  clear hh
  go_enter Try.func29, Try.ntmps29
  dsimp only [ActV.cells]
  go_wp2_with fail
  obtain ⟨S, hS⟩ : ∃ S, w.heap.size = S := ⟨_, rfl⟩
  (obtain ⟨v0, hv0⟩ : ∃ v0, v0 = World.alloc w (.cells #[iv a.event, iv a.opts, iv a.input, iv a.at_, iv a.attempt, iv a.phase, iv a.since, iv a.beat, iv a.detail, iv a.again] 40) := ⟨_, rfl⟩); (have hbox_v0 : Box v0 (w).heap.size 40 #[iv a.event, iv a.opts, iv a.input, iv a.at_, iv a.attempt, iv a.phase, iv a.since, iv a.beat, iv a.detail, iv a.again] := by rw [hv0]; exact Box.new _ _ _); (have hE_v0 : Ext w v0 := by rw [hv0]; exact Ext.al _ _); (have hz_v0 : (v0).heap.size = (w).heap.size + 1 := by rw [hv0]; simp); rw [← hv0]; clear hv0
  (obtain ⟨v1, hv1⟩ : ∃ v1, v1 = World.alloc v0 (.cells #[.int .i64 0, .int .i64 0, .int .i64 0, .int .i64 0, .int .i64 0, .int .i64 0, .int .i64 0, .int .i64 0, .int .i64 0] 51) := ⟨_, rfl⟩); (have hbox_v1 : Box v1 (v0).heap.size 51 #[.int .i64 0, .int .i64 0, .int .i64 0, .int .i64 0, .int .i64 0, .int .i64 0, .int .i64 0, .int .i64 0, .int .i64 0] := by rw [hv1]; exact Box.new _ _ _); (have hE_v1 : Ext v0 v1 := by rw [hv1]; exact Ext.al _ _); (have hz_v1 : (v1).heap.size = (v0).heap.size + 1 := by rw [hv1]; simp); rw [← hv1]; clear hv1
  have B0 : Box v1 (S) 40 #[iv a.event, iv a.opts, iv a.input, iv a.at_, iv a.attempt, iv a.phase, iv a.since, iv a.beat, iv a.detail, iv a.again] := by
    have h := (hbox_v0).ext hE_v1
    rw [hS] at h
    exact h
  have B1 : Box v1 (S + 1) 51 #[.int .i64 0, .int .i64 0, .int .i64 0, .int .i64 0, .int .i64 0, .int .i64 0, .int .i64 0, .int .i64 0, .int .i64 0] := by
    have h := hbox_v1
    rw [hz_v0, hS] at h
    exact h
  have hX1 := (hE_v0).trans' hE_v1
  have hz1 : v1.heap.size = S + 2 := by omega
  (try rw [hz_v0])
  rw [hS]
  clear hbox_v0 hE_v0 hz_v0 hbox_v1 hE_v1 hz_v1
  refine (HH.out _).mono ?_
  rintro _ w2 ⟨rfl, hb2⟩
  have bA2 := B0.ext hb2
  have bR2 := B1.ext hb2
  have hX2 := hX1.trans' hb2
  have fA := bA2.frozen
  have fR := bR2.frozen
  clear B0 B1 hX1 hb2 HH hz1
  have a0 := bA2.cell 0
  have a1 := bA2.cell 1
  have a2 := bA2.cell 2
  have a3 := bA2.cell 3
  have a4 := bA2.cell 4
  have a5 := bA2.cell 5
  have a6 := bA2.cell 6
  have a7 := bA2.cell 7
  have a8 := bA2.cell 8
  have a9 := bA2.cell 9
  simp only [List.getElem?_toArray, List.getElem?_cons_zero, List.getElem?_cons_succ] at a0 a1 a2 a3 a4 a5 a6 a7 a8 a9
  have r0 := bR2.cell 0
  have r1 := bR2.cell 1
  have r2 := bR2.cell 2
  have r3 := bR2.cell 3
  have r4 := bR2.cell 4
  have r5 := bR2.cell 5
  have r6 := bR2.cell 6
  have r7 := bR2.cell 7
  have r8 := bR2.cell 8
  simp only [List.getElem?_toArray, List.getElem?_cons_zero, List.getElem?_cons_succ] at r0 r1 r2 r3 r4 r5 r6 r7 r8
  have HS := Lib.hid hS
  clear hS
  cases hb with
  | false =>
    (try dsimp only); (repeat (first | go_values | go_skip | go_guarded | go_step | go_upon)); (try simp only [Exit.inBlock, Exit.then])
    refine ret_ET rfl rfl (x0 := noEv) (bR2.put9 _ _ _ _ _ _ _ _ _) rfl rfl ?_
    exact ⟨rfl, Fr.ext (S := fun x => x < S) (Fr.put9 (Fr.of_ext hX2) (g := S + 1) (by omega) _ _ _ _ _ _ _ _ _) (fun x h => by rw [← HS.out]; exact h)⟩
  | true =>
    (try dsimp only); (repeat (first | go_values | go_skip | go_guarded | go_step | go_upon)); (try simp only [Exit.inBlock, Exit.then])
    refine ret_ET rfl rfl (x0 := endOf a 22 value) (bR2.put9 _ _ _ _ _ _ _ _ _) rfl rfl ?_
    exact ⟨rfl, Fr.ext (S := fun x => x < S) (Fr.put9 (Fr.of_ext hX2) (g := S + 1) (by omega) _ _ _ _ _ _ _ _ _) (fun x h => by rw [← HS.out]; exact h)⟩
end Go.Proofs.Ytjmdbgbkmjlmdaa
