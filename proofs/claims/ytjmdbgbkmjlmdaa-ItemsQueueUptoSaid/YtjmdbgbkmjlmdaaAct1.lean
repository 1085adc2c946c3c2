/- What becomes of an activity (layer 18): the small functions, the program's and the document's. -/
import Derived.Test.YtjmdbgbkmjlmdaaRets
namespace Go.Proofs.Ytjmdbgbkmjlmdaa
set_option linter.unusedSimpArgs false
set_option linter.unusedVariables false
open Go.RowKit

set_option maxRecDepth 100000 in
set_option maxHeartbeats 800000 in
theorem new_any (e op inp now : Int) (w : World) : Calls Try.prog 19 #[iv e, iv op, iv inp, iv now] w fun r w' => r = .returned (.agg (newOf e op inp now).cells) ∧ Ext w w' := by
  go_enter Try.func19, Try.ntmps19
  go_wp2
  refine ret_A rfl rfl (x0 := newOf e op inp now) (Box.new_at _ _ _ _ (by simp)) rfl ?_
  exact ⟨rfl, by (repeat (first | exact Below.refl _ _ | refine Ext.trans' ?_ (Ext.al _ _) | refine Ext.trans' ?_ (Ext.dr _) | refine Ext.trans' ?_ (by assumption)))⟩
set_option maxRecDepth 100000 in
set_option maxHeartbeats 800000 in
theorem new_ref (e op inp now : Int) (w : World) : Calls Try.prog 20 #[iv e, iv op, iv inp, iv now] w fun r w' => r = .returned (.agg (newOf e op inp now).cells) ∧ Ext w w' := by
  go_enter Try.func20, Try.ntmps20
  go_wp2
  refine ret_A rfl rfl (x0 := newOf e op inp now) (Box.new_at _ _ _ _ (by simp)) rfl ?_
  exact ⟨rfl, by (repeat (first | exact Below.refl _ _ | refine Ext.trans' ?_ (Ext.al _ _) | refine Ext.trans' ?_ (Ext.dr _) | refine Ext.trans' ?_ (by assumption)))⟩
set_option maxRecDepth 100000 in
set_option maxHeartbeats 800000 in
theorem hold_any (a : ActV) (now : Int) (w : World) : Calls Try.prog 24 #[.agg a.cells, iv now] w fun r w' => r = .returned (.tuple #[.agg (holdOf a now).1.cells, iv (holdOf a now).2]) ∧ Ext w w' := by
  go_enter Try.func24, Try.ntmps24
  unfold holdOf
  dsimp only [ActV.cells]
  by_cases h : a.phase = 1
  · have h' : (a.phase != (1 : Int)) = false := by simpa using h
    rw [if_pos h]
    go_wp2
    refine ret_AT rfl rfl (x0 := { a with phase := 2, since := now, beat := now }) (Box.new_at _ _ _ _ (by simp)) rfl rfl ?_
    exact ⟨rfl, by (repeat (first | exact Below.refl _ _ | refine Ext.trans' ?_ (Ext.al _ _) | refine Ext.trans' ?_ (Ext.dr _) | refine Ext.trans' ?_ (by assumption)))⟩
  · have h' : (a.phase != (1 : Int)) = true := by simpa using h
    rw [if_neg h]
    go_wp2
    refine ret_AT rfl rfl (x0 := noAct) (Box.new_at _ _ _ _ (by simp)) rfl rfl ?_
    exact ⟨rfl, by (repeat (first | exact Below.refl _ _ | refine Ext.trans' ?_ (Ext.al _ _) | refine Ext.trans' ?_ (Ext.dr _) | refine Ext.trans' ?_ (by assumption)))⟩
set_option maxRecDepth 100000 in
set_option maxHeartbeats 800000 in
theorem hold_ref (a : ActV) (now : Int) (w : World) : Calls Try.prog 25 #[.agg a.cells, iv now] w fun r w' => r = .returned (.tuple #[.agg (holdOf a now).1.cells, iv (holdOf a now).2]) ∧ Ext w w' := by
  go_enter Try.func25, Try.ntmps25
  unfold holdOf
  dsimp only [ActV.cells]
  by_cases h : a.phase = 1
  · have h' : (a.phase != (1 : Int)) = false := by simpa using h
    rw [if_pos h]
    go_wp2
    refine ret_AT rfl rfl (x0 := { a with phase := 2, since := now, beat := now }) (Box.new_at _ _ _ _ (by simp)) rfl rfl ?_
    exact ⟨rfl, by (repeat (first | exact Below.refl _ _ | refine Ext.trans' ?_ (Ext.al _ _) | refine Ext.trans' ?_ (Ext.dr _) | refine Ext.trans' ?_ (by assumption)))⟩
  · have h' : (a.phase != (1 : Int)) = true := by simpa using h
    rw [if_neg h]
    go_wp2
    refine ret_AT rfl rfl (x0 := noAct) (Box.new_at _ _ _ _ (by simp)) rfl rfl ?_
    exact ⟨rfl, by (repeat (first | exact Below.refl _ _ | refine Ext.trans' ?_ (Ext.al _ _) | refine Ext.trans' ?_ (Ext.dr _) | refine Ext.trans' ?_ (by assumption)))⟩
set_option maxRecDepth 100000 in
set_option maxHeartbeats 800000 in
theorem held_any (a : ActV) (attempt : Int) (w : World) : Calls Try.prog 40 #[.agg a.cells, iv attempt] w fun r w' => r = .returned (.bool (heldBy a attempt)) ∧ Ext w w' := by
  go_enter Try.func40, Try.ntmps40
  unfold heldBy
  dsimp only [ActV.cells]
  by_cases h : a.phase = 2
  · have h' : (a.phase == (2 : Int)) = true := by simpa using h
    go_wp2
    go_ret
    exact ⟨by simp [h]; rfl, by (repeat (first | exact Below.refl _ _ | refine Ext.trans' ?_ (Ext.al _ _) | refine Ext.trans' ?_ (Ext.dr _) | refine Ext.trans' ?_ (by assumption)))⟩
  · have h' : (a.phase == (2 : Int)) = false := by simpa using h
    go_wp2
    go_ret
    exact ⟨by simp [h], by (repeat (first | exact Below.refl _ _ | refine Ext.trans' ?_ (Ext.al _ _) | refine Ext.trans' ?_ (Ext.dr _) | refine Ext.trans' ?_ (by assumption)))⟩
set_option maxRecDepth 100000 in
set_option maxHeartbeats 800000 in
theorem has_ref (a : ActV) (attempt : Int) (w : World) : Calls Try.prog 43 #[.agg a.cells, iv attempt] w fun r w' => r = .returned (.bool (heldBy a attempt)) ∧ Ext w w' := by
  go_enter Try.func43, Try.ntmps43
  unfold heldBy
  dsimp only [ActV.cells]
  by_cases h : a.phase = 2
  · have h' : (a.phase == (2 : Int)) = true := by simpa using h
    go_wp2
    go_ret
    exact ⟨by simp [h]; exact decide_eq_decide.2 eq_comm, by (repeat (first | exact Below.refl _ _ | refine Ext.trans' ?_ (Ext.al _ _) | refine Ext.trans' ?_ (Ext.dr _) | refine Ext.trans' ?_ (by assumption)))⟩
  · have h' : (a.phase == (2 : Int)) = false := by simpa using h
    go_wp2
    go_ret
    exact ⟨by simp [h], by (repeat (first | exact Below.refl _ _ | refine Ext.trans' ?_ (Ext.al _ _) | refine Ext.trans' ?_ (Ext.dr _) | refine Ext.trans' ?_ (by assumption)))⟩
set_option maxRecDepth 100000 in
set_option maxHeartbeats 800000 in
theorem beat_any (a : ActV) (attempt detail now : Int) (w : World) : Calls Try.prog 26 #[.agg a.cells, iv attempt, iv detail, iv now] w fun r w' => r = .returned (.tuple #[.agg (beatOf a attempt detail now).1.cells, iv (beatOf a attempt detail now).2]) ∧ Ext w w' := by
  have HH := Lib.hid (fun w => held_any a attempt w)
  obtain ⟨hb, hh⟩ : ∃ b, heldBy a attempt = b := ⟨_, rfl⟩
  unfold beatOf
  rw [hh] at HH ⊢
  clear hh
  go_enter Try.func26, Try.ntmps26
  dsimp only [ActV.cells]
  go_wp2_with fail
  obtain ⟨S, hS⟩ : ∃ S, w.heap.size = S := ⟨_, rfl⟩
  (obtain ⟨w0, hw0⟩ : ∃ w0, w0 = World.alloc w (.cells #[iv a.event, iv a.opts, iv a.input, iv a.at_, iv a.attempt, iv a.phase, iv a.since, iv a.beat, iv a.detail, iv a.again] 40) := ⟨_, rfl⟩); (have hbox_w0 : Box w0 (w).heap.size 40 #[iv a.event, iv a.opts, iv a.input, iv a.at_, iv a.attempt, iv a.phase, iv a.since, iv a.beat, iv a.detail, iv a.again] := by rw [hw0]; exact Box.new _ _ _); (have hE_w0 : Ext w w0 := by rw [hw0]; exact Ext.al _ _); (have hz_w0 : (w0).heap.size = (w).heap.size + 1 := by rw [hw0]; simp); rw [← hw0]; clear hw0
  (obtain ⟨w1, hw1⟩ : ∃ w1, w1 = World.alloc w0 (.cells #[.int .i64 0, .int .i64 0, .int .i64 0, .int .i64 0, .int .i64 0, .int .i64 0, .int .i64 0, .int .i64 0, .int .i64 0, .int .i64 0] 40) := ⟨_, rfl⟩); (have hbox_w1 : Box w1 (w0).heap.size 40 #[.int .i64 0, .int .i64 0, .int .i64 0, .int .i64 0, .int .i64 0, .int .i64 0, .int .i64 0, .int .i64 0, .int .i64 0, .int .i64 0] := by rw [hw1]; exact Box.new _ _ _); (have hE_w1 : Ext w0 w1 := by rw [hw1]; exact Ext.al _ _); (have hz_w1 : (w1).heap.size = (w0).heap.size + 1 := by rw [hw1]; simp); rw [← hw1]; clear hw1
  have bA := hbox_w0.ext hE_w1
  have bR := hbox_w1
  rw [hz_w0, hS] at bR
  rw [hS] at bA
  (try rw [hS] at hz_w0)
  (try rw [hz_w0])
  (try rw [hS])
  have hX1 := hE_w0.trans' hE_w1
  clear hbox_w0 hbox_w1 hE_w0 hE_w1
  refine (HH.out _).mono ?_
  rintro _ w2 ⟨rfl, hb2⟩
  have bA2 := bA.ext hb2
  have bR2 := bR.ext hb2
  have hX2 := hX1.trans' hb2
  have fA := bA2.frozen
  have fR := bR2.frozen
  clear bA bR hX1 hb2 HH hz_w0 hz_w1
  have a0 := bA2.cell 0
  have a1 := bA2.cell 1
  have a2 := bA2.cell 2
  have a3 := bA2.cell 3
  have a4 := bA2.cell 4
  have a5 := bA2.cell 5
  have a6 := bA2.cell 6
  have a7 := bA2.cell 7
  have a8 := bA2.cell 8
  have a9 := bA2.cell 9
  simp only [List.getElem?_toArray, List.getElem?_cons_zero, List.getElem?_cons_succ] at a0 a1 a2 a3 a4 a5 a6 a7 a8 a9
  have r0 := bR2.cell 0
  have r1 := bR2.cell 1
  have r2 := bR2.cell 2
  have r3 := bR2.cell 3
  have r4 := bR2.cell 4
  have r5 := bR2.cell 5
  have r6 := bR2.cell 6
  have r7 := bR2.cell 7
  have r8 := bR2.cell 8
  have r9 := bR2.cell 9
  simp only [List.getElem?_toArray, List.getElem?_cons_zero, List.getElem?_cons_succ] at r0 r1 r2 r3 r4 r5 r6 r7 r8 r9
  have HS := Lib.hid hS
  clear hS
  cases hb with
  | false =>
    (try dsimp only); (repeat (first | go_values | go_skip | go_guarded | go_step | go_upon)); (try simp only [Exit.inBlock, Exit.then])
    refine ret_AT rfl rfl (x0 := noAct) (bR2.put10 _ _ _ _ _ _ _ _ _ _) rfl rfl ?_
    exact ⟨rfl, Fr.ext (S := fun x => x < S) (Fr.put10 (Fr.of_ext hX2) (g := S + 1) (by omega) _ _ _ _ _ _ _ _ _ _) (fun x h => by rw [← HS.out]; exact h)⟩
  | true =>
    (try dsimp only); (repeat (first | go_values | go_skip | go_guarded | go_step | go_upon)); (try simp only [Exit.inBlock, Exit.then])
    have hF : ∀ u v, Fr (fun x => x ≠ S) w2 ((w2.setCell ⟨S, 7, none⟩ u).setCell ⟨S, 8, none⟩ v) := fun u v => ((Fr.refl w2).set (p := ⟨S, 7, none⟩) u (fun _ h => h rfl)).set (p := ⟨S, 8, none⟩) v (fun _ h => h rfl)
    refine ret_AT rfl rfl (x0 := { a with beat := now, detail := detail }) ((bR2.fr (hF _ _) (by omega)).put10 _ _ _ _ _ _ _ _ _ _) rfl rfl ?_
    exact ⟨rfl, Fr.ext (S := fun x => x < S) (Fr.put10 ((Fr.of_ext hX2).step (S' := fun x => x ≠ S) (hF _ _) (fun x _ h => by omega)) (g := S + 1) (by omega) _ _ _ _ _ _ _ _ _ _) (fun x h => by rw [← HS.out]; exact h)⟩
set_option maxRecDepth 100000 in
set_option maxHeartbeats 800000 in
theorem beat_ref (a : ActV) (attempt detail now : Int) (w : World) : Calls Try.prog 27 #[.agg a.cells, iv attempt, iv detail, iv now] w fun r w' => r = .returned (.tuple #[.agg (beatOf a attempt detail now).1.cells, iv (beatOf a attempt detail now).2]) ∧ Ext w w' := by
  have HH := Lib.hid (fun w => has_ref a attempt w)
  obtain ⟨hb, hh⟩ : ∃ b, heldBy a attempt = b := ⟨_, rfl⟩
  unfold beatOf
  rw [hh] at HH ⊢
  clear hh
  go_enter Try.func27, Try.ntmps27
  dsimp only [ActV.cells]
  go_wp2_with fail
  obtain ⟨S, hS⟩ : ∃ S, w.heap.size = S := ⟨_, rfl⟩
  (obtain ⟨w0, hw0⟩ : ∃ w0, w0 = World.alloc w (.cells #[iv a.event, iv a.opts, iv a.input, iv a.at_, iv a.attempt, iv a.phase, iv a.since, iv a.beat, iv a.detail, iv a.again] 40) := ⟨_, rfl⟩); (have hbox_w0 : Box w0 (w).heap.size 40 #[iv a.event, iv a.opts, iv a.input, iv a.at_, iv a.attempt, iv a.phase, iv a.since, iv a.beat, iv a.detail, iv a.again] := by rw [hw0]; exact Box.new _ _ _); (have hE_w0 : Ext w w0 := by rw [hw0]; exact Ext.al _ _); (have hz_w0 : (w0).heap.size = (w).heap.size + 1 := by rw [hw0]; simp); rw [← hw0]; clear hw0
  (obtain ⟨w1, hw1⟩ : ∃ w1, w1 = World.alloc w0 (.cells #[.int .i64 0, .int .i64 0, .int .i64 0, .int .i64 0, .int .i64 0, .int .i64 0, .int .i64 0, .int .i64 0, .int .i64 0, .int .i64 0] 40) := ⟨_, rfl⟩); (have hbox_w1 : Box w1 (w0).heap.size 40 #[.int .i64 0, .int .i64 0, .int .i64 0, .int .i64 0, .int .i64 0, .int .i64 0, .int .i64 0, .int .i64 0, .int .i64 0, .int .i64 0] := by rw [hw1]; exact Box.new _ _ _); (have hE_w1 : Ext w0 w1 := by rw [hw1]; exact Ext.al _ _); (have hz_w1 : (w1).heap.size = (w0).heap.size + 1 := by rw [hw1]; simp); rw [← hw1]; clear hw1
  have bA := hbox_w0.ext hE_w1
  have bR := hbox_w1
  rw [hz_w0, hS] at bR
  rw [hS] at bA
  (try rw [hS] at hz_w0)
  (try rw [hz_w0])
  (try rw [hS])
  have hX1 := hE_w0.trans' hE_w1
  clear hbox_w0 hbox_w1 hE_w0 hE_w1
  refine (HH.out _).mono ?_
  rintro _ w2 ⟨rfl, hb2⟩
  have bA2 := bA.ext hb2
  have bR2 := bR.ext hb2
  have hX2 := hX1.trans' hb2
  have fA := bA2.frozen
  have fR := bR2.frozen
  clear bA bR hX1 hb2 HH hz_w0 hz_w1
  have a0 := bA2.cell 0
  have a1 := bA2.cell 1
  have a2 := bA2.cell 2
  have a3 := bA2.cell 3
  have a4 := bA2.cell 4
  have a5 := bA2.cell 5
  have a6 := bA2.cell 6
  have a7 := bA2.cell 7
  have a8 := bA2.cell 8
  have a9 := bA2.cell 9
  simp only [List.getElem?_toArray, List.getElem?_cons_zero, List.getElem?_cons_succ] at a0 a1 a2 a3 a4 a5 a6 a7 a8 a9
  have r0 := bR2.cell 0
  have r1 := bR2.cell 1
  have r2 := bR2.cell 2
  have r3 := bR2.cell 3
  have r4 := bR2.cell 4
  have r5 := bR2.cell 5
  have r6 := bR2.cell 6
  have r7 := bR2.cell 7
  have r8 := bR2.cell 8
  have r9 := bR2.cell 9
  simp only [List.getElem?_toArray, List.getElem?_cons_zero, List.getElem?_cons_succ] at r0 r1 r2 r3 r4 r5 r6 r7 r8 r9
  have HS := Lib.hid hS
  clear hS
  cases hb with
  | false =>
    (try dsimp only); (repeat (first | go_values | go_skip | go_guarded | go_step | go_upon)); (try simp only [Exit.inBlock, Exit.then])
    refine ret_AT rfl rfl (x0 := noAct) (bR2.put10 _ _ _ _ _ _ _ _ _ _) rfl rfl ?_
    exact ⟨rfl, Fr.ext (S := fun x => x < S) (Fr.put10 (Fr.of_ext hX2) (g := S + 1) (by omega) _ _ _ _ _ _ _ _ _ _) (fun x h => by rw [← HS.out]; exact h)⟩
  | true =>
    (try dsimp only); (repeat (first | go_values | go_skip | go_guarded | go_step | go_upon)); (try simp only [Exit.inBlock, Exit.then])
    have hF : ∀ u v, Fr (fun x => x ≠ S) w2 ((w2.setCell ⟨S, 7, none⟩ u).setCell ⟨S, 8, none⟩ v) := fun u v => ((Fr.refl w2).set (p := ⟨S, 7, none⟩) u (fun _ h => h rfl)).set (p := ⟨S, 8, none⟩) v (fun _ h => h rfl)
    refine ret_AT rfl rfl (x0 := { a with beat := now, detail := detail }) ((bR2.fr (hF _ _) (by omega)).put10 _ _ _ _ _ _ _ _ _ _) rfl rfl ?_
    exact ⟨rfl, Fr.ext (S := fun x => x < S) (Fr.put10 ((Fr.of_ext hX2).step (S' := fun x => x ≠ S) (hF _ _) (fun x _ h => by omega)) (g := S + 1) (by omega) _ _ _ _ _ _ _ _ _ _) (fun x h => by rw [← HS.out]; exact h)⟩
end Go.Proofs.Ytjmdbgbkmjlmdaa
