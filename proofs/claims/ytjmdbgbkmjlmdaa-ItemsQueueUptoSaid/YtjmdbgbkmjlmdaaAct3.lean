/- What becomes of an activity (layer 18) when an attempt came to nothing: the program's walk and the document's. -/
import Derived.Test.YtjmdbgbkmjlmdaaAct2
import Derived.Test.YtjmdbgbkmjlmdaaTim2
namespace Go.Proofs.Ytjmdbgbkmjlmdaa
set_option linter.unusedSimpArgs false
set_option linter.unusedVariables false
open Go.RowKit

set_option maxRecDepth 100000 in
set_option maxHeartbeats 1600000 in
theorem againA_any (o : OptV) (ho : o.May) (a : ActV) (ha : a.Ok) (code now : Int) (hn : T62 now) (ov : EvV) (w : World) : Calls Try.prog 41 #[.agg o.cells, .agg a.cells, iv code, iv now, .agg ov.cells] w fun r w' => r = .returned (.tuple #[.agg (failsOf o a code now ov).1.cells, .agg (failsOf o a code now ov).2.cells]) ∧ Ext w w' := by
  have HAG := Lib.hid (fun w => again_any o ho a.attempt code a.at_ now ha.attempt ha.at_ hn w)
  obtain ⟨⟨x, hb⟩, hh⟩ : ∃ r, againOf o a.attempt code a.at_ now = r := ⟨_, rfl⟩
  unfold failsOf
  rw [hh] at HAG ⊢
  dsimp only at HAG ⊢
  clear hh ho ha hn
  go_enter Try.func41, Try.ntmps41
  dsimp only [ActV.cells, OptV.cells, EvV.cells]
  go_wp2_with fail
  obtain ⟨S, hS⟩ : ∃ S, w.heap.size = S := ⟨_, rfl⟩
  (obtain ⟨v0, hv0⟩ : ∃ v0, v0 = World.alloc w (.cells #[iv o.queue, iv o.start, iv o.close, iv o.total, iv o.beat, iv o.first, iv o.num, iv o.den, iv o.most, iv o.tries, iv o.never] 42) := ⟨_, rfl⟩); (have hbox_v0 : Box v0 (w).heap.size 42 #[iv o.queue, iv o.start, iv o.close, iv o.total, iv o.beat, iv o.first, iv o.num, iv o.den, iv o.most, iv o.tries, iv o.never] := by rw [hv0]; exact Box.new _ _ _); (have hE_v0 : Ext w v0 := by rw [hv0]; exact Ext.al _ _); (have hz_v0 : (v0).heap.size = (w).heap.size + 1 := by rw [hv0]; simp); rw [← hv0]; clear hv0
  (obtain ⟨v1, hv1⟩ : ∃ v1, v1 = World.alloc v0 (.cells #[iv a.event, iv a.opts, iv a.input, iv a.at_, iv a.attempt, iv a.phase, iv a.since, iv a.beat, iv a.detail, iv a.again] 40) := ⟨_, rfl⟩); (have hbox_v1 : Box v1 (v0).heap.size 40 #[iv a.event, iv a.opts, iv a.input, iv a.at_, iv a.attempt, iv a.phase, iv a.since, iv a.beat, iv a.detail, iv a.again] := by rw [hv1]; exact Box.new _ _ _); (have hE_v1 : Ext v0 v1 := by rw [hv1]; exact Ext.al _ _); (have hz_v1 : (v1).heap.size = (v0).heap.size + 1 := by rw [hv1]; simp); rw [← hv1]; clear hv1
  (obtain ⟨v2, hv2⟩ : ∃ v2, v2 = World.alloc v1 (.cells #[iv 0, iv 0, iv ov.kind, iv ov.a, iv ov.b, iv ov.c, iv 0, iv 0, iv 0] 51) := ⟨_, rfl⟩); (have hbox_v2 : Box v2 (v1).heap.size 51 #[iv 0, iv 0, iv ov.kind, iv ov.a, iv ov.b, iv ov.c, iv 0, iv 0, iv 0] := by rw [hv2]; exact Box.new _ _ _); (have hE_v2 : Ext v1 v2 := by rw [hv2]; exact Ext.al _ _); (have hz_v2 : (v2).heap.size = (v1).heap.size + 1 := by rw [hv2]; simp); rw [← hv2]; clear hv2
  (obtain ⟨v3, hv3⟩ : ∃ v3, v3 = World.alloc v2 (.cells #[.int .i64 0, .int .i64 0, .int .i64 0, .int .i64 0, .int .i64 0, .int .i64 0, .int .i64 0, .int .i64 0, .int .i64 0, .int .i64 0] 40) := ⟨_, rfl⟩); (have hbox_v3 : Box v3 (v2).heap.size 40 #[.int .i64 0, .int .i64 0, .int .i64 0, .int .i64 0, .int .i64 0, .int .i64 0, .int .i64 0, .int .i64 0, .int .i64 0, .int .i64 0] := by rw [hv3]; exact Box.new _ _ _); (have hE_v3 : Ext v2 v3 := by rw [hv3]; exact Ext.al _ _); (have hz_v3 : (v3).heap.size = (v2).heap.size + 1 := by rw [hv3]; simp); rw [← hv3]; clear hv3
  (obtain ⟨v4, hv4⟩ : ∃ v4, v4 = World.alloc v3 (.cells #[.int .i64 0, .int .i64 0, .int .i64 0, .int .i64 0, .int .i64 0, .int .i64 0, .int .i64 0, .int .i64 0, .int .i64 0] 51) := ⟨_, rfl⟩); (have hbox_v4 : Box v4 (v3).heap.size 51 #[.int .i64 0, .int .i64 0, .int .i64 0, .int .i64 0, .int .i64 0, .int .i64 0, .int .i64 0, .int .i64 0, .int .i64 0] := by rw [hv4]; exact Box.new _ _ _); (have hE_v4 : Ext v3 v4 := by rw [hv4]; exact Ext.al _ _); (have hz_v4 : (v4).heap.size = (v3).heap.size + 1 := by rw [hv4]; simp); rw [← hv4]; clear hv4
  have B0 : Box v4 (S) 42 #[iv o.queue, iv o.start, iv o.close, iv o.total, iv o.beat, iv o.first, iv o.num, iv o.den, iv o.most, iv o.tries, iv o.never] := by
    have h := ((((hbox_v0).ext hE_v1).ext hE_v2).ext hE_v3).ext hE_v4
    rw [hS] at h
    exact h
  have B1 : Box v4 (S + 1) 40 #[iv a.event, iv a.opts, iv a.input, iv a.at_, iv a.attempt, iv a.phase, iv a.since, iv a.beat, iv a.detail, iv a.again] := by
    have h := (((hbox_v1).ext hE_v2).ext hE_v3).ext hE_v4
    rw [hz_v0, hS] at h
    exact h
  have B2 : Box v4 (S + 1 + 1) 51 #[iv 0, iv 0, iv ov.kind, iv ov.a, iv ov.b, iv ov.c, iv 0, iv 0, iv 0] := by
    have h := ((hbox_v2).ext hE_v3).ext hE_v4
    rw [hz_v1, hz_v0, hS] at h
    exact h
  have B3 : Box v4 (S + 1 + 1 + 1) 40 #[.int .i64 0, .int .i64 0, .int .i64 0, .int .i64 0, .int .i64 0, .int .i64 0, .int .i64 0, .int .i64 0, .int .i64 0, .int .i64 0] := by
    have h := (hbox_v3).ext hE_v4
    rw [hz_v2, hz_v1, hz_v0, hS] at h
    exact h
  have B4 : Box v4 (S + 1 + 1 + 1 + 1) 51 #[.int .i64 0, .int .i64 0, .int .i64 0, .int .i64 0, .int .i64 0, .int .i64 0, .int .i64 0, .int .i64 0, .int .i64 0] := by
    have h := hbox_v4
    rw [hz_v3, hz_v2, hz_v1, hz_v0, hS] at h
    exact h
  have hX1 := ((((hE_v0).trans' hE_v1).trans' hE_v2).trans' hE_v3).trans' hE_v4
  have hz1 : v4.heap.size = S + 5 := by omega
  (try rw [hz_v3])
  (try rw [hz_v2])
  (try rw [hz_v1])
  (try rw [hz_v0])
  rw [hS]
  clear hbox_v0 hE_v0 hz_v0 hbox_v1 hE_v1 hz_v1 hbox_v2 hE_v2 hz_v2 hbox_v3 hE_v3 hz_v3 hbox_v4 hE_v4 hz_v4
  refine (HAG.out _).mono ?_
  rintro _ w2 ⟨rfl, hb2⟩
  have C0 := B0.ext hb2
  have C1 := B1.ext hb2
  have C2 := B2.ext hb2
  have C3 := B3.ext hb2
  have C4 := B4.ext hb2
  have hX2 := hX1.trans' hb2
  have fA := C1.frozen
  have fR := C3.frozen
  have fE := C4.frozen
  have hl : S + 1 + 1 + 1 + 1 < w2.heap.size := C4.lt
  clear B0 B1 B2 B3 B4 hX1 hb2 HAG hz1
  have a0 := C1.cell 0
  have a1 := C1.cell 1
  have a2 := C1.cell 2
  have a3 := C1.cell 3
  have a4 := C1.cell 4
  have a5 := C1.cell 5
  have a6 := C1.cell 6
  have a7 := C1.cell 7
  have a8 := C1.cell 8
  have a9 := C1.cell 9
  simp only [List.getElem?_toArray, List.getElem?_cons_zero, List.getElem?_cons_succ] at a0 a1 a2 a3 a4 a5 a6 a7 a8 a9
  have r0 := C3.cell 0
  have r1 := C3.cell 1
  have r2 := C3.cell 2
  have r3 := C3.cell 3
  have r4 := C3.cell 4
  have r5 := C3.cell 5
  have r6 := C3.cell 6
  have r7 := C3.cell 7
  have r8 := C3.cell 8
  have r9 := C3.cell 9
  simp only [List.getElem?_toArray, List.getElem?_cons_zero, List.getElem?_cons_succ] at r0 r1 r2 r3 r4 r5 r6 r7 r8 r9
  have e0 := C4.cell 0
  have e1 := C4.cell 1
  have e2 := C4.cell 2
  have e3 := C4.cell 3
  have e4 := C4.cell 4
  have e5 := C4.cell 5
  have e6 := C4.cell 6
  have e7 := C4.cell 7
  have e8 := C4.cell 8
  simp only [List.getElem?_toArray, List.getElem?_cons_zero, List.getElem?_cons_succ] at e0 e1 e2 e3 e4 e5 e6 e7 e8
  have v0 := C2.cell 0
  have v1 := C2.cell 1
  have v2 := C2.cell 2
  have v3 := C2.cell 3
  have v4 := C2.cell 4
  have v5 := C2.cell 5
  have v6 := C2.cell 6
  have v7 := C2.cell 7
  have v8 := C2.cell 8
  simp only [List.getElem?_toArray, List.getElem?_cons_zero, List.getElem?_cons_succ] at v0 v1 v2 v3 v4 v5 v6 v7 v8
  have HS := Lib.hid hS
  clear hS
  cases hb with
  | false =>
    (try dsimp only); (repeat (first | go_values | go_skip | go_guarded | go_step | go_upon)); (try simp only [Exit.inBlock, Exit.then])
    refine wp_region_sch (RS ((fun x => x = S + 1 ∨ x = S + 1 + 1))) 3 [(0, true), (1, true), (2, false), (3, false)] (by kernel_rfl) (by kernel_rfl) RS.refl RS.trans (fun _ _ d _ _ h => by cases d <;> exact h) ?_
    refine wpSch_q ?_ rfl rfl (fun w' hR => ?_) ?_
    rotate_left
    · (obtain ⟨hRs, hRc⟩ := hR; (try have hRd := fun o => hRc _ o rfl (by first | (simp; done) | (simp; omega) | omega)); (try have hRe := fun o => hRc _ o (Or.inl rfl) (by first | (simp; done) | (simp; omega) | omega)); (try have hRf := fun o => hRc _ o (Or.inr rfl) (by first | (simp; done) | (simp; omega) | omega)); (try have hRg := fun o => hRc _ o (Or.inr (Or.inl rfl)) (by first | (simp; done) | (simp; omega) | omega)); (try have hRh := fun o => hRc _ o (Or.inr (Or.inr rfl)) (by first | (simp; done) | (simp; omega) | omega)); go_simp; first | rfl | rw [if_neg (by simp; omega)] | rw [if_neg (by omega)])
    (try simp only [Act.put, List.setIfInBounds_toArray, List.set_cons_zero, List.set_cons_succ])
    refine wpSch_q ?_ rfl rfl (fun w' hR => ?_) ?_
    rotate_left
    · (obtain ⟨hRs, hRc⟩ := hR; (try have hRd := fun o => hRc _ o rfl (by first | (simp; done) | (simp; omega) | omega)); (try have hRe := fun o => hRc _ o (Or.inl rfl) (by first | (simp; done) | (simp; omega) | omega)); (try have hRf := fun o => hRc _ o (Or.inr rfl) (by first | (simp; done) | (simp; omega) | omega)); (try have hRg := fun o => hRc _ o (Or.inr (Or.inl rfl)) (by first | (simp; done) | (simp; omega) | omega)); (try have hRh := fun o => hRc _ o (Or.inr (Or.inr rfl)) (by first | (simp; done) | (simp; omega) | omega)); go_simp; first | rfl | rw [if_neg (by simp; omega)] | rw [if_neg (by omega)])
    (try simp only [Act.put, List.setIfInBounds_toArray, List.set_cons_zero, List.set_cons_succ])
    refine wpSch_e rfl rfl (fun K hK => ?_)
    go_simp
    refine hK _ _ (fun _ => RS.put10 w2 (fun h => by omega) _ _ _ _ _ _ _ _ _ _) ?_
    clear hK K
    (try simp only [Act.put, List.setIfInBounds_toArray, List.set_cons_zero, List.set_cons_succ])
    skip
    refine wpSch_e rfl rfl (fun K hK => ?_)
    go_simp
    refine hK _ _ (fun h => absurd rfl h) ?_
    clear hK K
    (try simp only [Act.put, List.setIfInBounds_toArray, List.set_cons_zero, List.set_cons_succ])
    skip
    refine wpSch_nil ?_
    (try simp only [Exit.then]); (try go_at_K); (try dsimp only); (repeat (first | go_values | go_skip | go_guarded | go_step | go_upon)); (try simp only [Exit.inBlock, Exit.then])
    refine ret_AE rfl rfl (x0 := a) ((C3.put10 _ _ _ _ _ _ _ _ _ _).fr (Fr.put9 (S := fun x => x ≠ S + 1 + 1 + 1 + 1) (Fr.refl _) (g := S + 1 + 1 + 1 + 1) (fun h => h rfl) _ _ _ _ _ _ _ _ _) (by omega)).drew rfl (x1 := ov) ((C4.fr (Fr.put10 (S := fun x => x ≠ S + 1 + 1 + 1) (Fr.refl w2) (g := S + 1 + 1 + 1) (fun h => h rfl) _ _ _ _ _ _ _ _ _ _) (by omega)).put9 _ _ _ _ _ _ _ _ _).drew rfl ?_
    exact ⟨rfl, (Fr.ext (S := fun x => x < S) (Fr.put9 (Fr.put10 (Fr.of_ext hX2) (g := S + 1 + 1 + 1) (by omega) _ _ _ _ _ _ _ _ _ _) (g := S + 1 + 1 + 1 + 1) (by omega) _ _ _ _ _ _ _ _ _) (fun x h => by rw [← HS.out]; exact h)).trans' (Ext.dr _)⟩
  | true =>
    (try dsimp only); (repeat (first | go_values | go_skip | go_guarded | go_step | go_upon)); (try simp only [Exit.inBlock, Exit.then])
    obtain ⟨w3, hw3⟩ : ∃ w3, w3 = (((w2.setCell ⟨S + 1, 5, none⟩ (.int .i64 3)).setCell ⟨S + 1, 6, none⟩ (.int .i64 now)).setCell ⟨S + 1, 9, none⟩ (.int .i64 x)) := ⟨_, rfl⟩
    rw [← hw3]
    have hF : Fr (fun x => x ≠ S + 1) w2 w3 := by rw [hw3]; exact (((Fr.refl w2).set (p := ⟨S + 1, 5, none⟩) _ (fun _ h => h rfl)).set (p := ⟨S + 1, 6, none⟩) _ (fun _ h => h rfl)).set (p := ⟨S + 1, 9, none⟩) _ (fun _ h => h rfl)
    have D0 := C3.fr hF (by omega)
    have D1 := C4.fr hF (by omega)
    have hX3 : Fr (fun x => x < S) w w3 := (Fr.of_ext hX2).step hF (fun x _ h => by omega)
    clear hw3 hF
    refine ret_AE rfl rfl (x0 := { a with phase := 3, since := now, again := x }) ((D0.put10 _ _ _ _ _ _ _ _ _ _).fr (Fr.put9 (S := fun x => x ≠ S + 1 + 1 + 1 + 1) (Fr.refl _) (g := S + 1 + 1 + 1 + 1) (fun h => h rfl) _ _ _ _ _ _ _ _ _) (by omega)) rfl (x1 := noEv) ((D1.fr (Fr.put10 (S := fun x => x ≠ S + 1 + 1 + 1) (Fr.refl w3) (g := S + 1 + 1 + 1) (fun h => h rfl) _ _ _ _ _ _ _ _ _ _) (by omega)).put9 _ _ _ _ _ _ _ _ _) rfl ?_
    exact ⟨rfl, Fr.ext (S := fun x => x < S) (Fr.put9 (Fr.put10 (hX3) (g := S + 1 + 1 + 1) (by omega) _ _ _ _ _ _ _ _ _ _) (g := S + 1 + 1 + 1 + 1) (by omega) _ _ _ _ _ _ _ _ _) (fun x h => by rw [← HS.out]; exact h)⟩
set_option maxRecDepth 100000 in
set_option maxHeartbeats 1600000 in
theorem fails_ref (o : OptV) (ho : o.May) (a : ActV) (ha : a.Ok) (code now : Int) (hn : T62 now) (kind b : Int) (w : World) : Calls Try.prog 44 #[.agg o.cells, .agg a.cells, iv code, iv now, iv kind, iv b] w fun r w' => r = .returned (.tuple #[.agg (failsOf o a code now (endOf a kind b)).1.cells, .agg (failsOf o a code now (endOf a kind b)).2.cells]) ∧ Ext w w' := by
  have HAG := Lib.hid (fun w => again_ref o ho a.attempt code a.at_ now ha.attempt ha.at_ hn w)
  obtain ⟨⟨x, hb⟩, hh⟩ : ∃ r, againOf o a.attempt code a.at_ now = r := ⟨_, rfl⟩
  unfold failsOf
  rw [hh] at HAG ⊢
  dsimp only at HAG ⊢
  clear hh ho ha hn
  go_enter Try.func44, Try.ntmps44
  dsimp only [ActV.cells, OptV.cells, EvV.cells]
  go_wp2_with fail
  obtain ⟨S, hS⟩ : ∃ S, w.heap.size = S := ⟨_, rfl⟩
  (obtain ⟨v0, hv0⟩ : ∃ v0, v0 = World.alloc w (.cells #[iv o.queue, iv o.start, iv o.close, iv o.total, iv o.beat, iv o.first, iv o.num, iv o.den, iv o.most, iv o.tries, iv o.never] 42) := ⟨_, rfl⟩); (have hbox_v0 : Box v0 (w).heap.size 42 #[iv o.queue, iv o.start, iv o.close, iv o.total, iv o.beat, iv o.first, iv o.num, iv o.den, iv o.most, iv o.tries, iv o.never] := by rw [hv0]; exact Box.new _ _ _); (have hE_v0 : Ext w v0 := by rw [hv0]; exact Ext.al _ _); (have hz_v0 : (v0).heap.size = (w).heap.size + 1 := by rw [hv0]; simp); rw [← hv0]; clear hv0
  (obtain ⟨v1, hv1⟩ : ∃ v1, v1 = World.alloc v0 (.cells #[iv a.event, iv a.opts, iv a.input, iv a.at_, iv a.attempt, iv a.phase, iv a.since, iv a.beat, iv a.detail, iv a.again] 40) := ⟨_, rfl⟩); (have hbox_v1 : Box v1 (v0).heap.size 40 #[iv a.event, iv a.opts, iv a.input, iv a.at_, iv a.attempt, iv a.phase, iv a.since, iv a.beat, iv a.detail, iv a.again] := by rw [hv1]; exact Box.new _ _ _); (have hE_v1 : Ext v0 v1 := by rw [hv1]; exact Ext.al _ _); (have hz_v1 : (v1).heap.size = (v0).heap.size + 1 := by rw [hv1]; simp); rw [← hv1]; clear hv1
  (obtain ⟨v2, hv2⟩ : ∃ v2, v2 = World.alloc v1 (.cells #[.int .i64 0, .int .i64 0, .int .i64 0, .int .i64 0, .int .i64 0, .int .i64 0, .int .i64 0, .int .i64 0, .int .i64 0, .int .i64 0] 40) := ⟨_, rfl⟩); (have hbox_v2 : Box v2 (v1).heap.size 40 #[.int .i64 0, .int .i64 0, .int .i64 0, .int .i64 0, .int .i64 0, .int .i64 0, .int .i64 0, .int .i64 0, .int .i64 0, .int .i64 0] := by rw [hv2]; exact Box.new _ _ _); (have hE_v2 : Ext v1 v2 := by rw [hv2]; exact Ext.al _ _); (have hz_v2 : (v2).heap.size = (v1).heap.size + 1 := by rw [hv2]; simp); rw [← hv2]; clear hv2
  (obtain ⟨v3, hv3⟩ : ∃ v3, v3 = World.alloc v2 (.cells #[.int .i64 0, .int .i64 0, .int .i64 0, .int .i64 0, .int .i64 0, .int .i64 0, .int .i64 0, .int .i64 0, .int .i64 0] 51) := ⟨_, rfl⟩); (have hbox_v3 : Box v3 (v2).heap.size 51 #[.int .i64 0, .int .i64 0, .int .i64 0, .int .i64 0, .int .i64 0, .int .i64 0, .int .i64 0, .int .i64 0, .int .i64 0] := by rw [hv3]; exact Box.new _ _ _); (have hE_v3 : Ext v2 v3 := by rw [hv3]; exact Ext.al _ _); (have hz_v3 : (v3).heap.size = (v2).heap.size + 1 := by rw [hv3]; simp); rw [← hv3]; clear hv3
  have B0 : Box v3 (S) 42 #[iv o.queue, iv o.start, iv o.close, iv o.total, iv o.beat, iv o.first, iv o.num, iv o.den, iv o.most, iv o.tries, iv o.never] := by
    have h := (((hbox_v0).ext hE_v1).ext hE_v2).ext hE_v3
    rw [hS] at h
    exact h
  have B1 : Box v3 (S + 1) 40 #[iv a.event, iv a.opts, iv a.input, iv a.at_, iv a.attempt, iv a.phase, iv a.since, iv a.beat, iv a.detail, iv a.again] := by
    have h := ((hbox_v1).ext hE_v2).ext hE_v3
    rw [hz_v0, hS] at h
    exact h
  have B2 : Box v3 (S + 1 + 1) 40 #[.int .i64 0, .int .i64 0, .int .i64 0, .int .i64 0, .int .i64 0, .int .i64 0, .int .i64 0, .int .i64 0, .int .i64 0, .int .i64 0] := by
    have h := (hbox_v2).ext hE_v3
    rw [hz_v1, hz_v0, hS] at h
    exact h
  have B3 : Box v3 (S + 1 + 1 + 1) 51 #[.int .i64 0, .int .i64 0, .int .i64 0, .int .i64 0, .int .i64 0, .int .i64 0, .int .i64 0, .int .i64 0, .int .i64 0] := by
    have h := hbox_v3
    rw [hz_v2, hz_v1, hz_v0, hS] at h
    exact h
  have hX1 := (((hE_v0).trans' hE_v1).trans' hE_v2).trans' hE_v3
  have hz1 : v3.heap.size = S + 4 := by omega
  (try rw [hz_v2])
  (try rw [hz_v1])
  (try rw [hz_v0])
  rw [hS]
  clear hbox_v0 hE_v0 hz_v0 hbox_v1 hE_v1 hz_v1 hbox_v2 hE_v2 hz_v2 hbox_v3 hE_v3 hz_v3
  refine (HAG.out _).mono ?_
  rintro _ w2 ⟨rfl, hb2⟩
  have C0 := B0.ext hb2
  have C1 := B1.ext hb2
  have C2 := B2.ext hb2
  have C3 := B3.ext hb2
  have hX2 := hX1.trans' hb2
  have fA := C1.frozen
  have fR := C2.frozen
  have fE := C3.frozen
  have hl : S + 1 + 1 + 1 < w2.heap.size := C3.lt
  clear B0 B1 B2 B3 hX1 hb2 HAG hz1
  have a0 := C1.cell 0
  have a1 := C1.cell 1
  have a2 := C1.cell 2
  have a3 := C1.cell 3
  have a4 := C1.cell 4
  have a5 := C1.cell 5
  have a6 := C1.cell 6
  have a7 := C1.cell 7
  have a8 := C1.cell 8
  have a9 := C1.cell 9
  simp only [List.getElem?_toArray, List.getElem?_cons_zero, List.getElem?_cons_succ] at a0 a1 a2 a3 a4 a5 a6 a7 a8 a9
  have r0 := C2.cell 0
  have r1 := C2.cell 1
  have r2 := C2.cell 2
  have r3 := C2.cell 3
  have r4 := C2.cell 4
  have r5 := C2.cell 5
  have r6 := C2.cell 6
  have r7 := C2.cell 7
  have r8 := C2.cell 8
  have r9 := C2.cell 9
  simp only [List.getElem?_toArray, List.getElem?_cons_zero, List.getElem?_cons_succ] at r0 r1 r2 r3 r4 r5 r6 r7 r8 r9
  have e0 := C3.cell 0
  have e1 := C3.cell 1
  have e2 := C3.cell 2
  have e3 := C3.cell 3
  have e4 := C3.cell 4
  have e5 := C3.cell 5
  have e6 := C3.cell 6
  have e7 := C3.cell 7
  have e8 := C3.cell 8
  simp only [List.getElem?_toArray, List.getElem?_cons_zero, List.getElem?_cons_succ] at e0 e1 e2 e3 e4 e5 e6 e7 e8
  have HS := Lib.hid hS
  clear hS
  cases hb with
  | false =>
    (try dsimp only); (repeat (first | go_values | go_skip | go_guarded | go_step | go_upon)); (try simp only [Exit.inBlock, Exit.then])
    refine wp_region_sch (RS ((fun x => x = S + 1))) 9 [(0, true), (1, true), (2, true), (3, true), (4, true), (5, true), (6, true), (7, true), (8, false), (9, false)] (by kernel_rfl) (by kernel_rfl) RS.refl RS.trans (fun _ _ d _ _ h => by cases d <;> exact h) ?_
    refine wpSch_q ?_ rfl rfl (fun w' hR => ?_) ?_
    rotate_left
    · (obtain ⟨hRs, hRc⟩ := hR; (try have hRd := fun o => hRc _ o rfl (by first | (simp; done) | (simp; omega) | omega)); (try have hRe := fun o => hRc _ o (Or.inl rfl) (by first | (simp; done) | (simp; omega) | omega)); (try have hRf := fun o => hRc _ o (Or.inr rfl) (by first | (simp; done) | (simp; omega) | omega)); (try have hRg := fun o => hRc _ o (Or.inr (Or.inl rfl)) (by first | (simp; done) | (simp; omega) | omega)); (try have hRh := fun o => hRc _ o (Or.inr (Or.inr rfl)) (by first | (simp; done) | (simp; omega) | omega)); go_simp; first | rfl | rw [if_neg (by simp; omega)] | rw [if_neg (by omega)])
    (try simp only [Act.put, List.setIfInBounds_toArray, List.set_cons_zero, List.set_cons_succ])
    refine wpSch_q ?_ rfl rfl (fun w' hR => ?_) ?_
    rotate_left
    · (go_simp; first | rfl | rw [if_neg (by simp; omega)] | rw [if_neg (by omega)])
    (try simp only [Act.put, List.setIfInBounds_toArray, List.set_cons_zero, List.set_cons_succ])
    refine wpSch_q ?_ rfl rfl (fun w' hR => ?_) ?_
    rotate_left
    · (go_simp; first | rfl | rw [if_neg (by simp; omega)] | rw [if_neg (by omega)])
    (try simp only [Act.put, List.setIfInBounds_toArray, List.set_cons_zero, List.set_cons_succ])
    refine wpSch_q ?_ rfl rfl (fun w' hR => ?_) ?_
    rotate_left
    · (obtain ⟨hRs, hRc⟩ := hR; (try have hRd := fun o => hRc _ o rfl (by first | (simp; done) | (simp; omega) | omega)); (try have hRe := fun o => hRc _ o (Or.inl rfl) (by first | (simp; done) | (simp; omega) | omega)); (try have hRf := fun o => hRc _ o (Or.inr rfl) (by first | (simp; done) | (simp; omega) | omega)); (try have hRg := fun o => hRc _ o (Or.inr (Or.inl rfl)) (by first | (simp; done) | (simp; omega) | omega)); (try have hRh := fun o => hRc _ o (Or.inr (Or.inr rfl)) (by first | (simp; done) | (simp; omega) | omega)); go_simp; first | rfl | rw [if_neg (by simp; omega)] | rw [if_neg (by omega)])
    (try simp only [Act.put, List.setIfInBounds_toArray, List.set_cons_zero, List.set_cons_succ])
    refine wpSch_q ?_ rfl rfl (fun w' hR => ?_) ?_
    rotate_left
    · (go_simp; first | rfl | rw [if_neg (by simp; omega)] | rw [if_neg (by omega)])
    (try simp only [Act.put, List.setIfInBounds_toArray, List.set_cons_zero, List.set_cons_succ])
    refine wpSch_q ?_ rfl rfl (fun w' hR => ?_) ?_
    rotate_left
    · (go_simp; first | rfl | rw [if_neg (by simp; omega)] | rw [if_neg (by omega)])
    (try simp only [Act.put, List.setIfInBounds_toArray, List.set_cons_zero, List.set_cons_succ])
    refine wpSch_q ?_ rfl rfl (fun w' hR => ?_) ?_
    rotate_left
    · (obtain ⟨hRs, hRc⟩ := hR; (try have hRd := fun o => hRc _ o rfl (by first | (simp; done) | (simp; omega) | omega)); (try have hRe := fun o => hRc _ o (Or.inl rfl) (by first | (simp; done) | (simp; omega) | omega)); (try have hRf := fun o => hRc _ o (Or.inr rfl) (by first | (simp; done) | (simp; omega) | omega)); (try have hRg := fun o => hRc _ o (Or.inr (Or.inl rfl)) (by first | (simp; done) | (simp; omega) | omega)); (try have hRh := fun o => hRc _ o (Or.inr (Or.inr rfl)) (by first | (simp; done) | (simp; omega) | omega)); go_simp; first | rfl | rw [if_neg (by simp; omega)] | rw [if_neg (by omega)])
    (try simp only [Act.put, List.setIfInBounds_toArray, List.set_cons_zero, List.set_cons_succ])
    refine wpSch_q ?_ rfl rfl (fun w' hR => ?_) ?_
    rotate_left
    · (go_simp; first | rfl | rw [if_neg (by simp; omega)] | rw [if_neg (by omega)])
    (try simp only [Act.put, List.setIfInBounds_toArray, List.set_cons_zero, List.set_cons_succ])
    refine wpSch_e rfl rfl (fun K hK => ?_)
    go_simp
    refine hK _ _ (fun _ => RS.put10 w2 (fun h => by omega) _ _ _ _ _ _ _ _ _ _) ?_
    clear hK K
    (try simp only [Act.put, List.setIfInBounds_toArray, List.set_cons_zero, List.set_cons_succ])
    skip
    refine wpSch_e rfl rfl (fun K hK => ?_)
    go_simp
    refine hK _ _ (fun h => absurd rfl h) ?_
    clear hK K
    (try simp only [Act.put, List.setIfInBounds_toArray, List.set_cons_zero, List.set_cons_succ])
    skip
    refine wpSch_nil ?_
    (try simp only [Exit.then]); (try go_at_K); (try dsimp only); (repeat (first | go_values | go_skip | go_guarded | go_step | go_upon)); (try simp only [Exit.inBlock, Exit.then])
    refine ret_AE rfl rfl (x0 := a) ((C2.put10 _ _ _ _ _ _ _ _ _ _).fr (Fr.put9 (S := fun x => x ≠ S + 1 + 1 + 1) (Fr.refl _) (g := S + 1 + 1 + 1) (fun h => h rfl) _ _ _ _ _ _ _ _ _) (by omega)).drew rfl (x1 := (endOf a kind b)) ((C3.fr (Fr.put10 (S := fun x => x ≠ S + 1 + 1) (Fr.refl w2) (g := S + 1 + 1) (fun h => h rfl) _ _ _ _ _ _ _ _ _ _) (by omega)).put9 _ _ _ _ _ _ _ _ _).drew rfl ?_
    exact ⟨rfl, (Fr.ext (S := fun x => x < S) (Fr.put9 (Fr.put10 (Fr.of_ext hX2) (g := S + 1 + 1) (by omega) _ _ _ _ _ _ _ _ _ _) (g := S + 1 + 1 + 1) (by omega) _ _ _ _ _ _ _ _ _) (fun x h => by rw [← HS.out]; exact h)).trans' (Ext.dr _)⟩
  | true =>
    (try dsimp only); (repeat (first | go_values | go_skip | go_guarded | go_step | go_upon)); (try simp only [Exit.inBlock, Exit.then])
    obtain ⟨w3, hw3⟩ : ∃ w3, w3 = (((w2.setCell ⟨S + 1, 5, none⟩ (.int .i64 3)).setCell ⟨S + 1, 6, none⟩ (.int .i64 now)).setCell ⟨S + 1, 9, none⟩ (.int .i64 x)) := ⟨_, rfl⟩
    rw [← hw3]
    have hF : Fr (fun x => x ≠ S + 1) w2 w3 := by rw [hw3]; exact (((Fr.refl w2).set (p := ⟨S + 1, 5, none⟩) _ (fun _ h => h rfl)).set (p := ⟨S + 1, 6, none⟩) _ (fun _ h => h rfl)).set (p := ⟨S + 1, 9, none⟩) _ (fun _ h => h rfl)
    have D0 := C2.fr hF (by omega)
    have D1 := C3.fr hF (by omega)
    have hX3 : Fr (fun x => x < S) w w3 := (Fr.of_ext hX2).step hF (fun x _ h => by omega)
    clear hw3 hF
    refine ret_AE rfl rfl (x0 := { a with phase := 3, since := now, again := x }) ((D0.put10 _ _ _ _ _ _ _ _ _ _).fr (Fr.put9 (S := fun x => x ≠ S + 1 + 1 + 1) (Fr.refl _) (g := S + 1 + 1 + 1) (fun h => h rfl) _ _ _ _ _ _ _ _ _) (by omega)) rfl (x1 := noEv) ((D1.fr (Fr.put10 (S := fun x => x ≠ S + 1 + 1) (Fr.refl w3) (g := S + 1 + 1) (fun h => h rfl) _ _ _ _ _ _ _ _ _ _) (by omega)).put9 _ _ _ _ _ _ _ _ _) rfl ?_
    exact ⟨rfl, Fr.ext (S := fun x => x < S) (Fr.put9 (Fr.put10 (hX3) (g := S + 1 + 1) (by omega) _ _ _ _ _ _ _ _ _ _) (g := S + 1 + 1 + 1) (by omega) _ _ _ _ _ _ _ _ _) (fun x h => by rw [← HS.out]; exact h)⟩
end Go.Proofs.Ytjmdbgbkmjlmdaa
