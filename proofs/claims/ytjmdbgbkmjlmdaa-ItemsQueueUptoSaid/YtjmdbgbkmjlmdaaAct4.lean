/- What becomes of an activity (layer 18) when an attempt came to nothing, asked by who holds it: the document's walk. -/
import Derived.Test.YtjmdbgbkmjlmdaaAct3
namespace Go.Proofs.Ytjmdbgbkmjlmdaa
set_option linter.unusedSimpArgs false
set_option linter.unusedVariables false
open Go.RowKit

theorem RS.put9 {S : Nat → Prop} (w : World) {g : Nat} (hg : ¬ S g) (v0 v1 v2 v3 v4 v5 v6 v7 v8 : Value) : RS S w.drew ((((((((((w.setCell ⟨g, 0, none⟩ v0).setCell ⟨g, 1, none⟩ v1).setCell ⟨g, 2, none⟩ v2).setCell ⟨g, 3, none⟩ v3).setCell ⟨g, 4, none⟩ v4).setCell ⟨g, 5, none⟩ v5).setCell ⟨g, 6, none⟩ v6).setCell ⟨g, 7, none⟩ v7).setCell ⟨g, 8, none⟩ v8)).drew :=
  RS.fr (S' := S) (Fr.put9 (Fr.refl w) hg v0 v1 v2 v3 v4 v5 v6 v7 v8).dd (fun _ _ h => h)

set_option maxRecDepth 100000 in
set_option maxHeartbeats 1600000 in
theorem broken_ref (o : OptV) (ho : o.May) (a : ActV) (ha : a.Ok) (attempt code now : Int) (hn : T62 now) (w : World) : Calls Try.prog 16 #[.agg o.cells, .agg a.cells, iv attempt, iv code, iv now] w fun r w' => r = .returned (.tuple #[.agg (brokenOf o a attempt code now).1.cells, .agg (brokenOf o a attempt code now).2.1.cells, iv (brokenOf o a attempt code now).2.2]) ∧ Ext w w' := by
  have HH := Lib.hid (fun w => has_ref a attempt w)
  have HF := Lib.hid (fun w => fails_ref o ho a ha code now hn 23 code w)
  obtain ⟨hb, hh⟩ : ∃ b, heldBy a attempt = b := ⟨_, rfl⟩
  obtain ⟨⟨fa, fe⟩, hf⟩ : ∃ r, failsOf o a code now (endOf a 23 code) = r := ⟨_, rfl⟩
  unfold brokenOf
  rw [hh, hf]
  rw [hh] at HH
  rw [hf] at HF
  dsimp only at HF ⊢
  clear hh hf ho ha hn
  go_enter Try.func16, Try.ntmps16
  dsimp only [ActV.cells, OptV.cells]
  go_wp2_with fail
  obtain ⟨S, hS⟩ : ∃ S, w.heap.size = S := ⟨_, rfl⟩
  (obtain ⟨v0, hv0⟩ : ∃ v0, v0 = World.alloc w (.cells #[iv o.queue, iv o.start, iv o.close, iv o.total, iv o.beat, iv o.first, iv o.num, iv o.den, iv o.most, iv o.tries, iv o.never] 42) := ⟨_, rfl⟩); (have hbox_v0 : Box v0 (w).heap.size 42 #[iv o.queue, iv o.start, iv o.close, iv o.total, iv o.beat, iv o.first, iv o.num, iv o.den, iv o.most, iv o.tries, iv o.never] := by rw [hv0]; exact Box.new _ _ _); (have hE_v0 : Ext w v0 := by rw [hv0]; exact Ext.al _ _); (have hz_v0 : (v0).heap.size = (w).heap.size + 1 := by rw [hv0]; simp); rw [← hv0]; clear hv0
  (obtain ⟨v1, hv1⟩ : ∃ v1, v1 = World.alloc v0 (.cells #[iv a.event, iv a.opts, iv a.input, iv a.at_, iv a.attempt, iv a.phase, iv a.since, iv a.beat, iv a.detail, iv a.again] 40) := ⟨_, rfl⟩); (have hbox_v1 : Box v1 (v0).heap.size 40 #[iv a.event, iv a.opts, iv a.input, iv a.at_, iv a.attempt, iv a.phase, iv a.since, iv a.beat, iv a.detail, iv a.again] := by rw [hv1]; exact Box.new _ _ _); (have hE_v1 : Ext v0 v1 := by rw [hv1]; exact Ext.al _ _); (have hz_v1 : (v1).heap.size = (v0).heap.size + 1 := by rw [hv1]; simp); rw [← hv1]; clear hv1
  (obtain ⟨v2, hv2⟩ : ∃ v2, v2 = World.alloc v1 (.cells #[.int .i64 0, .int .i64 0, .int .i64 0, .int .i64 0, .int .i64 0, .int .i64 0, .int .i64 0, .int .i64 0, .int .i64 0, .int .i64 0] 40) := ⟨_, rfl⟩); (have hbox_v2 : Box v2 (v1).heap.size 40 #[.int .i64 0, .int .i64 0, .int .i64 0, .int .i64 0, .int .i64 0, .int .i64 0, .int .i64 0, .int .i64 0, .int .i64 0, .int .i64 0] := by rw [hv2]; exact Box.new _ _ _); (have hE_v2 : Ext v1 v2 := by rw [hv2]; exact Ext.al _ _); (have hz_v2 : (v2).heap.size = (v1).heap.size + 1 := by rw [hv2]; simp); rw [← hv2]; clear hv2
  (obtain ⟨v3, hv3⟩ : ∃ v3, v3 = World.alloc v2 (.cells #[.int .i64 0, .int .i64 0, .int .i64 0, .int .i64 0, .int .i64 0, .int .i64 0, .int .i64 0, .int .i64 0, .int .i64 0] 51) := ⟨_, rfl⟩); (have hbox_v3 : Box v3 (v2).heap.size 51 #[.int .i64 0, .int .i64 0, .int .i64 0, .int .i64 0, .int .i64 0, .int .i64 0, .int .i64 0, .int .i64 0, .int .i64 0] := by rw [hv3]; exact Box.new _ _ _); (have hE_v3 : Ext v2 v3 := by rw [hv3]; exact Ext.al _ _); (have hz_v3 : (v3).heap.size = (v2).heap.size + 1 := by rw [hv3]; simp); rw [← hv3]; clear hv3
  have B0 : Box v3 (S) 42 #[iv o.queue, iv o.start, iv o.close, iv o.total, iv o.beat, iv o.first, iv o.num, iv o.den, iv o.most, iv o.tries, iv o.never] := by
    have h := (((hbox_v0).ext hE_v1).ext hE_v2).ext hE_v3
    rw [hS] at h
    exact h
  have B1 : Box v3 (S + 1) 40 #[iv a.event, iv a.opts, iv a.input, iv a.at_, iv a.attempt, iv a.phase, iv a.since, iv a.beat, iv a.detail, iv a.again] := by
    have h := ((hbox_v1).ext hE_v2).ext hE_v3
    rw [hz_v0, hS] at h
    exact h
  have B2 : Box v3 (S + 1 + 1) 40 #[.int .i64 0, .int .i64 0, .int .i64 0, .int .i64 0, .int .i64 0, .int .i64 0, .int .i64 0, .int .i64 0, .int .i64 0, .int .i64 0] := by
    have h := (hbox_v2).ext hE_v3
    rw [hz_v1, hz_v0, hS] at h
    exact h
  have B3 : Box v3 (S + 1 + 1 + 1) 51 #[.int .i64 0, .int .i64 0, .int .i64 0, .int .i64 0, .int .i64 0, .int .i64 0, .int .i64 0, .int .i64 0, .int .i64 0] := by
    have h := hbox_v3
    rw [hz_v2, hz_v1, hz_v0, hS] at h
    exact h
  have hX1 := (((hE_v0).trans' hE_v1).trans' hE_v2).trans' hE_v3
  have hz1 : v3.heap.size = S + 4 := by omega
  (try rw [hz_v2])
  (try rw [hz_v1])
  (try rw [hz_v0])
  rw [hS]
  clear hbox_v0 hE_v0 hz_v0 hbox_v1 hE_v1 hz_v1 hbox_v2 hE_v2 hz_v2 hbox_v3 hE_v3 hz_v3
  refine (HH.out _).mono ?_
  rintro _ w2 ⟨rfl, hb2⟩
  have C0 := B0.ext hb2
  have C1 := B1.ext hb2
  have C2 := B2.ext hb2
  have C3 := B3.ext hb2
  have hX2 := hX1.trans' hb2
  have hl : S + 1 + 1 + 1 < w2.heap.size := C3.lt
  clear B0 B1 B2 B3 hX1 hb2 HH hz1
  have HS := Lib.hid hS
  clear hS
  cases hb with
  | false =>
    have fR := C2.frozen
    have fE := C3.frozen
    have r0 := C2.cell 0
    have r1 := C2.cell 1
    have r2 := C2.cell 2
    have r3 := C2.cell 3
    have r4 := C2.cell 4
    have r5 := C2.cell 5
    have r6 := C2.cell 6
    have r7 := C2.cell 7
    have r8 := C2.cell 8
    have r9 := C2.cell 9
    simp only [List.getElem?_toArray, List.getElem?_cons_zero, List.getElem?_cons_succ] at r0 r1 r2 r3 r4 r5 r6 r7 r8 r9
    have e0 := C3.cell 0
    have e1 := C3.cell 1
    have e2 := C3.cell 2
    have e3 := C3.cell 3
    have e4 := C3.cell 4
    have e5 := C3.cell 5
    have e6 := C3.cell 6
    have e7 := C3.cell 7
    have e8 := C3.cell 8
    simp only [List.getElem?_toArray, List.getElem?_cons_zero, List.getElem?_cons_succ] at e0 e1 e2 e3 e4 e5 e6 e7 e8
    (try dsimp only); (repeat (first | go_values | go_skip | go_guarded | go_step | go_upon)); (try simp only [Exit.inBlock, Exit.then])
    refine ret_AET rfl rfl (x0 := noAct) ((C2.put10 _ _ _ _ _ _ _ _ _ _).fr (Fr.put9 (S := fun x => x ≠ S + 1 + 1 + 1) (Fr.refl _) (g := S + 1 + 1 + 1) (fun h => h rfl) _ _ _ _ _ _ _ _ _) (by omega)) rfl (x1 := noEv) ((C3.fr (Fr.put10 (S := fun x => x ≠ S + 1 + 1) (Fr.refl w2) (g := S + 1 + 1) (fun h => h rfl) _ _ _ _ _ _ _ _ _ _) (by omega)).put9 _ _ _ _ _ _ _ _ _) rfl rfl ?_
    exact ⟨rfl, Fr.ext (S := fun x => x < S) (Fr.put9 (Fr.put10 (Fr.of_ext hX2) (g := S + 1 + 1) (by omega) _ _ _ _ _ _ _ _ _ _) (g := S + 1 + 1 + 1) (by omega) _ _ _ _ _ _ _ _ _) (fun x h => by rw [← HS.out]; exact h)⟩
  | true =>
    have o_f := C0.frozen
    have o0 := C0.cell 0
    have o1 := C0.cell 1
    have o2 := C0.cell 2
    have o3 := C0.cell 3
    have o4 := C0.cell 4
    have o5 := C0.cell 5
    have o6 := C0.cell 6
    have o7 := C0.cell 7
    have o8 := C0.cell 8
    have o9 := C0.cell 9
    have o10 := C0.cell 10
    simp only [List.getElem?_toArray, List.getElem?_cons_zero, List.getElem?_cons_succ] at o0 o1 o2 o3 o4 o5 o6 o7 o8 o9 o10
    have a0 := C1.cell 0
    have a1 := C1.cell 1
    have a2 := C1.cell 2
    have a3 := C1.cell 3
    have a4 := C1.cell 4
    have a5 := C1.cell 5
    have a6 := C1.cell 6
    have a7 := C1.cell 7
    have a8 := C1.cell 8
    have a9 := C1.cell 9
    simp only [List.getElem?_toArray, List.getElem?_cons_zero, List.getElem?_cons_succ] at a0 a1 a2 a3 a4 a5 a6 a7 a8 a9
    go_wp2_with fail
    refine (HF.out _).mono ?_
    rintro _ w3 ⟨rfl, hb3⟩
    dsimp only [ActV.cells, EvV.cells]
    clear o0 o1 o2 o3 o4 o5 o6 o7 o8 o9 o10 a0 a1 a2 a3 a4 a5 a6 a7 a8 a9 o_f HF
    go_wp2_with fail
    obtain ⟨G, hG⟩ : ∃ G, w3.heap.size = G := ⟨_, rfl⟩
    (obtain ⟨x1, hx1⟩ : ∃ x1, x1 = World.alloc w3 (.cells #[.int .i64 fa.event, .int .i64 fa.opts, .int .i64 fa.input, .int .i64 fa.at_, .int .i64 fa.attempt, .int .i64 fa.phase, .int .i64 fa.since, .int .i64 fa.beat, .int .i64 fa.detail, .int .i64 fa.again] 40) := ⟨_, rfl⟩); (have hbox_x1 : Box x1 (w3).heap.size 40 #[.int .i64 fa.event, .int .i64 fa.opts, .int .i64 fa.input, .int .i64 fa.at_, .int .i64 fa.attempt, .int .i64 fa.phase, .int .i64 fa.since, .int .i64 fa.beat, .int .i64 fa.detail, .int .i64 fa.again] := by rw [hx1]; exact Box.new _ _ _); (have hE_x1 : Ext w3 x1 := by rw [hx1]; exact Ext.al _ _); (have hz_x1 : (x1).heap.size = (w3).heap.size + 1 := by rw [hx1]; simp); rw [← hx1]; clear hx1
    (obtain ⟨w4, hw4⟩ : ∃ w4, w4 = World.alloc x1 (.cells #[.int .i64 0, .int .i64 0, .int .i64 fe.kind, .int .i64 fe.a, .int .i64 fe.b, .int .i64 fe.c, .int .i64 0, .int .i64 0, .int .i64 0] 51) := ⟨_, rfl⟩); (have hbox_w4 : Box w4 (x1).heap.size 51 #[.int .i64 0, .int .i64 0, .int .i64 fe.kind, .int .i64 fe.a, .int .i64 fe.b, .int .i64 fe.c, .int .i64 0, .int .i64 0, .int .i64 0] := by rw [hw4]; exact Box.new _ _ _); (have hE_w4 : Ext x1 w4 := by rw [hw4]; exact Ext.al _ _); (have hz_w4 : (w4).heap.size = (x1).heap.size + 1 := by rw [hw4]; simp); rw [← hw4]; clear hw4
    have D0 : Box w4 G 40 fa.cells := by
      have h := hbox_x1.ext hE_w4
      rw [hG] at h
      exact h
    have D1 : Box w4 (G + 1) 51 fe.cells := by
      have h := hbox_w4
      rw [hz_x1, hG] at h
      exact h
    have hE24 := (hb3.trans' hE_x1).trans' hE_w4
    have hGz : S + 1 + 1 + 1 < G := by have := hb3.size; omega
    have hz4 : w4.heap.size = G + 2 := by omega
    have F2 := C2.ext hE24
    have F3 := C3.ext hE24
    have hX4 := hX2.trans' hE24
    (try rw [hz_x1])
    rw [hG]
    clear hbox_x1 hbox_w4 hE_x1 hE_w4 hz_x1 hz_w4 hE24 hb3 hl hG
    have fR := F2.frozen
    have fE := F3.frozen
    have fa_ := D0.frozen
    have r0 := F2.cell 0
    have r1 := F2.cell 1
    have r2 := F2.cell 2
    have r3 := F2.cell 3
    have r4 := F2.cell 4
    have r5 := F2.cell 5
    have r6 := F2.cell 6
    have r7 := F2.cell 7
    have r8 := F2.cell 8
    have r9 := F2.cell 9
    simp only [ActV.cells, EvV.cells, List.getElem?_toArray, List.getElem?_cons_zero, List.getElem?_cons_succ] at r0 r1 r2 r3 r4 r5 r6 r7 r8 r9
    have e0 := F3.cell 0
    have e1 := F3.cell 1
    have e2 := F3.cell 2
    have e3 := F3.cell 3
    have e4 := F3.cell 4
    have e5 := F3.cell 5
    have e6 := F3.cell 6
    have e7 := F3.cell 7
    have e8 := F3.cell 8
    simp only [ActV.cells, EvV.cells, List.getElem?_toArray, List.getElem?_cons_zero, List.getElem?_cons_succ] at e0 e1 e2 e3 e4 e5 e6 e7 e8
    have p0 := D0.cell 0
    have p1 := D0.cell 1
    have p2 := D0.cell 2
    have p3 := D0.cell 3
    have p4 := D0.cell 4
    have p5 := D0.cell 5
    have p6 := D0.cell 6
    have p7 := D0.cell 7
    have p8 := D0.cell 8
    have p9 := D0.cell 9
    simp only [ActV.cells, EvV.cells, List.getElem?_toArray, List.getElem?_cons_zero, List.getElem?_cons_succ] at p0 p1 p2 p3 p4 p5 p6 p7 p8 p9
    have q0 := D1.cell 0
    have q1 := D1.cell 1
    have q2 := D1.cell 2
    have q3 := D1.cell 3
    have q4 := D1.cell 4
    have q5 := D1.cell 5
    have q6 := D1.cell 6
    have q7 := D1.cell 7
    have q8 := D1.cell 8
    simp only [ActV.cells, EvV.cells, List.getElem?_toArray, List.getElem?_cons_zero, List.getElem?_cons_succ] at q0 q1 q2 q3 q4 q5 q6 q7 q8
    clear C0 C1 C2 C3 hX2
    go_wp2_with fail
    refine wp_region_sch (RS ((fun x => x = G ∨ x = G + 1))) 5 [(0, true), (1, true), (2, false), (3, false), (4, true)] (by kernel_rfl) (by kernel_rfl) RS.refl RS.trans (fun _ _ d _ _ h => by cases d <;> exact h) ?_
    refine wpSch_q ?_ rfl rfl (fun w' hR => ?_) ?_
    rotate_left
    · (obtain ⟨hRs, hRc⟩ := hR; (try have hRd := fun o => hRc _ o rfl (by first | (simp; done) | (simp; omega) | omega)); (try have hRe := fun o => hRc _ o (Or.inl rfl) (by first | (simp; done) | (simp; omega) | omega)); (try have hRf := fun o => hRc _ o (Or.inr rfl) (by first | (simp; done) | (simp; omega) | omega)); (try have hRg := fun o => hRc _ o (Or.inr (Or.inl rfl)) (by first | (simp; done) | (simp; omega) | omega)); (try have hRh := fun o => hRc _ o (Or.inr (Or.inr rfl)) (by first | (simp; done) | (simp; omega) | omega)); go_simp; first | rfl | rw [if_neg (by simp; omega)] | rw [if_neg (by omega)])
    (try simp only [Act.put, List.setIfInBounds_toArray, List.set_cons_zero, List.set_cons_succ])
    refine wpSch_q ?_ rfl rfl (fun w' hR => ?_) ?_
    rotate_left
    · (obtain ⟨hRs, hRc⟩ := hR; (try have hRd := fun o => hRc _ o rfl (by first | (simp; done) | (simp; omega) | omega)); (try have hRe := fun o => hRc _ o (Or.inl rfl) (by first | (simp; done) | (simp; omega) | omega)); (try have hRf := fun o => hRc _ o (Or.inr rfl) (by first | (simp; done) | (simp; omega) | omega)); (try have hRg := fun o => hRc _ o (Or.inr (Or.inl rfl)) (by first | (simp; done) | (simp; omega) | omega)); (try have hRh := fun o => hRc _ o (Or.inr (Or.inr rfl)) (by first | (simp; done) | (simp; omega) | omega)); go_simp; first | rfl | rw [if_neg (by simp; omega)] | rw [if_neg (by omega)])
    (try simp only [Act.put, List.setIfInBounds_toArray, List.set_cons_zero, List.set_cons_succ])
    refine wpSch_e rfl rfl (fun K hK => ?_)
    go_simp
    refine hK _ _ (fun _ => RS.put10 w4 (fun h => by omega) _ _ _ _ _ _ _ _ _ _) ?_
    clear hK K
    (try simp only [Act.put, List.setIfInBounds_toArray, List.set_cons_zero, List.set_cons_succ])
    skip
    refine wpSch_e rfl rfl (fun K hK => ?_)
    go_simp
    refine hK _ _ (fun _ => RS.put9 _ (fun h => by omega) _ _ _ _ _ _ _ _ _) ?_
    clear hK K
    (try simp only [Act.put, List.setIfInBounds_toArray, List.set_cons_zero, List.set_cons_succ])
    skip
    refine wpSch_q ?_ rfl rfl (fun w' hR => ?_) ?_
    rotate_left
    · (go_simp; first | rfl | rw [if_neg (by simp; omega)] | rw [if_neg (by omega)])
    (try simp only [Act.put, List.setIfInBounds_toArray, List.set_cons_zero, List.set_cons_succ])
    refine wpSch_nil ?_
    (try simp only [Exit.then]); (try go_at_K); (try dsimp only); (repeat (first | go_values | go_skip | go_guarded | go_step | go_upon)); (try simp only [Exit.inBlock, Exit.then])
    refine ret_AET rfl rfl (x0 := fa) ((F2.put10 _ _ _ _ _ _ _ _ _ _).fr (Fr.put9 (S := fun x => x ≠ S + 1 + 1 + 1) (Fr.refl _) (g := S + 1 + 1 + 1) (fun h => h rfl) _ _ _ _ _ _ _ _ _) (by omega)).drew rfl (x1 := fe) ((F3.fr (Fr.put10 (S := fun x => x ≠ S + 1 + 1) (Fr.refl w4) (g := S + 1 + 1) (fun h => h rfl) _ _ _ _ _ _ _ _ _ _) (by omega)).put9 _ _ _ _ _ _ _ _ _).drew rfl rfl ?_
    exact ⟨rfl, (Fr.ext (S := fun x => x < S) (Fr.put9 (Fr.put10 (Fr.of_ext hX4) (g := S + 1 + 1) (by omega) _ _ _ _ _ _ _ _ _ _) (g := S + 1 + 1 + 1) (by omega) _ _ _ _ _ _ _ _ _) (fun x h => by rw [← HS.out]; exact h)).trans' (Ext.dr _)⟩
end Go.Proofs.Ytjmdbgbkmjlmdaa
