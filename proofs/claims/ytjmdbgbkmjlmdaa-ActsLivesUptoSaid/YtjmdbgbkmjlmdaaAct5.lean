/- What becomes of an activity (layer 18) when an attempt came to nothing, asked by who holds it: the program's walk (printed by gen_act5.py: every order of one region). -/
import Derived.Test.YtjmdbgbkmjlmdaaAct4
import Derived.Test.YtjmdbgbkmjlmdaaRegion3
namespace Go.Proofs.Ytjmdbgbkmjlmdaa
set_option linter.unusedSimpArgs false
set_option linter.unusedVariables false
open Go.RowKit

set_option maxRecDepth 100000 in
set_option maxHeartbeats 6000000 in
theorem broken_any (o : OptV) (ho : o.May) (a : ActV) (ha : a.Ok) (attempt code now : Int) (hn : T62 now) (w : World) : Calls Try.prog 15 #[.agg o.cells, .agg a.cells, iv attempt, iv code, iv now] w fun r w' => r = .returned (.tuple #[.agg (brokenOf o a attempt code now).1.cells, .agg (brokenOf o a attempt code now).2.1.cells, iv (brokenOf o a attempt code now).2.2]) ∧ Ext w w' := by
  have HH := Lib.hid (fun w => held_any a attempt w)
  have HF := Lib.hid (fun w => againA_any o ho a ha code now hn (endOf a 23 code) w)
  have HEND := Lib.hid (fun w => end_any a 23 code w)
  obtain ⟨hb, hh⟩ : ∃ b, heldBy a attempt = b := ⟨_, rfl⟩
  obtain ⟨⟨fa, fe⟩, hf⟩ : ∃ r, failsOf o a code now (endOf a 23 code) = r := ⟨_, rfl⟩
  unfold brokenOf
  rw [hh, hf]
  rw [hh] at HH
  rw [hf] at HF
  dsimp only at HF ⊢
  clear hh hf ho ha hn
  go_enter Try.func15, Try.ntmps15
  dsimp only [ActV.cells, OptV.cells]
  go_wp2_with fail
  obtain ⟨S, hS⟩ : ∃ S, w.heap.size = S := ⟨_, rfl⟩
  (obtain ⟨v0, hv0⟩ : ∃ v0, v0 = World.alloc w (.cells #[iv o.queue, iv o.start, iv o.close, iv o.total, iv o.beat, iv o.first, iv o.num, iv o.den, iv o.most, iv o.tries, iv o.never] 42) := ⟨_, rfl⟩); (have hbox_v0 : Box v0 (w).heap.size 42 #[iv o.queue, iv o.start, iv o.close, iv o.total, iv o.beat, iv o.first, iv o.num, iv o.den, iv o.most, iv o.tries, iv o.never] := by rw [hv0]; exact Box.new _ _ _); (have hE_v0 : Ext w v0 := by rw [hv0]; exact Ext.al _ _); (have hz_v0 : (v0).heap.size = (w).heap.size + 1 := by rw [hv0]; simp); rw [← hv0]; clear hv0
  (obtain ⟨v1, hv1⟩ : ∃ v1, v1 = World.alloc v0 (.cells #[iv a.event, iv a.opts, iv a.input, iv a.at_, iv a.attempt, iv a.phase, iv a.since, iv a.beat, iv a.detail, iv a.again] 40) := ⟨_, rfl⟩); (have hbox_v1 : Box v1 (v0).heap.size 40 #[iv a.event, iv a.opts, iv a.input, iv a.at_, iv a.attempt, iv a.phase, iv a.since, iv a.beat, iv a.detail, iv a.again] := by rw [hv1]; exact Box.new _ _ _); (have hE_v1 : Ext v0 v1 := by rw [hv1]; exact Ext.al _ _); (have hz_v1 : (v1).heap.size = (v0).heap.size + 1 := by rw [hv1]; simp); rw [← hv1]; clear hv1
  (obtain ⟨v2, hv2⟩ : ∃ v2, v2 = World.alloc v1 (.cells #[.int .i64 0, .int .i64 0, .int .i64 0, .int .i64 0, .int .i64 0, .int .i64 0, .int .i64 0, .int .i64 0, .int .i64 0, .int .i64 0] 40) := ⟨_, rfl⟩); (have hbox_v2 : Box v2 (v1).heap.size 40 #[.int .i64 0, .int .i64 0, .int .i64 0, .int .i64 0, .int .i64 0, .int .i64 0, .int .i64 0, .int .i64 0, .int .i64 0, .int .i64 0] := by rw [hv2]; exact Box.new _ _ _); (have hE_v2 : Ext v1 v2 := by rw [hv2]; exact Ext.al _ _); (have hz_v2 : (v2).heap.size = (v1).heap.size + 1 := by rw [hv2]; simp); rw [← hv2]; clear hv2
  (obtain ⟨v3, hv3⟩ : ∃ v3, v3 = World.alloc v2 (.cells #[.int .i64 0, .int .i64 0, .int .i64 0, .int .i64 0, .int .i64 0, .int .i64 0, .int .i64 0, .int .i64 0, .int .i64 0] 51) := ⟨_, rfl⟩); (have hbox_v3 : Box v3 (v2).heap.size 51 #[.int .i64 0, .int .i64 0, .int .i64 0, .int .i64 0, .int .i64 0, .int .i64 0, .int .i64 0, .int .i64 0, .int .i64 0] := by rw [hv3]; exact Box.new _ _ _); (have hE_v3 : Ext v2 v3 := by rw [hv3]; exact Ext.al _ _); (have hz_v3 : (v3).heap.size = (v2).heap.size + 1 := by rw [hv3]; simp); rw [← hv3]; clear hv3
  have B0 : Box v3 (S) 42 #[iv o.queue, iv o.start, iv o.close, iv o.total, iv o.beat, iv o.first, iv o.num, iv o.den, iv o.most, iv o.tries, iv o.never] := by
    have h := (((hbox_v0).ext hE_v1).ext hE_v2).ext hE_v3
    rw [hS] at h
    exact h
  have B1 : Box v3 (S + 1) 40 #[iv a.event, iv a.opts, iv a.input, iv a.at_, iv a.attempt, iv a.phase, iv a.since, iv a.beat, iv a.detail, iv a.again] := by
    have h := ((hbox_v1).ext hE_v2).ext hE_v3
    rw [hz_v0, hS] at h
    exact h
  have B2 : Box v3 (S + 1 + 1) 40 #[.int .i64 0, .int .i64 0, .int .i64 0, .int .i64 0, .int .i64 0, .int .i64 0, .int .i64 0, .int .i64 0, .int .i64 0, .int .i64 0] := by
    have h := (hbox_v2).ext hE_v3
    rw [hz_v1, hz_v0, hS] at h
    exact h
  have B3 : Box v3 (S + 1 + 1 + 1) 51 #[.int .i64 0, .int .i64 0, .int .i64 0, .int .i64 0, .int .i64 0, .int .i64 0, .int .i64 0, .int .i64 0, .int .i64 0] := by
    have h := hbox_v3
    rw [hz_v2, hz_v1, hz_v0, hS] at h
    exact h
  have hX1 := (((hE_v0).trans' hE_v1).trans' hE_v2).trans' hE_v3
  have hz1 : v3.heap.size = S + 4 := by omega
  (try rw [hz_v2])
  (try rw [hz_v1])
  (try rw [hz_v0])
  rw [hS]
  clear hbox_v0 hE_v0 hz_v0 hbox_v1 hE_v1 hz_v1 hbox_v2 hE_v2 hz_v2 hbox_v3 hE_v3 hz_v3
  refine (HH.out _).mono ?_
  rintro _ w2 ⟨rfl, hb2⟩
  have C0 := B0.ext hb2
  have C1 := B1.ext hb2
  have C2 := B2.ext hb2
  have C3 := B3.ext hb2
  have hX2 := hX1.trans' hb2
  have hl : S + 1 + 1 + 1 < w2.heap.size := C3.lt
  clear B0 B1 B2 B3 hX1 hb2 HH hz1
  have HS := Lib.hid hS
  clear hS
  cases hb with
  | false =>
    have fR := C2.frozen
    have fE := C3.frozen
    have r0 := C2.cell 0
    have r1 := C2.cell 1
    have r2 := C2.cell 2
    have r3 := C2.cell 3
    have r4 := C2.cell 4
    have r5 := C2.cell 5
    have r6 := C2.cell 6
    have r7 := C2.cell 7
    have r8 := C2.cell 8
    have r9 := C2.cell 9
    simp only [List.getElem?_toArray, List.getElem?_cons_zero, List.getElem?_cons_succ] at r0 r1 r2 r3 r4 r5 r6 r7 r8 r9
    have e0 := C3.cell 0
    have e1 := C3.cell 1
    have e2 := C3.cell 2
    have e3 := C3.cell 3
    have e4 := C3.cell 4
    have e5 := C3.cell 5
    have e6 := C3.cell 6
    have e7 := C3.cell 7
    have e8 := C3.cell 8
    simp only [List.getElem?_toArray, List.getElem?_cons_zero, List.getElem?_cons_succ] at e0 e1 e2 e3 e4 e5 e6 e7 e8
    (try dsimp only); (repeat (first | go_values | go_skip | go_guarded | go_step | go_upon)); (try simp only [Exit.inBlock, Exit.then])
    refine ret_AET rfl rfl (x0 := noAct) ((C2.put10 _ _ _ _ _ _ _ _ _ _).fr (Fr.put9 (S := fun x => x ≠ S + 1 + 1 + 1) (Fr.refl _) (g := S + 1 + 1 + 1) (fun h => h rfl) _ _ _ _ _ _ _ _ _) (by omega)) rfl (x1 := noEv) ((C3.fr (Fr.put10 (S := fun x => x ≠ S + 1 + 1) (Fr.refl w2) (g := S + 1 + 1) (fun h => h rfl) _ _ _ _ _ _ _ _ _ _) (by omega)).put9 _ _ _ _ _ _ _ _ _) rfl rfl ?_
    exact ⟨rfl, Fr.ext (S := fun x => x < S) (Fr.put9 (Fr.put10 (Fr.of_ext hX2) (g := S + 1 + 1) (by omega) _ _ _ _ _ _ _ _ _ _) (g := S + 1 + 1 + 1) (by omega) _ _ _ _ _ _ _ _ _) (fun x h => by rw [← HS.out]; exact h)⟩
  | true =>
    go_wp2_with fail
    have hE := Ext.dr w2
    refine wp_region_tr (RS (fun x => x = S ∨ x = S + 1)) 14 (.q 0 (.q 1 (.q 2 (.q 3 (.q 4 (.q 5 (.fork3 6 11 12 (.fork3 7 11 12 (.q 8 (.q 9 (.q 10 (.fork 11 12 (.e 12 (.e 13 (.e 14 .done))) (.e 11 (.e 13 (.e 14 .done))))))) (.fork 7 12 (.q 8 (.q 9 (.q 10 (.e 12 (.e 13 (.e 14 .done)))))) (.e 7 (.q 8 (.q 9 (.q 10 (.e 13 (.e 14 .done))))))) (.fork 7 11 (.q 8 (.q 9 (.q 10 (.e 11 (.e 13 (.e 14 .done)))))) (.e 7 (.q 8 (.q 9 (.q 10 (.e 13 (.e 14 .done)))))))) (.fork 6 12 (.fork 7 12 (.q 8 (.q 9 (.q 10 (.e 12 (.e 13 (.e 14 .done)))))) (.e 7 (.q 8 (.q 9 (.q 10 (.e 13 (.e 14 .done))))))) (.e 6 (.e 7 (.q 8 (.q 9 (.q 10 (.e 13 (.e 14 .done)))))))) (.fork 6 11 (.fork 7 11 (.q 8 (.q 9 (.q 10 (.e 11 (.e 13 (.e 14 .done)))))) (.e 7 (.q 8 (.q 9 (.q 10 (.e 13 (.e 14 .done))))))) (.e 6 (.e 7 (.q 8 (.q 9 (.q 10 (.e 13 (.e 14 .done))))))))))))))) (by kernel_rfl) (by kernel_rfl) RS.refl RS.trans (fun _ _ d _ _ h => by cases d <;> exact h) ?_
    generalize hw3 : w2.drew = w3 at hE
    have o_f := (C0.ext hE).frozen
    have o0 := (C0.ext hE).cell 0
    have o1 := (C0.ext hE).cell 1
    have o2 := (C0.ext hE).cell 2
    have o3 := (C0.ext hE).cell 3
    have o4 := (C0.ext hE).cell 4
    have o5 := (C0.ext hE).cell 5
    have o6 := (C0.ext hE).cell 6
    have o7 := (C0.ext hE).cell 7
    have o8 := (C0.ext hE).cell 8
    have o9 := (C0.ext hE).cell 9
    have o10 := (C0.ext hE).cell 10
    simp only [List.getElem?_toArray, List.getElem?_cons_zero, List.getElem?_cons_succ] at o0 o1 o2 o3 o4 o5 o6 o7 o8 o9 o10
    have a0 := (C1.ext hE).cell 0
    have a1 := (C1.ext hE).cell 1
    have a2 := (C1.ext hE).cell 2
    have a3 := (C1.ext hE).cell 3
    have a4 := (C1.ext hE).cell 4
    have a5 := (C1.ext hE).cell 5
    have a6 := (C1.ext hE).cell 6
    have a7 := (C1.ext hE).cell 7
    have a8 := (C1.ext hE).cell 8
    have a9 := (C1.ext hE).cell 9
    simp only [List.getElem?_toArray, List.getElem?_cons_zero, List.getElem?_cons_succ] at a0 a1 a2 a3 a4 a5 a6 a7 a8 a9
    have hl2 : S + 1 < w3.heap.size := by have := hE.size; omega
    refine wpTr_q ?_ rfl rfl (fun w' hR => ?_) ?_
    rotate_left
    · (obtain ⟨hRs, hRc⟩ := hR; (try have hRd := fun o => hRc _ o (rfl) (by first | (simp; done) | (simp; omega) | omega)); (try have hRe := fun o => hRc _ o (Or.inl rfl) (by first | (simp; done) | (simp; omega) | omega)); (try have hRf := fun o => hRc _ o (Or.inr rfl) (by first | (simp; done) | (simp; omega) | omega)); go_simp; first | rfl | rw [if_neg (by simp; omega)] | rw [if_neg (by omega)])
    (try simp only [Act.put, List.setIfInBounds_toArray, List.set_cons_zero, List.set_cons_succ])
    refine wpTr_q ?_ rfl rfl (fun w' hR => ?_) ?_
    rotate_left
    · (obtain ⟨hRs, hRc⟩ := hR; (try have hRd := fun o => hRc _ o (rfl) (by first | (simp; done) | (simp; omega) | omega)); (try have hRe := fun o => hRc _ o (Or.inl rfl) (by first | (simp; done) | (simp; omega) | omega)); (try have hRf := fun o => hRc _ o (Or.inr rfl) (by first | (simp; done) | (simp; omega) | omega)); go_simp; first | rfl | rw [if_neg (by simp; omega)] | rw [if_neg (by omega)])
    (try simp only [Act.put, List.setIfInBounds_toArray, List.set_cons_zero, List.set_cons_succ])
    refine wpTr_q ?_ rfl rfl (fun w' hR => ?_) ?_
    rotate_left
    · (go_simp; first | rfl | rw [if_neg (by simp; omega)] | rw [if_neg (by omega)])
    (try simp only [Act.put, List.setIfInBounds_toArray, List.set_cons_zero, List.set_cons_succ])
    refine wpTr_q ?_ rfl rfl (fun w' hR => ?_) ?_
    rotate_left
    · (go_simp; first | rfl | rw [if_neg (by simp; omega)] | rw [if_neg (by omega)])
    (try simp only [Act.put, List.setIfInBounds_toArray, List.set_cons_zero, List.set_cons_succ])
    refine wpTr_q ?_ rfl rfl (fun w' hR => ?_) ?_
    rotate_left
    · (obtain ⟨hRs, hRc⟩ := hR; (try have hRd := fun o => hRc _ o (rfl) (by first | (simp; done) | (simp; omega) | omega)); (try have hRe := fun o => hRc _ o (Or.inl rfl) (by first | (simp; done) | (simp; omega) | omega)); (try have hRf := fun o => hRc _ o (Or.inr rfl) (by first | (simp; done) | (simp; omega) | omega)); go_simp; first | rfl | rw [if_neg (by simp; omega)] | rw [if_neg (by omega)])
    (try simp only [Act.put, List.setIfInBounds_toArray, List.set_cons_zero, List.set_cons_succ])
    refine wpTr_q ?_ rfl rfl (fun w' hR => ?_) ?_
    rotate_left
    · (go_simp; first | rfl | rw [if_neg (by simp; omega)] | rw [if_neg (by omega)])
    (try simp only [Act.put, List.setIfInBounds_toArray, List.set_cons_zero, List.set_cons_succ])
    refine wpTr_fork3 ?_ ?_ ?_
    · refine wpTr_e rfl rfl (fun K hK => ?_)
      go_simp
      refine (HEND.out _).mono ?_
      rintro e x1 ⟨rfl, hbx1⟩
      refine hK _ _ (fun _ => RS.fr (S' := fun _ => True) (Fr.of_ext hbx1) (fun _ _ _ => trivial)) ?_
      clear hK K
      (try simp only [Act.put, List.setIfInBounds_toArray, List.set_cons_zero, List.set_cons_succ])
      have hE := hE.trans' hbx1
      refine wpTr_fork3 ?_ ?_ ?_
      · refine wpTr_e rfl rfl (fun K hK => ?_)
        go_simp
        refine (HF.out _).mono ?_
        rintro e x2 ⟨rfl, hbx2⟩
        refine hK _ _ (fun _ => RS.fr (S' := fun _ => True) (Fr.of_ext hbx2) (fun _ _ _ => trivial)) ?_
        clear hK K
        (try simp only [Act.put, List.setIfInBounds_toArray, List.set_cons_zero, List.set_cons_succ])
        dsimp only [ActV.cells, EvV.cells]
        have hE := hE.trans' hbx2
        refine wpTr_q ?_ rfl rfl (fun w' hR => ?_) ?_
        rotate_left
        · (go_simp; first | rfl | rw [if_neg (by simp; omega)] | rw [if_neg (by omega)])
        (try simp only [Act.put, List.setIfInBounds_toArray, List.set_cons_zero, List.set_cons_succ])
        refine wpTr_q ?_ rfl rfl (fun w' hR => ?_) ?_
        rotate_left
        · (go_simp; first | rfl | rw [if_neg (by simp; omega)] | rw [if_neg (by omega)])
        (try simp only [Act.put, List.setIfInBounds_toArray, List.set_cons_zero, List.set_cons_succ])
        refine wpTr_q ?_ rfl rfl (fun w' hR => ?_) ?_
        rotate_left
        · (go_simp; first | rfl | rw [if_neg (by simp; omega)] | rw [if_neg (by omega)])
        (try simp only [Act.put, List.setIfInBounds_toArray, List.set_cons_zero, List.set_cons_succ])
        refine wpTr_fork ?_ ?_
        · refine wpTr_e rfl rfl (fun K hK => ?_)
          go_simp
          refine hK _ _ (fun _ => RS.alloc _) ?_
          clear hK K
          (try simp only [Act.put, List.setIfInBounds_toArray, List.set_cons_zero, List.set_cons_succ])
          obtain ⟨gA, hgA⟩ : ∃ g, x2.heap.size = g := ⟨_, rfl⟩
          rw [hgA]
          obtain ⟨x3, hx3⟩ : ∃ w, w = x2.alloc (.cells #[.int .i64 0, .int .i64 0, .int .i64 0, .int .i64 0, .int .i64 0, .int .i64 0, .int .i64 0, .int .i64 0, .int .i64 0, .int .i64 0] 40) := ⟨_, rfl⟩
          rw [← hx3]
          have hbx3 : Ext x2 x3 := by rw [hx3]; exact Ext.al _ _
          have bA : Box x3 gA 40 #[.int .i64 0, .int .i64 0, .int .i64 0, .int .i64 0, .int .i64 0, .int .i64 0, .int .i64 0, .int .i64 0, .int .i64 0, .int .i64 0] := by rw [hx3]; exact Box.new_at _ _ _ _ hgA.symm
          have hgegA : S + 1 + 1 + 1 < gA := by have := hE.size; omega
          have hE := hE.trans' hbx3
          clear hx3 hgA
          refine wpTr_e rfl rfl (fun K hK => ?_)
          go_simp
          refine hK _ _ (fun _ => RS.alloc _) ?_
          clear hK K
          (try simp only [Act.put, List.setIfInBounds_toArray, List.set_cons_zero, List.set_cons_succ])
          obtain ⟨gE, hgE⟩ : ∃ g, x3.heap.size = g := ⟨_, rfl⟩
          rw [hgE]
          obtain ⟨x4, hx4⟩ : ∃ w, w = x3.alloc (.cells #[.int .i64 0, .int .i64 0, .int .i64 0, .int .i64 0, .int .i64 0, .int .i64 0, .int .i64 0, .int .i64 0, .int .i64 0] 51) := ⟨_, rfl⟩
          rw [← hx4]
          have hbx4 : Ext x3 x4 := by rw [hx4]; exact Ext.al _ _
          have bE : Box x4 gE 51 #[.int .i64 0, .int .i64 0, .int .i64 0, .int .i64 0, .int .i64 0, .int .i64 0, .int .i64 0, .int .i64 0, .int .i64 0] := by rw [hx4]; exact Box.new_at _ _ _ _ hgE.symm
          have hnebA : ¬ gA = gE := by have := bA.lt; omega
          have bA := bA.ext hbx4
          have hgegE : S + 1 + 1 + 1 < gE := by have := hE.size; omega
          have hE := hE.trans' hbx4
          clear hx4 hgE
          have hlA := bA.frozen
          have hlE := bE.frozen
          have hAE : ¬ gA = gE := by omega
          have hEA : ¬ gE = gA := by omega
          have p0 := bA.cell 0
          have p1 := bA.cell 1
          have p2 := bA.cell 2
          have p3 := bA.cell 3
          have p4 := bA.cell 4
          have p5 := bA.cell 5
          have p6 := bA.cell 6
          have p7 := bA.cell 7
          have p8 := bA.cell 8
          have p9 := bA.cell 9
          simp only [List.getElem?_toArray, List.getElem?_cons_zero, List.getElem?_cons_succ] at p0 p1 p2 p3 p4 p5 p6 p7 p8 p9
          have q0 := bE.cell 0
          have q1 := bE.cell 1
          have q2 := bE.cell 2
          have q3 := bE.cell 3
          have q4 := bE.cell 4
          have q5 := bE.cell 5
          have q6 := bE.cell 6
          have q7 := bE.cell 7
          have q8 := bE.cell 8
          simp only [List.getElem?_toArray, List.getElem?_cons_zero, List.getElem?_cons_succ] at q0 q1 q2 q3 q4 q5 q6 q7 q8
          refine wpTr_e rfl rfl (fun K hK => ?_)
          go_simp
          refine hK _ _ (fun _ => RS.fr (S' := fun x => x ≠ gA) (Fr.put10 (Fr.refl x4) (g := gA) (fun k => k rfl) _ _ _ _ _ _ _ _ _ _) (fun x _ h => by rcases h with rfl | rfl <;> omega)) ?_
          clear hK K
          (try simp only [Act.put, List.setIfInBounds_toArray, List.set_cons_zero, List.set_cons_succ])
          refine wpTr_e rfl rfl (fun K hK => ?_)
          go_simp
          refine hK _ _ (fun h => absurd rfl h) ?_
          clear hK K
          (try simp only [Act.put, List.setIfInBounds_toArray, List.set_cons_zero, List.set_cons_succ])
          refine wpTr_done ?_
          clear p0 p1 p2 p3 p4 p5 p6 p7 p8 p9 q0 q1 q2 q3 q4 q5 q6 q7 q8 hlA hlE
          obtain ⟨w4, hw4⟩ : ∃ w, w = (((((((((((((((((((x4.setCell ⟨gA, 0, none⟩ (.int .i64 fa.event)).setCell ⟨gA, 1, none⟩ (.int .i64 fa.opts)).setCell ⟨gA, 2, none⟩ (.int .i64 fa.input)).setCell ⟨gA, 3, none⟩ (.int .i64 fa.at_)).setCell ⟨gA, 4, none⟩ (.int .i64 fa.attempt)).setCell ⟨gA, 5, none⟩ (.int .i64 fa.phase)).setCell ⟨gA, 6, none⟩ (.int .i64 fa.since)).setCell ⟨gA, 7, none⟩ (.int .i64 fa.beat)).setCell ⟨gA, 8, none⟩ (.int .i64 fa.detail)).setCell ⟨gA, 9, none⟩ (.int .i64 fa.again)).setCell ⟨gE, 0, none⟩ (.int .i64 0)).setCell ⟨gE, 1, none⟩ (.int .i64 0)).setCell ⟨gE, 2, none⟩ (.int .i64 fe.kind)).setCell ⟨gE, 3, none⟩ (.int .i64 fe.a)).setCell ⟨gE, 4, none⟩ (.int .i64 fe.b)).setCell ⟨gE, 5, none⟩ (.int .i64 fe.c)).setCell ⟨gE, 6, none⟩ (.int .i64 0)).setCell ⟨gE, 7, none⟩ (.int .i64 0)).setCell ⟨gE, 8, none⟩ (.int .i64 0)) := ⟨_, rfl⟩
          rw [← hw4]
          have D0 : Box w4 gA 40 fa.cells := by rw [hw4]; exact (bA.put10 _ _ _ _ _ _ _ _ _ _).fr (Fr.put9 (S := fun x => x ≠ gE) (Fr.refl _) (g := gE) (fun h => h rfl) _ _ _ _ _ _ _ _ _) hAE
          have D1 : Box w4 gE 51 fe.cells := by rw [hw4]; exact (bE.fr (Fr.put10 (S := fun x => x ≠ gA) (Fr.refl _) (g := gA) (fun h => h rfl) _ _ _ _ _ _ _ _ _ _) hEA).put9 _ _ _ _ _ _ _ _ _
          have hF4 : Fr (fun x => x ≠ gA ∧ x ≠ gE) x4 w4 := by rw [hw4]; exact Fr.put9 (Fr.put10 (Fr.refl _) (g := gA) (fun h => h.1 rfl) _ _ _ _ _ _ _ _ _ _) (g := gE) (fun h => h.2 rfl) _ _ _ _ _ _ _ _ _
          have F2 := (C2.ext hE).fr hF4 ⟨by omega, by omega⟩
          have F3 := (C3.ext hE).fr hF4 ⟨by omega, by omega⟩
          have hz4 := hF4.size
          have hX4 : Ext w w4 := Fr.ext (S := fun x => x < S) ((Fr.of_ext (hX2.trans' hE)).step hF4 (fun x _ h => ⟨by omega, by omega⟩)) (fun x h => by rw [← HS.out]; exact h)
          clear hw4 hF4 bA bE HF HEND o0 o1 o2 o3 o4 o5 o6 o7 o8 o9 o10 o_f a0 a1 a2 a3 a4 a5 a6 a7 a8 a9
          have hlA := D0.lt
          have hlE := D1.lt
          have fR := F2.frozen
          have fE := F3.frozen
          have fa_ := D0.frozen
          have r0 := F2.cell 0
          have r1 := F2.cell 1
          have r2 := F2.cell 2
          have r3 := F2.cell 3
          have r4 := F2.cell 4
          have r5 := F2.cell 5
          have r6 := F2.cell 6
          have r7 := F2.cell 7
          have r8 := F2.cell 8
          have r9 := F2.cell 9
          simp only [ActV.cells, EvV.cells, List.getElem?_toArray, List.getElem?_cons_zero, List.getElem?_cons_succ] at r0 r1 r2 r3 r4 r5 r6 r7 r8 r9
          have e0 := F3.cell 0
          have e1 := F3.cell 1
          have e2 := F3.cell 2
          have e3 := F3.cell 3
          have e4 := F3.cell 4
          have e5 := F3.cell 5
          have e6 := F3.cell 6
          have e7 := F3.cell 7
          have e8 := F3.cell 8
          simp only [ActV.cells, EvV.cells, List.getElem?_toArray, List.getElem?_cons_zero, List.getElem?_cons_succ] at e0 e1 e2 e3 e4 e5 e6 e7 e8
          have p0 := D0.cell 0
          have p1 := D0.cell 1
          have p2 := D0.cell 2
          have p3 := D0.cell 3
          have p4 := D0.cell 4
          have p5 := D0.cell 5
          have p6 := D0.cell 6
          have p7 := D0.cell 7
          have p8 := D0.cell 8
          have p9 := D0.cell 9
          simp only [ActV.cells, EvV.cells, List.getElem?_toArray, List.getElem?_cons_zero, List.getElem?_cons_succ] at p0 p1 p2 p3 p4 p5 p6 p7 p8 p9
          have q0 := D1.cell 0
          have q1 := D1.cell 1
          have q2 := D1.cell 2
          have q3 := D1.cell 3
          have q4 := D1.cell 4
          have q5 := D1.cell 5
          have q6 := D1.cell 6
          have q7 := D1.cell 7
          have q8 := D1.cell 8
          simp only [ActV.cells, EvV.cells, List.getElem?_toArray, List.getElem?_cons_zero, List.getElem?_cons_succ] at q0 q1 q2 q3 q4 q5 q6 q7 q8
          clear C0 C1 C2 C3 hX2
          go_wp2_with fail
          refine wp_region_sch (RS ((fun x => x = gA ∨ x = gE))) 5 [(0, true), (1, true), (2, false), (3, false), (4, true)] (by kernel_rfl) (by kernel_rfl) RS.refl RS.trans (fun _ _ d _ _ h => by cases d <;> exact h) ?_
          refine wpSch_q ?_ rfl rfl (fun w' hR => ?_) ?_
          rotate_left
          · (obtain ⟨hRs, hRc⟩ := hR; (try have hRd := fun o => hRc _ o rfl (by first | (simp; done) | (simp; omega) | omega)); (try have hRe := fun o => hRc _ o (Or.inl rfl) (by first | (simp; done) | (simp; omega) | omega)); (try have hRf := fun o => hRc _ o (Or.inr rfl) (by first | (simp; done) | (simp; omega) | omega)); (try have hRg := fun o => hRc _ o (Or.inr (Or.inl rfl)) (by first | (simp; done) | (simp; omega) | omega)); (try have hRh := fun o => hRc _ o (Or.inr (Or.inr rfl)) (by first | (simp; done) | (simp; omega) | omega)); go_simp; first | rfl | rw [if_neg (by simp; omega)] | rw [if_neg (by omega)])
          (try simp only [Act.put, List.setIfInBounds_toArray, List.set_cons_zero, List.set_cons_succ])
          refine wpSch_q ?_ rfl rfl (fun w' hR => ?_) ?_
          rotate_left
          · (obtain ⟨hRs, hRc⟩ := hR; (try have hRd := fun o => hRc _ o rfl (by first | (simp; done) | (simp; omega) | omega)); (try have hRe := fun o => hRc _ o (Or.inl rfl) (by first | (simp; done) | (simp; omega) | omega)); (try have hRf := fun o => hRc _ o (Or.inr rfl) (by first | (simp; done) | (simp; omega) | omega)); (try have hRg := fun o => hRc _ o (Or.inr (Or.inl rfl)) (by first | (simp; done) | (simp; omega) | omega)); (try have hRh := fun o => hRc _ o (Or.inr (Or.inr rfl)) (by first | (simp; done) | (simp; omega) | omega)); go_simp; first | rfl | rw [if_neg (by simp; omega)] | rw [if_neg (by omega)])
          (try simp only [Act.put, List.setIfInBounds_toArray, List.set_cons_zero, List.set_cons_succ])
          refine wpSch_e rfl rfl (fun K hK => ?_)
          go_simp
          refine hK _ _ (fun _ => RS.put10 w4 (fun h => by omega) _ _ _ _ _ _ _ _ _ _) ?_
          clear hK K
          (try simp only [Act.put, List.setIfInBounds_toArray, List.set_cons_zero, List.set_cons_succ])
          skip
          refine wpSch_e rfl rfl (fun K hK => ?_)
          go_simp
          refine hK _ _ (fun _ => RS.put9 _ (fun h => by omega) _ _ _ _ _ _ _ _ _) ?_
          clear hK K
          (try simp only [Act.put, List.setIfInBounds_toArray, List.set_cons_zero, List.set_cons_succ])
          skip
          refine wpSch_q ?_ rfl rfl (fun w' hR => ?_) ?_
          rotate_left
          · (go_simp; first | rfl | rw [if_neg (by simp; omega)] | rw [if_neg (by omega)])
          (try simp only [Act.put, List.setIfInBounds_toArray, List.set_cons_zero, List.set_cons_succ])
          refine wpSch_nil ?_
          (try simp only [Exit.then]); (try go_at_K); (try dsimp only); (repeat (first | go_values | go_skip | go_guarded | go_step | go_upon)); (try simp only [Exit.inBlock, Exit.then])
          refine ret_AET rfl rfl (x0 := fa) ((F2.put10 _ _ _ _ _ _ _ _ _ _).fr (Fr.put9 (S := fun x => x ≠ S + 1 + 1 + 1) (Fr.refl _) (g := S + 1 + 1 + 1) (fun h => h rfl) _ _ _ _ _ _ _ _ _) (by omega)).drew rfl (x1 := fe) ((F3.fr (Fr.put10 (S := fun x => x ≠ S + 1 + 1) (Fr.refl w4) (g := S + 1 + 1) (fun h => h rfl) _ _ _ _ _ _ _ _ _ _) (by omega)).put9 _ _ _ _ _ _ _ _ _).drew rfl rfl ?_
          exact ⟨rfl, (Fr.ext (S := fun x => x < S) (Fr.put9 (Fr.put10 (Fr.of_ext hX4) (g := S + 1 + 1) (by omega) _ _ _ _ _ _ _ _ _ _) (g := S + 1 + 1 + 1) (by omega) _ _ _ _ _ _ _ _ _) (fun x h => by rw [← HS.out]; exact h)).trans' (Ext.dr _)⟩
        · refine wpTr_e rfl rfl (fun K hK => ?_)
          go_simp
          refine hK _ _ (fun _ => RS.alloc _) ?_
          clear hK K
          (try simp only [Act.put, List.setIfInBounds_toArray, List.set_cons_zero, List.set_cons_succ])
          obtain ⟨gE, hgE⟩ : ∃ g, x2.heap.size = g := ⟨_, rfl⟩
          rw [hgE]
          obtain ⟨x7, hx7⟩ : ∃ w, w = x2.alloc (.cells #[.int .i64 0, .int .i64 0, .int .i64 0, .int .i64 0, .int .i64 0, .int .i64 0, .int .i64 0, .int .i64 0, .int .i64 0] 51) := ⟨_, rfl⟩
          rw [← hx7]
          have hbx7 : Ext x2 x7 := by rw [hx7]; exact Ext.al _ _
          have bE : Box x7 gE 51 #[.int .i64 0, .int .i64 0, .int .i64 0, .int .i64 0, .int .i64 0, .int .i64 0, .int .i64 0, .int .i64 0, .int .i64 0] := by rw [hx7]; exact Box.new_at _ _ _ _ hgE.symm
          have hgegE : S + 1 + 1 + 1 < gE := by have := hE.size; omega
          have hE := hE.trans' hbx7
          clear hx7 hgE
          refine wpTr_e rfl rfl (fun K hK => ?_)
          go_simp
          refine hK _ _ (fun _ => RS.alloc _) ?_
          clear hK K
          (try simp only [Act.put, List.setIfInBounds_toArray, List.set_cons_zero, List.set_cons_succ])
          obtain ⟨gA, hgA⟩ : ∃ g, x7.heap.size = g := ⟨_, rfl⟩
          rw [hgA]
          obtain ⟨x8, hx8⟩ : ∃ w, w = x7.alloc (.cells #[.int .i64 0, .int .i64 0, .int .i64 0, .int .i64 0, .int .i64 0, .int .i64 0, .int .i64 0, .int .i64 0, .int .i64 0, .int .i64 0] 40) := ⟨_, rfl⟩
          rw [← hx8]
          have hbx8 : Ext x7 x8 := by rw [hx8]; exact Ext.al _ _
          have bA : Box x8 gA 40 #[.int .i64 0, .int .i64 0, .int .i64 0, .int .i64 0, .int .i64 0, .int .i64 0, .int .i64 0, .int .i64 0, .int .i64 0, .int .i64 0] := by rw [hx8]; exact Box.new_at _ _ _ _ hgA.symm
          have hnebE : ¬ gE = gA := by have := bE.lt; omega
          have bE := bE.ext hbx8
          have hgegA : S + 1 + 1 + 1 < gA := by have := hE.size; omega
          have hE := hE.trans' hbx8
          clear hx8 hgA
          have hlA := bA.frozen
          have hlE := bE.frozen
          have hAE : ¬ gA = gE := by omega
          have hEA : ¬ gE = gA := by omega
          have p0 := bA.cell 0
          have p1 := bA.cell 1
          have p2 := bA.cell 2
          have p3 := bA.cell 3
          have p4 := bA.cell 4
          have p5 := bA.cell 5
          have p6 := bA.cell 6
          have p7 := bA.cell 7
          have p8 := bA.cell 8
          have p9 := bA.cell 9
          simp only [List.getElem?_toArray, List.getElem?_cons_zero, List.getElem?_cons_succ] at p0 p1 p2 p3 p4 p5 p6 p7 p8 p9
          have q0 := bE.cell 0
          have q1 := bE.cell 1
          have q2 := bE.cell 2
          have q3 := bE.cell 3
          have q4 := bE.cell 4
          have q5 := bE.cell 5
          have q6 := bE.cell 6
          have q7 := bE.cell 7
          have q8 := bE.cell 8
          simp only [List.getElem?_toArray, List.getElem?_cons_zero, List.getElem?_cons_succ] at q0 q1 q2 q3 q4 q5 q6 q7 q8
          refine wpTr_e rfl rfl (fun K hK => ?_)
          go_simp
          refine hK _ _ (fun _ => RS.fr (S' := fun x => x ≠ gA) (Fr.put10 (Fr.refl x8) (g := gA) (fun k => k rfl) _ _ _ _ _ _ _ _ _ _) (fun x _ h => by rcases h with rfl | rfl <;> omega)) ?_
          clear hK K
          (try simp only [Act.put, List.setIfInBounds_toArray, List.set_cons_zero, List.set_cons_succ])
          refine wpTr_e rfl rfl (fun K hK => ?_)
          go_simp
          refine hK _ _ (fun h => absurd rfl h) ?_
          clear hK K
          (try simp only [Act.put, List.setIfInBounds_toArray, List.set_cons_zero, List.set_cons_succ])
          refine wpTr_done ?_
          clear p0 p1 p2 p3 p4 p5 p6 p7 p8 p9 q0 q1 q2 q3 q4 q5 q6 q7 q8 hlA hlE
          obtain ⟨w4, hw4⟩ : ∃ w, w = (((((((((((((((((((x8.setCell ⟨gA, 0, none⟩ (.int .i64 fa.event)).setCell ⟨gA, 1, none⟩ (.int .i64 fa.opts)).setCell ⟨gA, 2, none⟩ (.int .i64 fa.input)).setCell ⟨gA, 3, none⟩ (.int .i64 fa.at_)).setCell ⟨gA, 4, none⟩ (.int .i64 fa.attempt)).setCell ⟨gA, 5, none⟩ (.int .i64 fa.phase)).setCell ⟨gA, 6, none⟩ (.int .i64 fa.since)).setCell ⟨gA, 7, none⟩ (.int .i64 fa.beat)).setCell ⟨gA, 8, none⟩ (.int .i64 fa.detail)).setCell ⟨gA, 9, none⟩ (.int .i64 fa.again)).setCell ⟨gE, 0, none⟩ (.int .i64 0)).setCell ⟨gE, 1, none⟩ (.int .i64 0)).setCell ⟨gE, 2, none⟩ (.int .i64 fe.kind)).setCell ⟨gE, 3, none⟩ (.int .i64 fe.a)).setCell ⟨gE, 4, none⟩ (.int .i64 fe.b)).setCell ⟨gE, 5, none⟩ (.int .i64 fe.c)).setCell ⟨gE, 6, none⟩ (.int .i64 0)).setCell ⟨gE, 7, none⟩ (.int .i64 0)).setCell ⟨gE, 8, none⟩ (.int .i64 0)) := ⟨_, rfl⟩
          rw [← hw4]
          have D0 : Box w4 gA 40 fa.cells := by rw [hw4]; exact (bA.put10 _ _ _ _ _ _ _ _ _ _).fr (Fr.put9 (S := fun x => x ≠ gE) (Fr.refl _) (g := gE) (fun h => h rfl) _ _ _ _ _ _ _ _ _) hAE
          have D1 : Box w4 gE 51 fe.cells := by rw [hw4]; exact (bE.fr (Fr.put10 (S := fun x => x ≠ gA) (Fr.refl _) (g := gA) (fun h => h rfl) _ _ _ _ _ _ _ _ _ _) hEA).put9 _ _ _ _ _ _ _ _ _
          have hF4 : Fr (fun x => x ≠ gA ∧ x ≠ gE) x8 w4 := by rw [hw4]; exact Fr.put9 (Fr.put10 (Fr.refl _) (g := gA) (fun h => h.1 rfl) _ _ _ _ _ _ _ _ _ _) (g := gE) (fun h => h.2 rfl) _ _ _ _ _ _ _ _ _
          have F2 := (C2.ext hE).fr hF4 ⟨by omega, by omega⟩
          have F3 := (C3.ext hE).fr hF4 ⟨by omega, by omega⟩
          have hz4 := hF4.size
          have hX4 : Ext w w4 := Fr.ext (S := fun x => x < S) ((Fr.of_ext (hX2.trans' hE)).step hF4 (fun x _ h => ⟨by omega, by omega⟩)) (fun x h => by rw [← HS.out]; exact h)
          clear hw4 hF4 bA bE HF HEND o0 o1 o2 o3 o4 o5 o6 o7 o8 o9 o10 o_f a0 a1 a2 a3 a4 a5 a6 a7 a8 a9
          have hlA := D0.lt
          have hlE := D1.lt
          have fR := F2.frozen
          have fE := F3.frozen
          have fa_ := D0.frozen
          have r0 := F2.cell 0
          have r1 := F2.cell 1
          have r2 := F2.cell 2
          have r3 := F2.cell 3
          have r4 := F2.cell 4
          have r5 := F2.cell 5
          have r6 := F2.cell 6
          have r7 := F2.cell 7
          have r8 := F2.cell 8
          have r9 := F2.cell 9
          simp only [ActV.cells, EvV.cells, List.getElem?_toArray, List.getElem?_cons_zero, List.getElem?_cons_succ] at r0 r1 r2 r3 r4 r5 r6 r7 r8 r9
          have e0 := F3.cell 0
          have e1 := F3.cell 1
          have e2 := F3.cell 2
          have e3 := F3.cell 3
          have e4 := F3.cell 4
          have e5 := F3.cell 5
          have e6 := F3.cell 6
          have e7 := F3.cell 7
          have e8 := F3.cell 8
          simp only [ActV.cells, EvV.cells, List.getElem?_toArray, List.getElem?_cons_zero, List.getElem?_cons_succ] at e0 e1 e2 e3 e4 e5 e6 e7 e8
          have p0 := D0.cell 0
          have p1 := D0.cell 1
          have p2 := D0.cell 2
          have p3 := D0.cell 3
          have p4 := D0.cell 4
          have p5 := D0.cell 5
          have p6 := D0.cell 6
          have p7 := D0.cell 7
          have p8 := D0.cell 8
          have p9 := D0.cell 9
          simp only [ActV.cells, EvV.cells, List.getElem?_toArray, List.getElem?_cons_zero, List.getElem?_cons_succ] at p0 p1 p2 p3 p4 p5 p6 p7 p8 p9
          have q0 := D1.cell 0
          have q1 := D1.cell 1
          have q2 := D1.cell 2
          have q3 := D1.cell 3
          have q4 := D1.cell 4
          have q5 := D1.cell 5
          have q6 := D1.cell 6
          have q7 := D1.cell 7
          have q8 := D1.cell 8
          simp only [ActV.cells, EvV.cells, List.getElem?_toArray, List.getElem?_cons_zero, List.getElem?_cons_succ] at q0 q1 q2 q3 q4 q5 q6 q7 q8
          clear C0 C1 C2 C3 hX2
          go_wp2_with fail
          refine wp_region_sch (RS ((fun x => x = gA ∨ x = gE))) 5 [(0, true), (1, true), (2, false), (3, false), (4, true)] (by kernel_rfl) (by kernel_rfl) RS.refl RS.trans (fun _ _ d _ _ h => by cases d <;> exact h) ?_
          refine wpSch_q ?_ rfl rfl (fun w' hR => ?_) ?_
          rotate_left
          · (obtain ⟨hRs, hRc⟩ := hR; (try have hRd := fun o => hRc _ o rfl (by first | (simp; done) | (simp; omega) | omega)); (try have hRe := fun o => hRc _ o (Or.inl rfl) (by first | (simp; done) | (simp; omega) | omega)); (try have hRf := fun o => hRc _ o (Or.inr rfl) (by first | (simp; done) | (simp; omega) | omega)); (try have hRg := fun o => hRc _ o (Or.inr (Or.inl rfl)) (by first | (simp; done) | (simp; omega) | omega)); (try have hRh := fun o => hRc _ o (Or.inr (Or.inr rfl)) (by first | (simp; done) | (simp; omega) | omega)); go_simp; first | rfl | rw [if_neg (by simp; omega)] | rw [if_neg (by omega)])
          (try simp only [Act.put, List.setIfInBounds_toArray, List.set_cons_zero, List.set_cons_succ])
          refine wpSch_q ?_ rfl rfl (fun w' hR => ?_) ?_
          rotate_left
          · (obtain ⟨hRs, hRc⟩ := hR; (try have hRd := fun o => hRc _ o rfl (by first | (simp; done) | (simp; omega) | omega)); (try have hRe := fun o => hRc _ o (Or.inl rfl) (by first | (simp; done) | (simp; omega) | omega)); (try have hRf := fun o => hRc _ o (Or.inr rfl) (by first | (simp; done) | (simp; omega) | omega)); (try have hRg := fun o => hRc _ o (Or.inr (Or.inl rfl)) (by first | (simp; done) | (simp; omega) | omega)); (try have hRh := fun o => hRc _ o (Or.inr (Or.inr rfl)) (by first | (simp; done) | (simp; omega) | omega)); go_simp; first | rfl | rw [if_neg (by simp; omega)] | rw [if_neg (by omega)])
          (try simp only [Act.put, List.setIfInBounds_toArray, List.set_cons_zero, List.set_cons_succ])
          refine wpSch_e rfl rfl (fun K hK => ?_)
          go_simp
          refine hK _ _ (fun _ => RS.put10 w4 (fun h => by omega) _ _ _ _ _ _ _ _ _ _) ?_
          clear hK K
          (try simp only [Act.put, List.setIfInBounds_toArray, List.set_cons_zero, List.set_cons_succ])
          skip
          refine wpSch_e rfl rfl (fun K hK => ?_)
          go_simp
          refine hK _ _ (fun _ => RS.put9 _ (fun h => by omega) _ _ _ _ _ _ _ _ _) ?_
          clear hK K
          (try simp only [Act.put, List.setIfInBounds_toArray, List.set_cons_zero, List.set_cons_succ])
          skip
          refine wpSch_q ?_ rfl rfl (fun w' hR => ?_) ?_
          rotate_left
          · (go_simp; first | rfl | rw [if_neg (by simp; omega)] | rw [if_neg (by omega)])
          (try simp only [Act.put, List.setIfInBounds_toArray, List.set_cons_zero, List.set_cons_succ])
          refine wpSch_nil ?_
          (try simp only [Exit.then]); (try go_at_K); (try dsimp only); (repeat (first | go_values | go_skip | go_guarded | go_step | go_upon)); (try simp only [Exit.inBlock, Exit.then])
          refine ret_AET rfl rfl (x0 := fa) ((F2.put10 _ _ _ _ _ _ _ _ _ _).fr (Fr.put9 (S := fun x => x ≠ S + 1 + 1 + 1) (Fr.refl _) (g := S + 1 + 1 + 1) (fun h => h rfl) _ _ _ _ _ _ _ _ _) (by omega)).drew rfl (x1 := fe) ((F3.fr (Fr.put10 (S := fun x => x ≠ S + 1 + 1) (Fr.refl w4) (g := S + 1 + 1) (fun h => h rfl) _ _ _ _ _ _ _ _ _ _) (by omega)).put9 _ _ _ _ _ _ _ _ _).drew rfl rfl ?_
          exact ⟨rfl, (Fr.ext (S := fun x => x < S) (Fr.put9 (Fr.put10 (Fr.of_ext hX4) (g := S + 1 + 1) (by omega) _ _ _ _ _ _ _ _ _ _) (g := S + 1 + 1 + 1) (by omega) _ _ _ _ _ _ _ _ _) (fun x h => by rw [← HS.out]; exact h)).trans' (Ext.dr _)⟩
      · refine wpTr_e rfl rfl (fun K hK => ?_)
        go_simp
        refine hK _ _ (fun _ => RS.alloc _) ?_
        clear hK K
        (try simp only [Act.put, List.setIfInBounds_toArray, List.set_cons_zero, List.set_cons_succ])
        obtain ⟨gA, hgA⟩ : ∃ g, x1.heap.size = g := ⟨_, rfl⟩
        rw [hgA]
        obtain ⟨x11, hx11⟩ : ∃ w, w = x1.alloc (.cells #[.int .i64 0, .int .i64 0, .int .i64 0, .int .i64 0, .int .i64 0, .int .i64 0, .int .i64 0, .int .i64 0, .int .i64 0, .int .i64 0] 40) := ⟨_, rfl⟩
        rw [← hx11]
        have hbx11 : Ext x1 x11 := by rw [hx11]; exact Ext.al _ _
        have bA : Box x11 gA 40 #[.int .i64 0, .int .i64 0, .int .i64 0, .int .i64 0, .int .i64 0, .int .i64 0, .int .i64 0, .int .i64 0, .int .i64 0, .int .i64 0] := by rw [hx11]; exact Box.new_at _ _ _ _ hgA.symm
        have hgegA : S + 1 + 1 + 1 < gA := by have := hE.size; omega
        have hE := hE.trans' hbx11
        clear hx11 hgA
        refine wpTr_fork ?_ ?_
        · refine wpTr_e rfl rfl (fun K hK => ?_)
          go_simp
          refine (HF.out _).mono ?_
          rintro e x12 ⟨rfl, hbx12⟩
          refine hK _ _ (fun _ => RS.fr (S' := fun _ => True) (Fr.of_ext hbx12) (fun _ _ _ => trivial)) ?_
          clear hK K
          (try simp only [Act.put, List.setIfInBounds_toArray, List.set_cons_zero, List.set_cons_succ])
          dsimp only [ActV.cells, EvV.cells]
          have bA := bA.ext hbx12
          have hE := hE.trans' hbx12
          refine wpTr_q ?_ rfl rfl (fun w' hR => ?_) ?_
          rotate_left
          · (go_simp; first | rfl | rw [if_neg (by simp; omega)] | rw [if_neg (by omega)])
          (try simp only [Act.put, List.setIfInBounds_toArray, List.set_cons_zero, List.set_cons_succ])
          refine wpTr_q ?_ rfl rfl (fun w' hR => ?_) ?_
          rotate_left
          · (go_simp; first | rfl | rw [if_neg (by simp; omega)] | rw [if_neg (by omega)])
          (try simp only [Act.put, List.setIfInBounds_toArray, List.set_cons_zero, List.set_cons_succ])
          refine wpTr_q ?_ rfl rfl (fun w' hR => ?_) ?_
          rotate_left
          · (go_simp; first | rfl | rw [if_neg (by simp; omega)] | rw [if_neg (by omega)])
          (try simp only [Act.put, List.setIfInBounds_toArray, List.set_cons_zero, List.set_cons_succ])
          refine wpTr_e rfl rfl (fun K hK => ?_)
          go_simp
          refine hK _ _ (fun _ => RS.alloc _) ?_
          clear hK K
          (try simp only [Act.put, List.setIfInBounds_toArray, List.set_cons_zero, List.set_cons_succ])
          obtain ⟨gE, hgE⟩ : ∃ g, x12.heap.size = g := ⟨_, rfl⟩
          rw [hgE]
          obtain ⟨x13, hx13⟩ : ∃ w, w = x12.alloc (.cells #[.int .i64 0, .int .i64 0, .int .i64 0, .int .i64 0, .int .i64 0, .int .i64 0, .int .i64 0, .int .i64 0, .int .i64 0] 51) := ⟨_, rfl⟩
          rw [← hx13]
          have hbx13 : Ext x12 x13 := by rw [hx13]; exact Ext.al _ _
          have bE : Box x13 gE 51 #[.int .i64 0, .int .i64 0, .int .i64 0, .int .i64 0, .int .i64 0, .int .i64 0, .int .i64 0, .int .i64 0, .int .i64 0] := by rw [hx13]; exact Box.new_at _ _ _ _ hgE.symm
          have hnebA : ¬ gA = gE := by have := bA.lt; omega
          have bA := bA.ext hbx13
          have hgegE : S + 1 + 1 + 1 < gE := by have := hE.size; omega
          have hE := hE.trans' hbx13
          clear hx13 hgE
          have hlA := bA.frozen
          have hlE := bE.frozen
          have hAE : ¬ gA = gE := by omega
          have hEA : ¬ gE = gA := by omega
          have p0 := bA.cell 0
          have p1 := bA.cell 1
          have p2 := bA.cell 2
          have p3 := bA.cell 3
          have p4 := bA.cell 4
          have p5 := bA.cell 5
          have p6 := bA.cell 6
          have p7 := bA.cell 7
          have p8 := bA.cell 8
          have p9 := bA.cell 9
          simp only [List.getElem?_toArray, List.getElem?_cons_zero, List.getElem?_cons_succ] at p0 p1 p2 p3 p4 p5 p6 p7 p8 p9
          have q0 := bE.cell 0
          have q1 := bE.cell 1
          have q2 := bE.cell 2
          have q3 := bE.cell 3
          have q4 := bE.cell 4
          have q5 := bE.cell 5
          have q6 := bE.cell 6
          have q7 := bE.cell 7
          have q8 := bE.cell 8
          simp only [List.getElem?_toArray, List.getElem?_cons_zero, List.getElem?_cons_succ] at q0 q1 q2 q3 q4 q5 q6 q7 q8
          refine wpTr_e rfl rfl (fun K hK => ?_)
          go_simp
          refine hK _ _ (fun _ => RS.fr (S' := fun x => x ≠ gA) (Fr.put10 (Fr.refl x13) (g := gA) (fun k => k rfl) _ _ _ _ _ _ _ _ _ _) (fun x _ h => by rcases h with rfl | rfl <;> omega)) ?_
          clear hK K
          (try simp only [Act.put, List.setIfInBounds_toArray, List.set_cons_zero, List.set_cons_succ])
          refine wpTr_e rfl rfl (fun K hK => ?_)
          go_simp
          refine hK _ _ (fun h => absurd rfl h) ?_
          clear hK K
          (try simp only [Act.put, List.setIfInBounds_toArray, List.set_cons_zero, List.set_cons_succ])
          refine wpTr_done ?_
          clear p0 p1 p2 p3 p4 p5 p6 p7 p8 p9 q0 q1 q2 q3 q4 q5 q6 q7 q8 hlA hlE
          obtain ⟨w4, hw4⟩ : ∃ w, w = (((((((((((((((((((x13.setCell ⟨gA, 0, none⟩ (.int .i64 fa.event)).setCell ⟨gA, 1, none⟩ (.int .i64 fa.opts)).setCell ⟨gA, 2, none⟩ (.int .i64 fa.input)).setCell ⟨gA, 3, none⟩ (.int .i64 fa.at_)).setCell ⟨gA, 4, none⟩ (.int .i64 fa.attempt)).setCell ⟨gA, 5, none⟩ (.int .i64 fa.phase)).setCell ⟨gA, 6, none⟩ (.int .i64 fa.since)).setCell ⟨gA, 7, none⟩ (.int .i64 fa.beat)).setCell ⟨gA, 8, none⟩ (.int .i64 fa.detail)).setCell ⟨gA, 9, none⟩ (.int .i64 fa.again)).setCell ⟨gE, 0, none⟩ (.int .i64 0)).setCell ⟨gE, 1, none⟩ (.int .i64 0)).setCell ⟨gE, 2, none⟩ (.int .i64 fe.kind)).setCell ⟨gE, 3, none⟩ (.int .i64 fe.a)).setCell ⟨gE, 4, none⟩ (.int .i64 fe.b)).setCell ⟨gE, 5, none⟩ (.int .i64 fe.c)).setCell ⟨gE, 6, none⟩ (.int .i64 0)).setCell ⟨gE, 7, none⟩ (.int .i64 0)).setCell ⟨gE, 8, none⟩ (.int .i64 0)) := ⟨_, rfl⟩
          rw [← hw4]
          have D0 : Box w4 gA 40 fa.cells := by rw [hw4]; exact (bA.put10 _ _ _ _ _ _ _ _ _ _).fr (Fr.put9 (S := fun x => x ≠ gE) (Fr.refl _) (g := gE) (fun h => h rfl) _ _ _ _ _ _ _ _ _) hAE
          have D1 : Box w4 gE 51 fe.cells := by rw [hw4]; exact (bE.fr (Fr.put10 (S := fun x => x ≠ gA) (Fr.refl _) (g := gA) (fun h => h rfl) _ _ _ _ _ _ _ _ _ _) hEA).put9 _ _ _ _ _ _ _ _ _
          have hF4 : Fr (fun x => x ≠ gA ∧ x ≠ gE) x13 w4 := by rw [hw4]; exact Fr.put9 (Fr.put10 (Fr.refl _) (g := gA) (fun h => h.1 rfl) _ _ _ _ _ _ _ _ _ _) (g := gE) (fun h => h.2 rfl) _ _ _ _ _ _ _ _ _
          have F2 := (C2.ext hE).fr hF4 ⟨by omega, by omega⟩
          have F3 := (C3.ext hE).fr hF4 ⟨by omega, by omega⟩
          have hz4 := hF4.size
          have hX4 : Ext w w4 := Fr.ext (S := fun x => x < S) ((Fr.of_ext (hX2.trans' hE)).step hF4 (fun x _ h => ⟨by omega, by omega⟩)) (fun x h => by rw [← HS.out]; exact h)
          clear hw4 hF4 bA bE HF HEND o0 o1 o2 o3 o4 o5 o6 o7 o8 o9 o10 o_f a0 a1 a2 a3 a4 a5 a6 a7 a8 a9
          have hlA := D0.lt
          have hlE := D1.lt
          have fR := F2.frozen
          have fE := F3.frozen
          have fa_ := D0.frozen
          have r0 := F2.cell 0
          have r1 := F2.cell 1
          have r2 := F2.cell 2
          have r3 := F2.cell 3
          have r4 := F2.cell 4
          have r5 := F2.cell 5
          have r6 := F2.cell 6
          have r7 := F2.cell 7
          have r8 := F2.cell 8
          have r9 := F2.cell 9
          simp only [ActV.cells, EvV.cells, List.getElem?_toArray, List.getElem?_cons_zero, List.getElem?_cons_succ] at r0 r1 r2 r3 r4 r5 r6 r7 r8 r9
          have e0 := F3.cell 0
          have e1 := F3.cell 1
          have e2 := F3.cell 2
          have e3 := F3.cell 3
          have e4 := F3.cell 4
          have e5 := F3.cell 5
          have e6 := F3.cell 6
          have e7 := F3.cell 7
          have e8 := F3.cell 8
          simp only [ActV.cells, EvV.cells, List.getElem?_toArray, List.getElem?_cons_zero, List.getElem?_cons_succ] at e0 e1 e2 e3 e4 e5 e6 e7 e8
          have p0 := D0.cell 0
          have p1 := D0.cell 1
          have p2 := D0.cell 2
          have p3 := D0.cell 3
          have p4 := D0.cell 4
          have p5 := D0.cell 5
          have p6 := D0.cell 6
          have p7 := D0.cell 7
          have p8 := D0.cell 8
          have p9 := D0.cell 9
          simp only [ActV.cells, EvV.cells, List.getElem?_toArray, List.getElem?_cons_zero, List.getElem?_cons_succ] at p0 p1 p2 p3 p4 p5 p6 p7 p8 p9
          have q0 := D1.cell 0
          have q1 := D1.cell 1
          have q2 := D1.cell 2
          have q3 := D1.cell 3
          have q4 := D1.cell 4
          have q5 := D1.cell 5
          have q6 := D1.cell 6
          have q7 := D1.cell 7
          have q8 := D1.cell 8
          simp only [ActV.cells, EvV.cells, List.getElem?_toArray, List.getElem?_cons_zero, List.getElem?_cons_succ] at q0 q1 q2 q3 q4 q5 q6 q7 q8
          clear C0 C1 C2 C3 hX2
          go_wp2_with fail
          refine wp_region_sch (RS ((fun x => x = gA ∨ x = gE))) 5 [(0, true), (1, true), (2, false), (3, false), (4, true)] (by kernel_rfl) (by kernel_rfl) RS.refl RS.trans (fun _ _ d _ _ h => by cases d <;> exact h) ?_
          refine wpSch_q ?_ rfl rfl (fun w' hR => ?_) ?_
          rotate_left
          · (obtain ⟨hRs, hRc⟩ := hR; (try have hRd := fun o => hRc _ o rfl (by first | (simp; done) | (simp; omega) | omega)); (try have hRe := fun o => hRc _ o (Or.inl rfl) (by first | (simp; done) | (simp; omega) | omega)); (try have hRf := fun o => hRc _ o (Or.inr rfl) (by first | (simp; done) | (simp; omega) | omega)); (try have hRg := fun o => hRc _ o (Or.inr (Or.inl rfl)) (by first | (simp; done) | (simp; omega) | omega)); (try have hRh := fun o => hRc _ o (Or.inr (Or.inr rfl)) (by first | (simp; done) | (simp; omega) | omega)); go_simp; first | rfl | rw [if_neg (by simp; omega)] | rw [if_neg (by omega)])
          (try simp only [Act.put, List.setIfInBounds_toArray, List.set_cons_zero, List.set_cons_succ])
          refine wpSch_q ?_ rfl rfl (fun w' hR => ?_) ?_
          rotate_left
          · (obtain ⟨hRs, hRc⟩ := hR; (try have hRd := fun o => hRc _ o rfl (by first | (simp; done) | (simp; omega) | omega)); (try have hRe := fun o => hRc _ o (Or.inl rfl) (by first | (simp; done) | (simp; omega) | omega)); (try have hRf := fun o => hRc _ o (Or.inr rfl) (by first | (simp; done) | (simp; omega) | omega)); (try have hRg := fun o => hRc _ o (Or.inr (Or.inl rfl)) (by first | (simp; done) | (simp; omega) | omega)); (try have hRh := fun o => hRc _ o (Or.inr (Or.inr rfl)) (by first | (simp; done) | (simp; omega) | omega)); go_simp; first | rfl | rw [if_neg (by simp; omega)] | rw [if_neg (by omega)])
          (try simp only [Act.put, List.setIfInBounds_toArray, List.set_cons_zero, List.set_cons_succ])
          refine wpSch_e rfl rfl (fun K hK => ?_)
          go_simp
          refine hK _ _ (fun _ => RS.put10 w4 (fun h => by omega) _ _ _ _ _ _ _ _ _ _) ?_
          clear hK K
          (try simp only [Act.put, List.setIfInBounds_toArray, List.set_cons_zero, List.set_cons_succ])
          skip
          refine wpSch_e rfl rfl (fun K hK => ?_)
          go_simp
          refine hK _ _ (fun _ => RS.put9 _ (fun h => by omega) _ _ _ _ _ _ _ _ _) ?_
          clear hK K
          (try simp only [Act.put, List.setIfInBounds_toArray, List.set_cons_zero, List.set_cons_succ])
          skip
          refine wpSch_q ?_ rfl rfl (fun w' hR => ?_) ?_
          rotate_left
          · (go_simp; first | rfl | rw [if_neg (by simp; omega)] | rw [if_neg (by omega)])
          (try simp only [Act.put, List.setIfInBounds_toArray, List.set_cons_zero, List.set_cons_succ])
          refine wpSch_nil ?_
          (try simp only [Exit.then]); (try go_at_K); (try dsimp only); (repeat (first | go_values | go_skip | go_guarded | go_step | go_upon)); (try simp only [Exit.inBlock, Exit.then])
          refine ret_AET rfl rfl (x0 := fa) ((F2.put10 _ _ _ _ _ _ _ _ _ _).fr (Fr.put9 (S := fun x => x ≠ S + 1 + 1 + 1) (Fr.refl _) (g := S + 1 + 1 + 1) (fun h => h rfl) _ _ _ _ _ _ _ _ _) (by omega)).drew rfl (x1 := fe) ((F3.fr (Fr.put10 (S := fun x => x ≠ S + 1 + 1) (Fr.refl w4) (g := S + 1 + 1) (fun h => h rfl) _ _ _ _ _ _ _ _ _ _) (by omega)).put9 _ _ _ _ _ _ _ _ _).drew rfl rfl ?_
          exact ⟨rfl, (Fr.ext (S := fun x => x < S) (Fr.put9 (Fr.put10 (Fr.of_ext hX4) (g := S + 1 + 1) (by omega) _ _ _ _ _ _ _ _ _ _) (g := S + 1 + 1 + 1) (by omega) _ _ _ _ _ _ _ _ _) (fun x h => by rw [← HS.out]; exact h)).trans' (Ext.dr _)⟩
        · refine wpTr_e rfl rfl (fun K hK => ?_)
          go_simp
          refine hK _ _ (fun _ => RS.alloc _) ?_
          clear hK K
          (try simp only [Act.put, List.setIfInBounds_toArray, List.set_cons_zero, List.set_cons_succ])
          obtain ⟨gE, hgE⟩ : ∃ g, x11.heap.size = g := ⟨_, rfl⟩
          rw [hgE]
          obtain ⟨x16, hx16⟩ : ∃ w, w = x11.alloc (.cells #[.int .i64 0, .int .i64 0, .int .i64 0, .int .i64 0, .int .i64 0, .int .i64 0, .int .i64 0, .int .i64 0, .int .i64 0] 51) := ⟨_, rfl⟩
          rw [← hx16]
          have hbx16 : Ext x11 x16 := by rw [hx16]; exact Ext.al _ _
          have bE : Box x16 gE 51 #[.int .i64 0, .int .i64 0, .int .i64 0, .int .i64 0, .int .i64 0, .int .i64 0, .int .i64 0, .int .i64 0, .int .i64 0] := by rw [hx16]; exact Box.new_at _ _ _ _ hgE.symm
          have hnebA : ¬ gA = gE := by have := bA.lt; omega
          have bA := bA.ext hbx16
          have hgegE : S + 1 + 1 + 1 < gE := by have := hE.size; omega
          have hE := hE.trans' hbx16
          clear hx16 hgE
          refine wpTr_e rfl rfl (fun K hK => ?_)
          go_simp
          refine (HF.out _).mono ?_
          rintro e x17 ⟨rfl, hbx17⟩
          refine hK _ _ (fun _ => RS.fr (S' := fun _ => True) (Fr.of_ext hbx17) (fun _ _ _ => trivial)) ?_
          clear hK K
          (try simp only [Act.put, List.setIfInBounds_toArray, List.set_cons_zero, List.set_cons_succ])
          dsimp only [ActV.cells, EvV.cells]
          have bA := bA.ext hbx17
          have bE := bE.ext hbx17
          have hE := hE.trans' hbx17
          refine wpTr_q ?_ rfl rfl (fun w' hR => ?_) ?_
          rotate_left
          · (go_simp; first | rfl | rw [if_neg (by simp; omega)] | rw [if_neg (by omega)])
          (try simp only [Act.put, List.setIfInBounds_toArray, List.set_cons_zero, List.set_cons_succ])
          refine wpTr_q ?_ rfl rfl (fun w' hR => ?_) ?_
          rotate_left
          · (go_simp; first | rfl | rw [if_neg (by simp; omega)] | rw [if_neg (by omega)])
          (try simp only [Act.put, List.setIfInBounds_toArray, List.set_cons_zero, List.set_cons_succ])
          refine wpTr_q ?_ rfl rfl (fun w' hR => ?_) ?_
          rotate_left
          · (go_simp; first | rfl | rw [if_neg (by simp; omega)] | rw [if_neg (by omega)])
          (try simp only [Act.put, List.setIfInBounds_toArray, List.set_cons_zero, List.set_cons_succ])
          have hlA := bA.frozen
          have hlE := bE.frozen
          have hAE : ¬ gA = gE := by omega
          have hEA : ¬ gE = gA := by omega
          have p0 := bA.cell 0
          have p1 := bA.cell 1
          have p2 := bA.cell 2
          have p3 := bA.cell 3
          have p4 := bA.cell 4
          have p5 := bA.cell 5
          have p6 := bA.cell 6
          have p7 := bA.cell 7
          have p8 := bA.cell 8
          have p9 := bA.cell 9
          simp only [List.getElem?_toArray, List.getElem?_cons_zero, List.getElem?_cons_succ] at p0 p1 p2 p3 p4 p5 p6 p7 p8 p9
          have q0 := bE.cell 0
          have q1 := bE.cell 1
          have q2 := bE.cell 2
          have q3 := bE.cell 3
          have q4 := bE.cell 4
          have q5 := bE.cell 5
          have q6 := bE.cell 6
          have q7 := bE.cell 7
          have q8 := bE.cell 8
          simp only [List.getElem?_toArray, List.getElem?_cons_zero, List.getElem?_cons_succ] at q0 q1 q2 q3 q4 q5 q6 q7 q8
          refine wpTr_e rfl rfl (fun K hK => ?_)
          go_simp
          refine hK _ _ (fun _ => RS.fr (S' := fun x => x ≠ gA) (Fr.put10 (Fr.refl x17) (g := gA) (fun k => k rfl) _ _ _ _ _ _ _ _ _ _) (fun x _ h => by rcases h with rfl | rfl <;> omega)) ?_
          clear hK K
          (try simp only [Act.put, List.setIfInBounds_toArray, List.set_cons_zero, List.set_cons_succ])
          refine wpTr_e rfl rfl (fun K hK => ?_)
          go_simp
          refine hK _ _ (fun h => absurd rfl h) ?_
          clear hK K
          (try simp only [Act.put, List.setIfInBounds_toArray, List.set_cons_zero, List.set_cons_succ])
          refine wpTr_done ?_
          clear p0 p1 p2 p3 p4 p5 p6 p7 p8 p9 q0 q1 q2 q3 q4 q5 q6 q7 q8 hlA hlE
          obtain ⟨w4, hw4⟩ : ∃ w, w = (((((((((((((((((((x17.setCell ⟨gA, 0, none⟩ (.int .i64 fa.event)).setCell ⟨gA, 1, none⟩ (.int .i64 fa.opts)).setCell ⟨gA, 2, none⟩ (.int .i64 fa.input)).setCell ⟨gA, 3, none⟩ (.int .i64 fa.at_)).setCell ⟨gA, 4, none⟩ (.int .i64 fa.attempt)).setCell ⟨gA, 5, none⟩ (.int .i64 fa.phase)).setCell ⟨gA, 6, none⟩ (.int .i64 fa.since)).setCell ⟨gA, 7, none⟩ (.int .i64 fa.beat)).setCell ⟨gA, 8, none⟩ (.int .i64 fa.detail)).setCell ⟨gA, 9, none⟩ (.int .i64 fa.again)).setCell ⟨gE, 0, none⟩ (.int .i64 0)).setCell ⟨gE, 1, none⟩ (.int .i64 0)).setCell ⟨gE, 2, none⟩ (.int .i64 fe.kind)).setCell ⟨gE, 3, none⟩ (.int .i64 fe.a)).setCell ⟨gE, 4, none⟩ (.int .i64 fe.b)).setCell ⟨gE, 5, none⟩ (.int .i64 fe.c)).setCell ⟨gE, 6, none⟩ (.int .i64 0)).setCell ⟨gE, 7, none⟩ (.int .i64 0)).setCell ⟨gE, 8, none⟩ (.int .i64 0)) := ⟨_, rfl⟩
          rw [← hw4]
          have D0 : Box w4 gA 40 fa.cells := by rw [hw4]; exact (bA.put10 _ _ _ _ _ _ _ _ _ _).fr (Fr.put9 (S := fun x => x ≠ gE) (Fr.refl _) (g := gE) (fun h => h rfl) _ _ _ _ _ _ _ _ _) hAE
          have D1 : Box w4 gE 51 fe.cells := by rw [hw4]; exact (bE.fr (Fr.put10 (S := fun x => x ≠ gA) (Fr.refl _) (g := gA) (fun h => h rfl) _ _ _ _ _ _ _ _ _ _) hEA).put9 _ _ _ _ _ _ _ _ _
          have hF4 : Fr (fun x => x ≠ gA ∧ x ≠ gE) x17 w4 := by rw [hw4]; exact Fr.put9 (Fr.put10 (Fr.refl _) (g := gA) (fun h => h.1 rfl) _ _ _ _ _ _ _ _ _ _) (g := gE) (fun h => h.2 rfl) _ _ _ _ _ _ _ _ _
          have F2 := (C2.ext hE).fr hF4 ⟨by omega, by omega⟩
          have F3 := (C3.ext hE).fr hF4 ⟨by omega, by omega⟩
          have hz4 := hF4.size
          have hX4 : Ext w w4 := Fr.ext (S := fun x => x < S) ((Fr.of_ext (hX2.trans' hE)).step hF4 (fun x _ h => ⟨by omega, by omega⟩)) (fun x h => by rw [← HS.out]; exact h)
          clear hw4 hF4 bA bE HF HEND o0 o1 o2 o3 o4 o5 o6 o7 o8 o9 o10 o_f a0 a1 a2 a3 a4 a5 a6 a7 a8 a9
          have hlA := D0.lt
          have hlE := D1.lt
          have fR := F2.frozen
          have fE := F3.frozen
          have fa_ := D0.frozen
          have r0 := F2.cell 0
          have r1 := F2.cell 1
          have r2 := F2.cell 2
          have r3 := F2.cell 3
          have r4 := F2.cell 4
          have r5 := F2.cell 5
          have r6 := F2.cell 6
          have r7 := F2.cell 7
          have r8 := F2.cell 8
          have r9 := F2.cell 9
          simp only [ActV.cells, EvV.cells, List.getElem?_toArray, List.getElem?_cons_zero, List.getElem?_cons_succ] at r0 r1 r2 r3 r4 r5 r6 r7 r8 r9
          have e0 := F3.cell 0
          have e1 := F3.cell 1
          have e2 := F3.cell 2
          have e3 := F3.cell 3
          have e4 := F3.cell 4
          have e5 := F3.cell 5
          have e6 := F3.cell 6
          have e7 := F3.cell 7
          have e8 := F3.cell 8
          simp only [ActV.cells, EvV.cells, List.getElem?_toArray, List.getElem?_cons_zero, List.getElem?_cons_succ] at e0 e1 e2 e3 e4 e5 e6 e7 e8
          have p0 := D0.cell 0
          have p1 := D0.cell 1
          have p2 := D0.cell 2
          have p3 := D0.cell 3
          have p4 := D0.cell 4
          have p5 := D0.cell 5
          have p6 := D0.cell 6
          have p7 := D0.cell 7
          have p8 := D0.cell 8
          have p9 := D0.cell 9
          simp only [ActV.cells, EvV.cells, List.getElem?_toArray, List.getElem?_cons_zero, List.getElem?_cons_succ] at p0 p1 p2 p3 p4 p5 p6 p7 p8 p9
          have q0 := D1.cell 0
          have q1 := D1.cell 1
          have q2 := D1.cell 2
          have q3 := D1.cell 3
          have q4 := D1.cell 4
          have q5 := D1.cell 5
          have q6 := D1.cell 6
          have q7 := D1.cell 7
          have q8 := D1.cell 8
          simp only [ActV.cells, EvV.cells, List.getElem?_toArray, List.getElem?_cons_zero, List.getElem?_cons_succ] at q0 q1 q2 q3 q4 q5 q6 q7 q8
          clear C0 C1 C2 C3 hX2
          go_wp2_with fail
          refine wp_region_sch (RS ((fun x => x = gA ∨ x = gE))) 5 [(0, true), (1, true), (2, false), (3, false), (4, true)] (by kernel_rfl) (by kernel_rfl) RS.refl RS.trans (fun _ _ d _ _ h => by cases d <;> exact h) ?_
          refine wpSch_q ?_ rfl rfl (fun w' hR => ?_) ?_
          rotate_left
          · (obtain ⟨hRs, hRc⟩ := hR; (try have hRd := fun o => hRc _ o rfl (by first | (simp; done) | (simp; omega) | omega)); (try have hRe := fun o => hRc _ o (Or.inl rfl) (by first | (simp; done) | (simp; omega) | omega)); (try have hRf := fun o => hRc _ o (Or.inr rfl) (by first | (simp; done) | (simp; omega) | omega)); (try have hRg := fun o => hRc _ o (Or.inr (Or.inl rfl)) (by first | (simp; done) | (simp; omega) | omega)); (try have hRh := fun o => hRc _ o (Or.inr (Or.inr rfl)) (by first | (simp; done) | (simp; omega) | omega)); go_simp; first | rfl | rw [if_neg (by simp; omega)] | rw [if_neg (by omega)])
          (try simp only [Act.put, List.setIfInBounds_toArray, List.set_cons_zero, List.set_cons_succ])
          refine wpSch_q ?_ rfl rfl (fun w' hR => ?_) ?_
          rotate_left
          · (obtain ⟨hRs, hRc⟩ := hR; (try have hRd := fun o => hRc _ o rfl (by first | (simp; done) | (simp; omega) | omega)); (try have hRe := fun o => hRc _ o (Or.inl rfl) (by first | (simp; done) | (simp; omega) | omega)); (try have hRf := fun o => hRc _ o (Or.inr rfl) (by first | (simp; done) | (simp; omega) | omega)); (try have hRg := fun o => hRc _ o (Or.inr (Or.inl rfl)) (by first | (simp; done) | (simp; omega) | omega)); (try have hRh := fun o => hRc _ o (Or.inr (Or.inr rfl)) (by first | (simp; done) | (simp; omega) | omega)); go_simp; first | rfl | rw [if_neg (by simp; omega)] | rw [if_neg (by omega)])
          (try simp only [Act.put, List.setIfInBounds_toArray, List.set_cons_zero, List.set_cons_succ])
          refine wpSch_e rfl rfl (fun K hK => ?_)
          go_simp
          refine hK _ _ (fun _ => RS.put10 w4 (fun h => by omega) _ _ _ _ _ _ _ _ _ _) ?_
          clear hK K
          (try simp only [Act.put, List.setIfInBounds_toArray, List.set_cons_zero, List.set_cons_succ])
          skip
          refine wpSch_e rfl rfl (fun K hK => ?_)
          go_simp
          refine hK _ _ (fun _ => RS.put9 _ (fun h => by omega) _ _ _ _ _ _ _ _ _) ?_
          clear hK K
          (try simp only [Act.put, List.setIfInBounds_toArray, List.set_cons_zero, List.set_cons_succ])
          skip
          refine wpSch_q ?_ rfl rfl (fun w' hR => ?_) ?_
          rotate_left
          · (go_simp; first | rfl | rw [if_neg (by simp; omega)] | rw [if_neg (by omega)])
          (try simp only [Act.put, List.setIfInBounds_toArray, List.set_cons_zero, List.set_cons_succ])
          refine wpSch_nil ?_
          (try simp only [Exit.then]); (try go_at_K); (try dsimp only); (repeat (first | go_values | go_skip | go_guarded | go_step | go_upon)); (try simp only [Exit.inBlock, Exit.then])
          refine ret_AET rfl rfl (x0 := fa) ((F2.put10 _ _ _ _ _ _ _ _ _ _).fr (Fr.put9 (S := fun x => x ≠ S + 1 + 1 + 1) (Fr.refl _) (g := S + 1 + 1 + 1) (fun h => h rfl) _ _ _ _ _ _ _ _ _) (by omega)).drew rfl (x1 := fe) ((F3.fr (Fr.put10 (S := fun x => x ≠ S + 1 + 1) (Fr.refl w4) (g := S + 1 + 1) (fun h => h rfl) _ _ _ _ _ _ _ _ _ _) (by omega)).put9 _ _ _ _ _ _ _ _ _).drew rfl rfl ?_
          exact ⟨rfl, (Fr.ext (S := fun x => x < S) (Fr.put9 (Fr.put10 (Fr.of_ext hX4) (g := S + 1 + 1) (by omega) _ _ _ _ _ _ _ _ _ _) (g := S + 1 + 1 + 1) (by omega) _ _ _ _ _ _ _ _ _) (fun x h => by rw [← HS.out]; exact h)).trans' (Ext.dr _)⟩
      · refine wpTr_e rfl rfl (fun K hK => ?_)
        go_simp
        refine hK _ _ (fun _ => RS.alloc _) ?_
        clear hK K
        (try simp only [Act.put, List.setIfInBounds_toArray, List.set_cons_zero, List.set_cons_succ])
        obtain ⟨gE, hgE⟩ : ∃ g, x1.heap.size = g := ⟨_, rfl⟩
        rw [hgE]
        obtain ⟨x20, hx20⟩ : ∃ w, w = x1.alloc (.cells #[.int .i64 0, .int .i64 0, .int .i64 0, .int .i64 0, .int .i64 0, .int .i64 0, .int .i64 0, .int .i64 0, .int .i64 0] 51) := ⟨_, rfl⟩
        rw [← hx20]
        have hbx20 : Ext x1 x20 := by rw [hx20]; exact Ext.al _ _
        have bE : Box x20 gE 51 #[.int .i64 0, .int .i64 0, .int .i64 0, .int .i64 0, .int .i64 0, .int .i64 0, .int .i64 0, .int .i64 0, .int .i64 0] := by rw [hx20]; exact Box.new_at _ _ _ _ hgE.symm
        have hgegE : S + 1 + 1 + 1 < gE := by have := hE.size; omega
        have hE := hE.trans' hbx20
        clear hx20 hgE
        refine wpTr_fork ?_ ?_
        · refine wpTr_e rfl rfl (fun K hK => ?_)
          go_simp
          refine (HF.out _).mono ?_
          rintro e x21 ⟨rfl, hbx21⟩
          refine hK _ _ (fun _ => RS.fr (S' := fun _ => True) (Fr.of_ext hbx21) (fun _ _ _ => trivial)) ?_
          clear hK K
          (try simp only [Act.put, List.setIfInBounds_toArray, List.set_cons_zero, List.set_cons_succ])
          dsimp only [ActV.cells, EvV.cells]
          have bE := bE.ext hbx21
          have hE := hE.trans' hbx21
          refine wpTr_q ?_ rfl rfl (fun w' hR => ?_) ?_
          rotate_left
          · (go_simp; first | rfl | rw [if_neg (by simp; omega)] | rw [if_neg (by omega)])
          (try simp only [Act.put, List.setIfInBounds_toArray, List.set_cons_zero, List.set_cons_succ])
          refine wpTr_q ?_ rfl rfl (fun w' hR => ?_) ?_
          rotate_left
          · (go_simp; first | rfl | rw [if_neg (by simp; omega)] | rw [if_neg (by omega)])
          (try simp only [Act.put, List.setIfInBounds_toArray, List.set_cons_zero, List.set_cons_succ])
          refine wpTr_q ?_ rfl rfl (fun w' hR => ?_) ?_
          rotate_left
          · (go_simp; first | rfl | rw [if_neg (by simp; omega)] | rw [if_neg (by omega)])
          (try simp only [Act.put, List.setIfInBounds_toArray, List.set_cons_zero, List.set_cons_succ])
          refine wpTr_e rfl rfl (fun K hK => ?_)
          go_simp
          refine hK _ _ (fun _ => RS.alloc _) ?_
          clear hK K
          (try simp only [Act.put, List.setIfInBounds_toArray, List.set_cons_zero, List.set_cons_succ])
          obtain ⟨gA, hgA⟩ : ∃ g, x21.heap.size = g := ⟨_, rfl⟩
          rw [hgA]
          obtain ⟨x22, hx22⟩ : ∃ w, w = x21.alloc (.cells #[.int .i64 0, .int .i64 0, .int .i64 0, .int .i64 0, .int .i64 0, .int .i64 0, .int .i64 0, .int .i64 0, .int .i64 0, .int .i64 0] 40) := ⟨_, rfl⟩
          rw [← hx22]
          have hbx22 : Ext x21 x22 := by rw [hx22]; exact Ext.al _ _
          have bA : Box x22 gA 40 #[.int .i64 0, .int .i64 0, .int .i64 0, .int .i64 0, .int .i64 0, .int .i64 0, .int .i64 0, .int .i64 0, .int .i64 0, .int .i64 0] := by rw [hx22]; exact Box.new_at _ _ _ _ hgA.symm
          have hnebE : ¬ gE = gA := by have := bE.lt; omega
          have bE := bE.ext hbx22
          have hgegA : S + 1 + 1 + 1 < gA := by have := hE.size; omega
          have hE := hE.trans' hbx22
          clear hx22 hgA
          have hlA := bA.frozen
          have hlE := bE.frozen
          have hAE : ¬ gA = gE := by omega
          have hEA : ¬ gE = gA := by omega
          have p0 := bA.cell 0
          have p1 := bA.cell 1
          have p2 := bA.cell 2
          have p3 := bA.cell 3
          have p4 := bA.cell 4
          have p5 := bA.cell 5
          have p6 := bA.cell 6
          have p7 := bA.cell 7
          have p8 := bA.cell 8
          have p9 := bA.cell 9
          simp only [List.getElem?_toArray, List.getElem?_cons_zero, List.getElem?_cons_succ] at p0 p1 p2 p3 p4 p5 p6 p7 p8 p9
          have q0 := bE.cell 0
          have q1 := bE.cell 1
          have q2 := bE.cell 2
          have q3 := bE.cell 3
          have q4 := bE.cell 4
          have q5 := bE.cell 5
          have q6 := bE.cell 6
          have q7 := bE.cell 7
          have q8 := bE.cell 8
          simp only [List.getElem?_toArray, List.getElem?_cons_zero, List.getElem?_cons_succ] at q0 q1 q2 q3 q4 q5 q6 q7 q8
          refine wpTr_e rfl rfl (fun K hK => ?_)
          go_simp
          refine hK _ _ (fun _ => RS.fr (S' := fun x => x ≠ gA) (Fr.put10 (Fr.refl x22) (g := gA) (fun k => k rfl) _ _ _ _ _ _ _ _ _ _) (fun x _ h => by rcases h with rfl | rfl <;> omega)) ?_
          clear hK K
          (try simp only [Act.put, List.setIfInBounds_toArray, List.set_cons_zero, List.set_cons_succ])
          refine wpTr_e rfl rfl (fun K hK => ?_)
          go_simp
          refine hK _ _ (fun h => absurd rfl h) ?_
          clear hK K
          (try simp only [Act.put, List.setIfInBounds_toArray, List.set_cons_zero, List.set_cons_succ])
          refine wpTr_done ?_
          clear p0 p1 p2 p3 p4 p5 p6 p7 p8 p9 q0 q1 q2 q3 q4 q5 q6 q7 q8 hlA hlE
          obtain ⟨w4, hw4⟩ : ∃ w, w = (((((((((((((((((((x22.setCell ⟨gA, 0, none⟩ (.int .i64 fa.event)).setCell ⟨gA, 1, none⟩ (.int .i64 fa.opts)).setCell ⟨gA, 2, none⟩ (.int .i64 fa.input)).setCell ⟨gA, 3, none⟩ (.int .i64 fa.at_)).setCell ⟨gA, 4, none⟩ (.int .i64 fa.attempt)).setCell ⟨gA, 5, none⟩ (.int .i64 fa.phase)).setCell ⟨gA, 6, none⟩ (.int .i64 fa.since)).setCell ⟨gA, 7, none⟩ (.int .i64 fa.beat)).setCell ⟨gA, 8, none⟩ (.int .i64 fa.detail)).setCell ⟨gA, 9, none⟩ (.int .i64 fa.again)).setCell ⟨gE, 0, none⟩ (.int .i64 0)).setCell ⟨gE, 1, none⟩ (.int .i64 0)).setCell ⟨gE, 2, none⟩ (.int .i64 fe.kind)).setCell ⟨gE, 3, none⟩ (.int .i64 fe.a)).setCell ⟨gE, 4, none⟩ (.int .i64 fe.b)).setCell ⟨gE, 5, none⟩ (.int .i64 fe.c)).setCell ⟨gE, 6, none⟩ (.int .i64 0)).setCell ⟨gE, 7, none⟩ (.int .i64 0)).setCell ⟨gE, 8, none⟩ (.int .i64 0)) := ⟨_, rfl⟩
          rw [← hw4]
          have D0 : Box w4 gA 40 fa.cells := by rw [hw4]; exact (bA.put10 _ _ _ _ _ _ _ _ _ _).fr (Fr.put9 (S := fun x => x ≠ gE) (Fr.refl _) (g := gE) (fun h => h rfl) _ _ _ _ _ _ _ _ _) hAE
          have D1 : Box w4 gE 51 fe.cells := by rw [hw4]; exact (bE.fr (Fr.put10 (S := fun x => x ≠ gA) (Fr.refl _) (g := gA) (fun h => h rfl) _ _ _ _ _ _ _ _ _ _) hEA).put9 _ _ _ _ _ _ _ _ _
          have hF4 : Fr (fun x => x ≠ gA ∧ x ≠ gE) x22 w4 := by rw [hw4]; exact Fr.put9 (Fr.put10 (Fr.refl _) (g := gA) (fun h => h.1 rfl) _ _ _ _ _ _ _ _ _ _) (g := gE) (fun h => h.2 rfl) _ _ _ _ _ _ _ _ _
          have F2 := (C2.ext hE).fr hF4 ⟨by omega, by omega⟩
          have F3 := (C3.ext hE).fr hF4 ⟨by omega, by omega⟩
          have hz4 := hF4.size
          have hX4 : Ext w w4 := Fr.ext (S := fun x => x < S) ((Fr.of_ext (hX2.trans' hE)).step hF4 (fun x _ h => ⟨by omega, by omega⟩)) (fun x h => by rw [← HS.out]; exact h)
          clear hw4 hF4 bA bE HF HEND o0 o1 o2 o3 o4 o5 o6 o7 o8 o9 o10 o_f a0 a1 a2 a3 a4 a5 a6 a7 a8 a9
          have hlA := D0.lt
          have hlE := D1.lt
          have fR := F2.frozen
          have fE := F3.frozen
          have fa_ := D0.frozen
          have r0 := F2.cell 0
          have r1 := F2.cell 1
          have r2 := F2.cell 2
          have r3 := F2.cell 3
          have r4 := F2.cell 4
          have r5 := F2.cell 5
          have r6 := F2.cell 6
          have r7 := F2.cell 7
          have r8 := F2.cell 8
          have r9 := F2.cell 9
          simp only [ActV.cells, EvV.cells, List.getElem?_toArray, List.getElem?_cons_zero, List.getElem?_cons_succ] at r0 r1 r2 r3 r4 r5 r6 r7 r8 r9
          have e0 := F3.cell 0
          have e1 := F3.cell 1
          have e2 := F3.cell 2
          have e3 := F3.cell 3
          have e4 := F3.cell 4
          have e5 := F3.cell 5
          have e6 := F3.cell 6
          have e7 := F3.cell 7
          have e8 := F3.cell 8
          simp only [ActV.cells, EvV.cells, List.getElem?_toArray, List.getElem?_cons_zero, List.getElem?_cons_succ] at e0 e1 e2 e3 e4 e5 e6 e7 e8
          have p0 := D0.cell 0
          have p1 := D0.cell 1
          have p2 := D0.cell 2
          have p3 := D0.cell 3
          have p4 := D0.cell 4
          have p5 := D0.cell 5
          have p6 := D0.cell 6
          have p7 := D0.cell 7
          have p8 := D0.cell 8
          have p9 := D0.cell 9
          simp only [ActV.cells, EvV.cells, List.getElem?_toArray, List.getElem?_cons_zero, List.getElem?_cons_succ] at p0 p1 p2 p3 p4 p5 p6 p7 p8 p9
          have q0 := D1.cell 0
          have q1 := D1.cell 1
          have q2 := D1.cell 2
          have q3 := D1.cell 3
          have q4 := D1.cell 4
          have q5 := D1.cell 5
          have q6 := D1.cell 6
          have q7 := D1.cell 7
          have q8 := D1.cell 8
          simp only [ActV.cells, EvV.cells, List.getElem?_toArray, List.getElem?_cons_zero, List.getElem?_cons_succ] at q0 q1 q2 q3 q4 q5 q6 q7 q8
          clear C0 C1 C2 C3 hX2
          go_wp2_with fail
          refine wp_region_sch (RS ((fun x => x = gA ∨ x = gE))) 5 [(0, true), (1, true), (2, false), (3, false), (4, true)] (by kernel_rfl) (by kernel_rfl) RS.refl RS.trans (fun _ _ d _ _ h => by cases d <;> exact h) ?_
          refine wpSch_q ?_ rfl rfl (fun w' hR => ?_) ?_
          rotate_left
          · (obtain ⟨hRs, hRc⟩ := hR; (try have hRd := fun o => hRc _ o rfl (by first | (simp; done) | (simp; omega) | omega)); (try have hRe := fun o => hRc _ o (Or.inl rfl) (by first | (simp; done) | (simp; omega) | omega)); (try have hRf := fun o => hRc _ o (Or.inr rfl) (by first | (simp; done) | (simp; omega) | omega)); (try have hRg := fun o => hRc _ o (Or.inr (Or.inl rfl)) (by first | (simp; done) | (simp; omega) | omega)); (try have hRh := fun o => hRc _ o (Or.inr (Or.inr rfl)) (by first | (simp; done) | (simp; omega) | omega)); go_simp; first | rfl | rw [if_neg (by simp; omega)] | rw [if_neg (by omega)])
          (try simp only [Act.put, List.setIfInBounds_toArray, List.set_cons_zero, List.set_cons_succ])
          refine wpSch_q ?_ rfl rfl (fun w' hR => ?_) ?_
          rotate_left
          · (obtain ⟨hRs, hRc⟩ := hR; (try have hRd := fun o => hRc _ o rfl (by first | (simp; done) | (simp; omega) | omega)); (try have hRe := fun o => hRc _ o (Or.inl rfl) (by first | (simp; done) | (simp; omega) | omega)); (try have hRf := fun o => hRc _ o (Or.inr rfl) (by first | (simp; done) | (simp; omega) | omega)); (try have hRg := fun o => hRc _ o (Or.inr (Or.inl rfl)) (by first | (simp; done) | (simp; omega) | omega)); (try have hRh := fun o => hRc _ o (Or.inr (Or.inr rfl)) (by first | (simp; done) | (simp; omega) | omega)); go_simp; first | rfl | rw [if_neg (by simp; omega)] | rw [if_neg (by omega)])
          (try simp only [Act.put, List.setIfInBounds_toArray, List.set_cons_zero, List.set_cons_succ])
          refine wpSch_e rfl rfl (fun K hK => ?_)
          go_simp
          refine hK _ _ (fun _ => RS.put10 w4 (fun h => by omega) _ _ _ _ _ _ _ _ _ _) ?_
          clear hK K
          (try simp only [Act.put, List.setIfInBounds_toArray, List.set_cons_zero, List.set_cons_succ])
          skip
          refine wpSch_e rfl rfl (fun K hK => ?_)
          go_simp
          refine hK _ _ (fun _ => RS.put9 _ (fun h => by omega) _ _ _ _ _ _ _ _ _) ?_
          clear hK K
          (try simp only [Act.put, List.setIfInBounds_toArray, List.set_cons_zero, List.set_cons_succ])
          skip
          refine wpSch_q ?_ rfl rfl (fun w' hR => ?_) ?_
          rotate_left
          · (go_simp; first | rfl | rw [if_neg (by simp; omega)] | rw [if_neg (by omega)])
          (try simp only [Act.put, List.setIfInBounds_toArray, List.set_cons_zero, List.set_cons_succ])
          refine wpSch_nil ?_
          (try simp only [Exit.then]); (try go_at_K); (try dsimp only); (repeat (first | go_values | go_skip | go_guarded | go_step | go_upon)); (try simp only [Exit.inBlock, Exit.then])
          refine ret_AET rfl rfl (x0 := fa) ((F2.put10 _ _ _ _ _ _ _ _ _ _).fr (Fr.put9 (S := fun x => x ≠ S + 1 + 1 + 1) (Fr.refl _) (g := S + 1 + 1 + 1) (fun h => h rfl) _ _ _ _ _ _ _ _ _) (by omega)).drew rfl (x1 := fe) ((F3.fr (Fr.put10 (S := fun x => x ≠ S + 1 + 1) (Fr.refl w4) (g := S + 1 + 1) (fun h => h rfl) _ _ _ _ _ _ _ _ _ _) (by omega)).put9 _ _ _ _ _ _ _ _ _).drew rfl rfl ?_
          exact ⟨rfl, (Fr.ext (S := fun x => x < S) (Fr.put9 (Fr.put10 (Fr.of_ext hX4) (g := S + 1 + 1) (by omega) _ _ _ _ _ _ _ _ _ _) (g := S + 1 + 1 + 1) (by omega) _ _ _ _ _ _ _ _ _) (fun x h => by rw [← HS.out]; exact h)).trans' (Ext.dr _)⟩
        · refine wpTr_e rfl rfl (fun K hK => ?_)
          go_simp
          refine hK _ _ (fun _ => RS.alloc _) ?_
          clear hK K
          (try simp only [Act.put, List.setIfInBounds_toArray, List.set_cons_zero, List.set_cons_succ])
          obtain ⟨gA, hgA⟩ : ∃ g, x20.heap.size = g := ⟨_, rfl⟩
          rw [hgA]
          obtain ⟨x25, hx25⟩ : ∃ w, w = x20.alloc (.cells #[.int .i64 0, .int .i64 0, .int .i64 0, .int .i64 0, .int .i64 0, .int .i64 0, .int .i64 0, .int .i64 0, .int .i64 0, .int .i64 0] 40) := ⟨_, rfl⟩
          rw [← hx25]
          have hbx25 : Ext x20 x25 := by rw [hx25]; exact Ext.al _ _
          have bA : Box x25 gA 40 #[.int .i64 0, .int .i64 0, .int .i64 0, .int .i64 0, .int .i64 0, .int .i64 0, .int .i64 0, .int .i64 0, .int .i64 0, .int .i64 0] := by rw [hx25]; exact Box.new_at _ _ _ _ hgA.symm
          have hnebE : ¬ gE = gA := by have := bE.lt; omega
          have bE := bE.ext hbx25
          have hgegA : S + 1 + 1 + 1 < gA := by have := hE.size; omega
          have hE := hE.trans' hbx25
          clear hx25 hgA
          refine wpTr_e rfl rfl (fun K hK => ?_)
          go_simp
          refine (HF.out _).mono ?_
          rintro e x26 ⟨rfl, hbx26⟩
          refine hK _ _ (fun _ => RS.fr (S' := fun _ => True) (Fr.of_ext hbx26) (fun _ _ _ => trivial)) ?_
          clear hK K
          (try simp only [Act.put, List.setIfInBounds_toArray, List.set_cons_zero, List.set_cons_succ])
          dsimp only [ActV.cells, EvV.cells]
          have bE := bE.ext hbx26
          have bA := bA.ext hbx26
          have hE := hE.trans' hbx26
          refine wpTr_q ?_ rfl rfl (fun w' hR => ?_) ?_
          rotate_left
          · (go_simp; first | rfl | rw [if_neg (by simp; omega)] | rw [if_neg (by omega)])
          (try simp only [Act.put, List.setIfInBounds_toArray, List.set_cons_zero, List.set_cons_succ])
          refine wpTr_q ?_ rfl rfl (fun w' hR => ?_) ?_
          rotate_left
          · (go_simp; first | rfl | rw [if_neg (by simp; omega)] | rw [if_neg (by omega)])
          (try simp only [Act.put, List.setIfInBounds_toArray, List.set_cons_zero, List.set_cons_succ])
          refine wpTr_q ?_ rfl rfl (fun w' hR => ?_) ?_
          rotate_left
          · (go_simp; first | rfl | rw [if_neg (by simp; omega)] | rw [if_neg (by omega)])
          (try simp only [Act.put, List.setIfInBounds_toArray, List.set_cons_zero, List.set_cons_succ])
          have hlA := bA.frozen
          have hlE := bE.frozen
          have hAE : ¬ gA = gE := by omega
          have hEA : ¬ gE = gA := by omega
          have p0 := bA.cell 0
          have p1 := bA.cell 1
          have p2 := bA.cell 2
          have p3 := bA.cell 3
          have p4 := bA.cell 4
          have p5 := bA.cell 5
          have p6 := bA.cell 6
          have p7 := bA.cell 7
          have p8 := bA.cell 8
          have p9 := bA.cell 9
          simp only [List.getElem?_toArray, List.getElem?_cons_zero, List.getElem?_cons_succ] at p0 p1 p2 p3 p4 p5 p6 p7 p8 p9
          have q0 := bE.cell 0
          have q1 := bE.cell 1
          have q2 := bE.cell 2
          have q3 := bE.cell 3
          have q4 := bE.cell 4
          have q5 := bE.cell 5
          have q6 := bE.cell 6
          have q7 := bE.cell 7
          have q8 := bE.cell 8
          simp only [List.getElem?_toArray, List.getElem?_cons_zero, List.getElem?_cons_succ] at q0 q1 q2 q3 q4 q5 q6 q7 q8
          refine wpTr_e rfl rfl (fun K hK => ?_)
          go_simp
          refine hK _ _ (fun _ => RS.fr (S' := fun x => x ≠ gA) (Fr.put10 (Fr.refl x26) (g := gA) (fun k => k rfl) _ _ _ _ _ _ _ _ _ _) (fun x _ h => by rcases h with rfl | rfl <;> omega)) ?_
          clear hK K
          (try simp only [Act.put, List.setIfInBounds_toArray, List.set_cons_zero, List.set_cons_succ])
          refine wpTr_e rfl rfl (fun K hK => ?_)
          go_simp
          refine hK _ _ (fun h => absurd rfl h) ?_
          clear hK K
          (try simp only [Act.put, List.setIfInBounds_toArray, List.set_cons_zero, List.set_cons_succ])
          refine wpTr_done ?_
          clear p0 p1 p2 p3 p4 p5 p6 p7 p8 p9 q0 q1 q2 q3 q4 q5 q6 q7 q8 hlA hlE
          obtain ⟨w4, hw4⟩ : ∃ w, w = (((((((((((((((((((x26.setCell ⟨gA, 0, none⟩ (.int .i64 fa.event)).setCell ⟨gA, 1, none⟩ (.int .i64 fa.opts)).setCell ⟨gA, 2, none⟩ (.int .i64 fa.input)).setCell ⟨gA, 3, none⟩ (.int .i64 fa.at_)).setCell ⟨gA, 4, none⟩ (.int .i64 fa.attempt)).setCell ⟨gA, 5, none⟩ (.int .i64 fa.phase)).setCell ⟨gA, 6, none⟩ (.int .i64 fa.since)).setCell ⟨gA, 7, none⟩ (.int .i64 fa.beat)).setCell ⟨gA, 8, none⟩ (.int .i64 fa.detail)).setCell ⟨gA, 9, none⟩ (.int .i64 fa.again)).setCell ⟨gE, 0, none⟩ (.int .i64 0)).setCell ⟨gE, 1, none⟩ (.int .i64 0)).setCell ⟨gE, 2, none⟩ (.int .i64 fe.kind)).setCell ⟨gE, 3, none⟩ (.int .i64 fe.a)).setCell ⟨gE, 4, none⟩ (.int .i64 fe.b)).setCell ⟨gE, 5, none⟩ (.int .i64 fe.c)).setCell ⟨gE, 6, none⟩ (.int .i64 0)).setCell ⟨gE, 7, none⟩ (.int .i64 0)).setCell ⟨gE, 8, none⟩ (.int .i64 0)) := ⟨_, rfl⟩
          rw [← hw4]
          have D0 : Box w4 gA 40 fa.cells := by rw [hw4]; exact (bA.put10 _ _ _ _ _ _ _ _ _ _).fr (Fr.put9 (S := fun x => x ≠ gE) (Fr.refl _) (g := gE) (fun h => h rfl) _ _ _ _ _ _ _ _ _) hAE
          have D1 : Box w4 gE 51 fe.cells := by rw [hw4]; exact (bE.fr (Fr.put10 (S := fun x => x ≠ gA) (Fr.refl _) (g := gA) (fun h => h rfl) _ _ _ _ _ _ _ _ _ _) hEA).put9 _ _ _ _ _ _ _ _ _
          have hF4 : Fr (fun x => x ≠ gA ∧ x ≠ gE) x26 w4 := by rw [hw4]; exact Fr.put9 (Fr.put10 (Fr.refl _) (g := gA) (fun h => h.1 rfl) _ _ _ _ _ _ _ _ _ _) (g := gE) (fun h => h.2 rfl) _ _ _ _ _ _ _ _ _
          have F2 := (C2.ext hE).fr hF4 ⟨by omega, by omega⟩
          have F3 := (C3.ext hE).fr hF4 ⟨by omega, by omega⟩
          have hz4 := hF4.size
          have hX4 : Ext w w4 := Fr.ext (S := fun x => x < S) ((Fr.of_ext (hX2.trans' hE)).step hF4 (fun x _ h => ⟨by omega, by omega⟩)) (fun x h => by rw [← HS.out]; exact h)
          clear hw4 hF4 bA bE HF HEND o0 o1 o2 o3 o4 o5 o6 o7 o8 o9 o10 o_f a0 a1 a2 a3 a4 a5 a6 a7 a8 a9
          have hlA := D0.lt
          have hlE := D1.lt
          have fR := F2.frozen
          have fE := F3.frozen
          have fa_ := D0.frozen
          have r0 := F2.cell 0
          have r1 := F2.cell 1
          have r2 := F2.cell 2
          have r3 := F2.cell 3
          have r4 := F2.cell 4
          have r5 := F2.cell 5
          have r6 := F2.cell 6
          have r7 := F2.cell 7
          have r8 := F2.cell 8
          have r9 := F2.cell 9
          simp only [ActV.cells, EvV.cells, List.getElem?_toArray, List.getElem?_cons_zero, List.getElem?_cons_succ] at r0 r1 r2 r3 r4 r5 r6 r7 r8 r9
          have e0 := F3.cell 0
          have e1 := F3.cell 1
          have e2 := F3.cell 2
          have e3 := F3.cell 3
          have e4 := F3.cell 4
          have e5 := F3.cell 5
          have e6 := F3.cell 6
          have e7 := F3.cell 7
          have e8 := F3.cell 8
          simp only [ActV.cells, EvV.cells, List.getElem?_toArray, List.getElem?_cons_zero, List.getElem?_cons_succ] at e0 e1 e2 e3 e4 e5 e6 e7 e8
          have p0 := D0.cell 0
          have p1 := D0.cell 1
          have p2 := D0.cell 2
          have p3 := D0.cell 3
          have p4 := D0.cell 4
          have p5 := D0.cell 5
          have p6 := D0.cell 6
          have p7 := D0.cell 7
          have p8 := D0.cell 8
          have p9 := D0.cell 9
          simp only [ActV.cells, EvV.cells, List.getElem?_toArray, List.getElem?_cons_zero, List.getElem?_cons_succ] at p0 p1 p2 p3 p4 p5 p6 p7 p8 p9
          have q0 := D1.cell 0
          have q1 := D1.cell 1
          have q2 := D1.cell 2
          have q3 := D1.cell 3
          have q4 := D1.cell 4
          have q5 := D1.cell 5
          have q6 := D1.cell 6
          have q7 := D1.cell 7
          have q8 := D1.cell 8
          simp only [ActV.cells, EvV.cells, List.getElem?_toArray, List.getElem?_cons_zero, List.getElem?_cons_succ] at q0 q1 q2 q3 q4 q5 q6 q7 q8
          clear C0 C1 C2 C3 hX2
          go_wp2_with fail
          refine wp_region_sch (RS ((fun x => x = gA ∨ x = gE))) 5 [(0, true), (1, true), (2, false), (3, false), (4, true)] (by kernel_rfl) (by kernel_rfl) RS.refl RS.trans (fun _ _ d _ _ h => by cases d <;> exact h) ?_
          refine wpSch_q ?_ rfl rfl (fun w' hR => ?_) ?_
          rotate_left
          · (obtain ⟨hRs, hRc⟩ := hR; (try have hRd := fun o => hRc _ o rfl (by first | (simp; done) | (simp; omega) | omega)); (try have hRe := fun o => hRc _ o (Or.inl rfl) (by first | (simp; done) | (simp; omega) | omega)); (try have hRf := fun o => hRc _ o (Or.inr rfl) (by first | (simp; done) | (simp; omega) | omega)); (try have hRg := fun o => hRc _ o (Or.inr (Or.inl rfl)) (by first | (simp; done) | (simp; omega) | omega)); (try have hRh := fun o => hRc _ o (Or.inr (Or.inr rfl)) (by first | (simp; done) | (simp; omega) | omega)); go_simp; first | rfl | rw [if_neg (by simp; omega)] | rw [if_neg (by omega)])
          (try simp only [Act.put, List.setIfInBounds_toArray, List.set_cons_zero, List.set_cons_succ])
          refine wpSch_q ?_ rfl rfl (fun w' hR => ?_) ?_
          rotate_left
          · (obtain ⟨hRs, hRc⟩ := hR; (try have hRd := fun o => hRc _ o rfl (by first | (simp; done) | (simp; omega) | omega)); (try have hRe := fun o => hRc _ o (Or.inl rfl) (by first | (simp; done) | (simp; omega) | omega)); (try have hRf := fun o => hRc _ o (Or.inr rfl) (by first | (simp; done) | (simp; omega) | omega)); (try have hRg := fun o => hRc _ o (Or.inr (Or.inl rfl)) (by first | (simp; done) | (simp; omega) | omega)); (try have hRh := fun o => hRc _ o (Or.inr (Or.inr rfl)) (by first | (simp; done) | (simp; omega) | omega)); go_simp; first | rfl | rw [if_neg (by simp; omega)] | rw [if_neg (by omega)])
          (try simp only [Act.put, List.setIfInBounds_toArray, List.set_cons_zero, List.set_cons_succ])
          refine wpSch_e rfl rfl (fun K hK => ?_)
          go_simp
          refine hK _ _ (fun _ => RS.put10 w4 (fun h => by omega) _ _ _ _ _ _ _ _ _ _) ?_
          clear hK K
          (try simp only [Act.put, List.setIfInBounds_toArray, List.set_cons_zero, List.set_cons_succ])
          skip
          refine wpSch_e rfl rfl (fun K hK => ?_)
          go_simp
          refine hK _ _ (fun _ => RS.put9 _ (fun h => by omega) _ _ _ _ _ _ _ _ _) ?_
          clear hK K
          (try simp only [Act.put, List.setIfInBounds_toArray, List.set_cons_zero, List.set_cons_succ])
          skip
          refine wpSch_q ?_ rfl rfl (fun w' hR => ?_) ?_
          rotate_left
          · (go_simp; first | rfl | rw [if_neg (by simp; omega)] | rw [if_neg (by omega)])
          (try simp only [Act.put, List.setIfInBounds_toArray, List.set_cons_zero, List.set_cons_succ])
          refine wpSch_nil ?_
          (try simp only [Exit.then]); (try go_at_K); (try dsimp only); (repeat (first | go_values | go_skip | go_guarded | go_step | go_upon)); (try simp only [Exit.inBlock, Exit.then])
          refine ret_AET rfl rfl (x0 := fa) ((F2.put10 _ _ _ _ _ _ _ _ _ _).fr (Fr.put9 (S := fun x => x ≠ S + 1 + 1 + 1) (Fr.refl _) (g := S + 1 + 1 + 1) (fun h => h rfl) _ _ _ _ _ _ _ _ _) (by omega)).drew rfl (x1 := fe) ((F3.fr (Fr.put10 (S := fun x => x ≠ S + 1 + 1) (Fr.refl w4) (g := S + 1 + 1) (fun h => h rfl) _ _ _ _ _ _ _ _ _ _) (by omega)).put9 _ _ _ _ _ _ _ _ _).drew rfl rfl ?_
          exact ⟨rfl, (Fr.ext (S := fun x => x < S) (Fr.put9 (Fr.put10 (Fr.of_ext hX4) (g := S + 1 + 1) (by omega) _ _ _ _ _ _ _ _ _ _) (g := S + 1 + 1 + 1) (by omega) _ _ _ _ _ _ _ _ _) (fun x h => by rw [← HS.out]; exact h)).trans' (Ext.dr _)⟩
    · refine wpTr_e rfl rfl (fun K hK => ?_)
      go_simp
      refine hK _ _ (fun _ => RS.alloc _) ?_
      clear hK K
      (try simp only [Act.put, List.setIfInBounds_toArray, List.set_cons_zero, List.set_cons_succ])
      obtain ⟨gA, hgA⟩ : ∃ g, w3.heap.size = g := ⟨_, rfl⟩
      rw [hgA]
      obtain ⟨x29, hx29⟩ : ∃ w, w = w3.alloc (.cells #[.int .i64 0, .int .i64 0, .int .i64 0, .int .i64 0, .int .i64 0, .int .i64 0, .int .i64 0, .int .i64 0, .int .i64 0, .int .i64 0] 40) := ⟨_, rfl⟩
      rw [← hx29]
      have hbx29 : Ext w3 x29 := by rw [hx29]; exact Ext.al _ _
      have bA : Box x29 gA 40 #[.int .i64 0, .int .i64 0, .int .i64 0, .int .i64 0, .int .i64 0, .int .i64 0, .int .i64 0, .int .i64 0, .int .i64 0, .int .i64 0] := by rw [hx29]; exact Box.new_at _ _ _ _ hgA.symm
      have hgegA : S + 1 + 1 + 1 < gA := by have := hE.size; omega
      have hE := hE.trans' hbx29
      clear hx29 hgA
      refine wpTr_fork ?_ ?_
      · refine wpTr_e rfl rfl (fun K hK => ?_)
        go_simp
        refine (HEND.out _).mono ?_
        rintro e x30 ⟨rfl, hbx30⟩
        refine hK _ _ (fun _ => RS.fr (S' := fun _ => True) (Fr.of_ext hbx30) (fun _ _ _ => trivial)) ?_
        clear hK K
        (try simp only [Act.put, List.setIfInBounds_toArray, List.set_cons_zero, List.set_cons_succ])
        have bA := bA.ext hbx30
        have hE := hE.trans' hbx30
        refine wpTr_fork ?_ ?_
        · refine wpTr_e rfl rfl (fun K hK => ?_)
          go_simp
          refine (HF.out _).mono ?_
          rintro e x31 ⟨rfl, hbx31⟩
          refine hK _ _ (fun _ => RS.fr (S' := fun _ => True) (Fr.of_ext hbx31) (fun _ _ _ => trivial)) ?_
          clear hK K
          (try simp only [Act.put, List.setIfInBounds_toArray, List.set_cons_zero, List.set_cons_succ])
          dsimp only [ActV.cells, EvV.cells]
          have bA := bA.ext hbx31
          have hE := hE.trans' hbx31
          refine wpTr_q ?_ rfl rfl (fun w' hR => ?_) ?_
          rotate_left
          · (go_simp; first | rfl | rw [if_neg (by simp; omega)] | rw [if_neg (by omega)])
          (try simp only [Act.put, List.setIfInBounds_toArray, List.set_cons_zero, List.set_cons_succ])
          refine wpTr_q ?_ rfl rfl (fun w' hR => ?_) ?_
          rotate_left
          · (go_simp; first | rfl | rw [if_neg (by simp; omega)] | rw [if_neg (by omega)])
          (try simp only [Act.put, List.setIfInBounds_toArray, List.set_cons_zero, List.set_cons_succ])
          refine wpTr_q ?_ rfl rfl (fun w' hR => ?_) ?_
          rotate_left
          · (go_simp; first | rfl | rw [if_neg (by simp; omega)] | rw [if_neg (by omega)])
          (try simp only [Act.put, List.setIfInBounds_toArray, List.set_cons_zero, List.set_cons_succ])
          refine wpTr_e rfl rfl (fun K hK => ?_)
          go_simp
          refine hK _ _ (fun _ => RS.alloc _) ?_
          clear hK K
          (try simp only [Act.put, List.setIfInBounds_toArray, List.set_cons_zero, List.set_cons_succ])
          obtain ⟨gE, hgE⟩ : ∃ g, x31.heap.size = g := ⟨_, rfl⟩
          rw [hgE]
          obtain ⟨x32, hx32⟩ : ∃ w, w = x31.alloc (.cells #[.int .i64 0, .int .i64 0, .int .i64 0, .int .i64 0, .int .i64 0, .int .i64 0, .int .i64 0, .int .i64 0, .int .i64 0] 51) := ⟨_, rfl⟩
          rw [← hx32]
          have hbx32 : Ext x31 x32 := by rw [hx32]; exact Ext.al _ _
          have bE : Box x32 gE 51 #[.int .i64 0, .int .i64 0, .int .i64 0, .int .i64 0, .int .i64 0, .int .i64 0, .int .i64 0, .int .i64 0, .int .i64 0] := by rw [hx32]; exact Box.new_at _ _ _ _ hgE.symm
          have hnebA : ¬ gA = gE := by have := bA.lt; omega
          have bA := bA.ext hbx32
          have hgegE : S + 1 + 1 + 1 < gE := by have := hE.size; omega
          have hE := hE.trans' hbx32
          clear hx32 hgE
          have hlA := bA.frozen
          have hlE := bE.frozen
          have hAE : ¬ gA = gE := by omega
          have hEA : ¬ gE = gA := by omega
          have p0 := bA.cell 0
          have p1 := bA.cell 1
          have p2 := bA.cell 2
          have p3 := bA.cell 3
          have p4 := bA.cell 4
          have p5 := bA.cell 5
          have p6 := bA.cell 6
          have p7 := bA.cell 7
          have p8 := bA.cell 8
          have p9 := bA.cell 9
          simp only [List.getElem?_toArray, List.getElem?_cons_zero, List.getElem?_cons_succ] at p0 p1 p2 p3 p4 p5 p6 p7 p8 p9
          have q0 := bE.cell 0
          have q1 := bE.cell 1
          have q2 := bE.cell 2
          have q3 := bE.cell 3
          have q4 := bE.cell 4
          have q5 := bE.cell 5
          have q6 := bE.cell 6
          have q7 := bE.cell 7
          have q8 := bE.cell 8
          simp only [List.getElem?_toArray, List.getElem?_cons_zero, List.getElem?_cons_succ] at q0 q1 q2 q3 q4 q5 q6 q7 q8
          refine wpTr_e rfl rfl (fun K hK => ?_)
          go_simp
          refine hK _ _ (fun _ => RS.fr (S' := fun x => x ≠ gA) (Fr.put10 (Fr.refl x32) (g := gA) (fun k => k rfl) _ _ _ _ _ _ _ _ _ _) (fun x _ h => by rcases h with rfl | rfl <;> omega)) ?_
          clear hK K
          (try simp only [Act.put, List.setIfInBounds_toArray, List.set_cons_zero, List.set_cons_succ])
          refine wpTr_e rfl rfl (fun K hK => ?_)
          go_simp
          refine hK _ _ (fun h => absurd rfl h) ?_
          clear hK K
          (try simp only [Act.put, List.setIfInBounds_toArray, List.set_cons_zero, List.set_cons_succ])
          refine wpTr_done ?_
          clear p0 p1 p2 p3 p4 p5 p6 p7 p8 p9 q0 q1 q2 q3 q4 q5 q6 q7 q8 hlA hlE
          obtain ⟨w4, hw4⟩ : ∃ w, w = (((((((((((((((((((x32.setCell ⟨gA, 0, none⟩ (.int .i64 fa.event)).setCell ⟨gA, 1, none⟩ (.int .i64 fa.opts)).setCell ⟨gA, 2, none⟩ (.int .i64 fa.input)).setCell ⟨gA, 3, none⟩ (.int .i64 fa.at_)).setCell ⟨gA, 4, none⟩ (.int .i64 fa.attempt)).setCell ⟨gA, 5, none⟩ (.int .i64 fa.phase)).setCell ⟨gA, 6, none⟩ (.int .i64 fa.since)).setCell ⟨gA, 7, none⟩ (.int .i64 fa.beat)).setCell ⟨gA, 8, none⟩ (.int .i64 fa.detail)).setCell ⟨gA, 9, none⟩ (.int .i64 fa.again)).setCell ⟨gE, 0, none⟩ (.int .i64 0)).setCell ⟨gE, 1, none⟩ (.int .i64 0)).setCell ⟨gE, 2, none⟩ (.int .i64 fe.kind)).setCell ⟨gE, 3, none⟩ (.int .i64 fe.a)).setCell ⟨gE, 4, none⟩ (.int .i64 fe.b)).setCell ⟨gE, 5, none⟩ (.int .i64 fe.c)).setCell ⟨gE, 6, none⟩ (.int .i64 0)).setCell ⟨gE, 7, none⟩ (.int .i64 0)).setCell ⟨gE, 8, none⟩ (.int .i64 0)) := ⟨_, rfl⟩
          rw [← hw4]
          have D0 : Box w4 gA 40 fa.cells := by rw [hw4]; exact (bA.put10 _ _ _ _ _ _ _ _ _ _).fr (Fr.put9 (S := fun x => x ≠ gE) (Fr.refl _) (g := gE) (fun h => h rfl) _ _ _ _ _ _ _ _ _) hAE
          have D1 : Box w4 gE 51 fe.cells := by rw [hw4]; exact (bE.fr (Fr.put10 (S := fun x => x ≠ gA) (Fr.refl _) (g := gA) (fun h => h rfl) _ _ _ _ _ _ _ _ _ _) hEA).put9 _ _ _ _ _ _ _ _ _
          have hF4 : Fr (fun x => x ≠ gA ∧ x ≠ gE) x32 w4 := by rw [hw4]; exact Fr.put9 (Fr.put10 (Fr.refl _) (g := gA) (fun h => h.1 rfl) _ _ _ _ _ _ _ _ _ _) (g := gE) (fun h => h.2 rfl) _ _ _ _ _ _ _ _ _
          have F2 := (C2.ext hE).fr hF4 ⟨by omega, by omega⟩
          have F3 := (C3.ext hE).fr hF4 ⟨by omega, by omega⟩
          have hz4 := hF4.size
          have hX4 : Ext w w4 := Fr.ext (S := fun x => x < S) ((Fr.of_ext (hX2.trans' hE)).step hF4 (fun x _ h => ⟨by omega, by omega⟩)) (fun x h => by rw [← HS.out]; exact h)
          clear hw4 hF4 bA bE HF HEND o0 o1 o2 o3 o4 o5 o6 o7 o8 o9 o10 o_f a0 a1 a2 a3 a4 a5 a6 a7 a8 a9
          have hlA := D0.lt
          have hlE := D1.lt
          have fR := F2.frozen
          have fE := F3.frozen
          have fa_ := D0.frozen
          have r0 := F2.cell 0
          have r1 := F2.cell 1
          have r2 := F2.cell 2
          have r3 := F2.cell 3
          have r4 := F2.cell 4
          have r5 := F2.cell 5
          have r6 := F2.cell 6
          have r7 := F2.cell 7
          have r8 := F2.cell 8
          have r9 := F2.cell 9
          simp only [ActV.cells, EvV.cells, List.getElem?_toArray, List.getElem?_cons_zero, List.getElem?_cons_succ] at r0 r1 r2 r3 r4 r5 r6 r7 r8 r9
          have e0 := F3.cell 0
          have e1 := F3.cell 1
          have e2 := F3.cell 2
          have e3 := F3.cell 3
          have e4 := F3.cell 4
          have e5 := F3.cell 5
          have e6 := F3.cell 6
          have e7 := F3.cell 7
          have e8 := F3.cell 8
          simp only [ActV.cells, EvV.cells, List.getElem?_toArray, List.getElem?_cons_zero, List.getElem?_cons_succ] at e0 e1 e2 e3 e4 e5 e6 e7 e8
          have p0 := D0.cell 0
          have p1 := D0.cell 1
          have p2 := D0.cell 2
          have p3 := D0.cell 3
          have p4 := D0.cell 4
          have p5 := D0.cell 5
          have p6 := D0.cell 6
          have p7 := D0.cell 7
          have p8 := D0.cell 8
          have p9 := D0.cell 9
          simp only [ActV.cells, EvV.cells, List.getElem?_toArray, List.getElem?_cons_zero, List.getElem?_cons_succ] at p0 p1 p2 p3 p4 p5 p6 p7 p8 p9
          have q0 := D1.cell 0
          have q1 := D1.cell 1
          have q2 := D1.cell 2
          have q3 := D1.cell 3
          have q4 := D1.cell 4
          have q5 := D1.cell 5
          have q6 := D1.cell 6
          have q7 := D1.cell 7
          have q8 := D1.cell 8
          simp only [ActV.cells, EvV.cells, List.getElem?_toArray, List.getElem?_cons_zero, List.getElem?_cons_succ] at q0 q1 q2 q3 q4 q5 q6 q7 q8
          clear C0 C1 C2 C3 hX2
          go_wp2_with fail
          refine wp_region_sch (RS ((fun x => x = gA ∨ x = gE))) 5 [(0, true), (1, true), (2, false), (3, false), (4, true)] (by kernel_rfl) (by kernel_rfl) RS.refl RS.trans (fun _ _ d _ _ h => by cases d <;> exact h) ?_
          refine wpSch_q ?_ rfl rfl (fun w' hR => ?_) ?_
          rotate_left
          · (obtain ⟨hRs, hRc⟩ := hR; (try have hRd := fun o => hRc _ o rfl (by first | (simp; done) | (simp; omega) | omega)); (try have hRe := fun o => hRc _ o (Or.inl rfl) (by first | (simp; done) | (simp; omega) | omega)); (try have hRf := fun o => hRc _ o (Or.inr rfl) (by first | (simp; done) | (simp; omega) | omega)); (try have hRg := fun o => hRc _ o (Or.inr (Or.inl rfl)) (by first | (simp; done) | (simp; omega) | omega)); (try have hRh := fun o => hRc _ o (Or.inr (Or.inr rfl)) (by first | (simp; done) | (simp; omega) | omega)); go_simp; first | rfl | rw [if_neg (by simp; omega)] | rw [if_neg (by omega)])
          (try simp only [Act.put, List.setIfInBounds_toArray, List.set_cons_zero, List.set_cons_succ])
          refine wpSch_q ?_ rfl rfl (fun w' hR => ?_) ?_
          rotate_left
          · (obtain ⟨hRs, hRc⟩ := hR; (try have hRd := fun o => hRc _ o rfl (by first | (simp; done) | (simp; omega) | omega)); (try have hRe := fun o => hRc _ o (Or.inl rfl) (by first | (simp; done) | (simp; omega) | omega)); (try have hRf := fun o => hRc _ o (Or.inr rfl) (by first | (simp; done) | (simp; omega) | omega)); (try have hRg := fun o => hRc _ o (Or.inr (Or.inl rfl)) (by first | (simp; done) | (simp; omega) | omega)); (try have hRh := fun o => hRc _ o (Or.inr (Or.inr rfl)) (by first | (simp; done) | (simp; omega) | omega)); go_simp; first | rfl | rw [if_neg (by simp; omega)] | rw [if_neg (by omega)])
          (try simp only [Act.put, List.setIfInBounds_toArray, List.set_cons_zero, List.set_cons_succ])
          refine wpSch_e rfl rfl (fun K hK => ?_)
          go_simp
          refine hK _ _ (fun _ => RS.put10 w4 (fun h => by omega) _ _ _ _ _ _ _ _ _ _) ?_
          clear hK K
          (try simp only [Act.put, List.setIfInBounds_toArray, List.set_cons_zero, List.set_cons_succ])
          skip
          refine wpSch_e rfl rfl (fun K hK => ?_)
          go_simp
          refine hK _ _ (fun _ => RS.put9 _ (fun h => by omega) _ _ _ _ _ _ _ _ _) ?_
          clear hK K
          (try simp only [Act.put, List.setIfInBounds_toArray, List.set_cons_zero, List.set_cons_succ])
          skip
          refine wpSch_q ?_ rfl rfl (fun w' hR => ?_) ?_
          rotate_left
          · (go_simp; first | rfl | rw [if_neg (by simp; omega)] | rw [if_neg (by omega)])
          (try simp only [Act.put, List.setIfInBounds_toArray, List.set_cons_zero, List.set_cons_succ])
          refine wpSch_nil ?_
          (try simp only [Exit.then]); (try go_at_K); (try dsimp only); (repeat (first | go_values | go_skip | go_guarded | go_step | go_upon)); (try simp only [Exit.inBlock, Exit.then])
          refine ret_AET rfl rfl (x0 := fa) ((F2.put10 _ _ _ _ _ _ _ _ _ _).fr (Fr.put9 (S := fun x => x ≠ S + 1 + 1 + 1) (Fr.refl _) (g := S + 1 + 1 + 1) (fun h => h rfl) _ _ _ _ _ _ _ _ _) (by omega)).drew rfl (x1 := fe) ((F3.fr (Fr.put10 (S := fun x => x ≠ S + 1 + 1) (Fr.refl w4) (g := S + 1 + 1) (fun h => h rfl) _ _ _ _ _ _ _ _ _ _) (by omega)).put9 _ _ _ _ _ _ _ _ _).drew rfl rfl ?_
          exact ⟨rfl, (Fr.ext (S := fun x => x < S) (Fr.put9 (Fr.put10 (Fr.of_ext hX4) (g := S + 1 + 1) (by omega) _ _ _ _ _ _ _ _ _ _) (g := S + 1 + 1 + 1) (by omega) _ _ _ _ _ _ _ _ _) (fun x h => by rw [← HS.out]; exact h)).trans' (Ext.dr _)⟩
        · refine wpTr_e rfl rfl (fun K hK => ?_)
          go_simp
          refine hK _ _ (fun _ => RS.alloc _) ?_
          clear hK K
          (try simp only [Act.put, List.setIfInBounds_toArray, List.set_cons_zero, List.set_cons_succ])
          obtain ⟨gE, hgE⟩ : ∃ g, x30.heap.size = g := ⟨_, rfl⟩
          rw [hgE]
          obtain ⟨x35, hx35⟩ : ∃ w, w = x30.alloc (.cells #[.int .i64 0, .int .i64 0, .int .i64 0, .int .i64 0, .int .i64 0, .int .i64 0, .int .i64 0, .int .i64 0, .int .i64 0] 51) := ⟨_, rfl⟩
          rw [← hx35]
          have hbx35 : Ext x30 x35 := by rw [hx35]; exact Ext.al _ _
          have bE : Box x35 gE 51 #[.int .i64 0, .int .i64 0, .int .i64 0, .int .i64 0, .int .i64 0, .int .i64 0, .int .i64 0, .int .i64 0, .int .i64 0] := by rw [hx35]; exact Box.new_at _ _ _ _ hgE.symm
          have hnebA : ¬ gA = gE := by have := bA.lt; omega
          have bA := bA.ext hbx35
          have hgegE : S + 1 + 1 + 1 < gE := by have := hE.size; omega
          have hE := hE.trans' hbx35
          clear hx35 hgE
          refine wpTr_e rfl rfl (fun K hK => ?_)
          go_simp
          refine (HF.out _).mono ?_
          rintro e x36 ⟨rfl, hbx36⟩
          refine hK _ _ (fun _ => RS.fr (S' := fun _ => True) (Fr.of_ext hbx36) (fun _ _ _ => trivial)) ?_
          clear hK K
          (try simp only [Act.put, List.setIfInBounds_toArray, List.set_cons_zero, List.set_cons_succ])
          dsimp only [ActV.cells, EvV.cells]
          have bA := bA.ext hbx36
          have bE := bE.ext hbx36
          have hE := hE.trans' hbx36
          refine wpTr_q ?_ rfl rfl (fun w' hR => ?_) ?_
          rotate_left
          · (go_simp; first | rfl | rw [if_neg (by simp; omega)] | rw [if_neg (by omega)])
          (try simp only [Act.put, List.setIfInBounds_toArray, List.set_cons_zero, List.set_cons_succ])
          refine wpTr_q ?_ rfl rfl (fun w' hR => ?_) ?_
          rotate_left
          · (go_simp; first | rfl | rw [if_neg (by simp; omega)] | rw [if_neg (by omega)])
          (try simp only [Act.put, List.setIfInBounds_toArray, List.set_cons_zero, List.set_cons_succ])
          refine wpTr_q ?_ rfl rfl (fun w' hR => ?_) ?_
          rotate_left
          · (go_simp; first | rfl | rw [if_neg (by simp; omega)] | rw [if_neg (by omega)])
          (try simp only [Act.put, List.setIfInBounds_toArray, List.set_cons_zero, List.set_cons_succ])
          have hlA := bA.frozen
          have hlE := bE.frozen
          have hAE : ¬ gA = gE := by omega
          have hEA : ¬ gE = gA := by omega
          have p0 := bA.cell 0
          have p1 := bA.cell 1
          have p2 := bA.cell 2
          have p3 := bA.cell 3
          have p4 := bA.cell 4
          have p5 := bA.cell 5
          have p6 := bA.cell 6
          have p7 := bA.cell 7
          have p8 := bA.cell 8
          have p9 := bA.cell 9
          simp only [List.getElem?_toArray, List.getElem?_cons_zero, List.getElem?_cons_succ] at p0 p1 p2 p3 p4 p5 p6 p7 p8 p9
          have q0 := bE.cell 0
          have q1 := bE.cell 1
          have q2 := bE.cell 2
          have q3 := bE.cell 3
          have q4 := bE.cell 4
          have q5 := bE.cell 5
          have q6 := bE.cell 6
          have q7 := bE.cell 7
          have q8 := bE.cell 8
          simp only [List.getElem?_toArray, List.getElem?_cons_zero, List.getElem?_cons_succ] at q0 q1 q2 q3 q4 q5 q6 q7 q8
          refine wpTr_e rfl rfl (fun K hK => ?_)
          go_simp
          refine hK _ _ (fun _ => RS.fr (S' := fun x => x ≠ gA) (Fr.put10 (Fr.refl x36) (g := gA) (fun k => k rfl) _ _ _ _ _ _ _ _ _ _) (fun x _ h => by rcases h with rfl | rfl <;> omega)) ?_
          clear hK K
          (try simp only [Act.put, List.setIfInBounds_toArray, List.set_cons_zero, List.set_cons_succ])
          refine wpTr_e rfl rfl (fun K hK => ?_)
          go_simp
          refine hK _ _ (fun h => absurd rfl h) ?_
          clear hK K
          (try simp only [Act.put, List.setIfInBounds_toArray, List.set_cons_zero, List.set_cons_succ])
          refine wpTr_done ?_
          clear p0 p1 p2 p3 p4 p5 p6 p7 p8 p9 q0 q1 q2 q3 q4 q5 q6 q7 q8 hlA hlE
          obtain ⟨w4, hw4⟩ : ∃ w, w = (((((((((((((((((((x36.setCell ⟨gA, 0, none⟩ (.int .i64 fa.event)).setCell ⟨gA, 1, none⟩ (.int .i64 fa.opts)).setCell ⟨gA, 2, none⟩ (.int .i64 fa.input)).setCell ⟨gA, 3, none⟩ (.int .i64 fa.at_)).setCell ⟨gA, 4, none⟩ (.int .i64 fa.attempt)).setCell ⟨gA, 5, none⟩ (.int .i64 fa.phase)).setCell ⟨gA, 6, none⟩ (.int .i64 fa.since)).setCell ⟨gA, 7, none⟩ (.int .i64 fa.beat)).setCell ⟨gA, 8, none⟩ (.int .i64 fa.detail)).setCell ⟨gA, 9, none⟩ (.int .i64 fa.again)).setCell ⟨gE, 0, none⟩ (.int .i64 0)).setCell ⟨gE, 1, none⟩ (.int .i64 0)).setCell ⟨gE, 2, none⟩ (.int .i64 fe.kind)).setCell ⟨gE, 3, none⟩ (.int .i64 fe.a)).setCell ⟨gE, 4, none⟩ (.int .i64 fe.b)).setCell ⟨gE, 5, none⟩ (.int .i64 fe.c)).setCell ⟨gE, 6, none⟩ (.int .i64 0)).setCell ⟨gE, 7, none⟩ (.int .i64 0)).setCell ⟨gE, 8, none⟩ (.int .i64 0)) := ⟨_, rfl⟩
          rw [← hw4]
          have D0 : Box w4 gA 40 fa.cells := by rw [hw4]; exact (bA.put10 _ _ _ _ _ _ _ _ _ _).fr (Fr.put9 (S := fun x => x ≠ gE) (Fr.refl _) (g := gE) (fun h => h rfl) _ _ _ _ _ _ _ _ _) hAE
          have D1 : Box w4 gE 51 fe.cells := by rw [hw4]; exact (bE.fr (Fr.put10 (S := fun x => x ≠ gA) (Fr.refl _) (g := gA) (fun h => h rfl) _ _ _ _ _ _ _ _ _ _) hEA).put9 _ _ _ _ _ _ _ _ _
          have hF4 : Fr (fun x => x ≠ gA ∧ x ≠ gE) x36 w4 := by rw [hw4]; exact Fr.put9 (Fr.put10 (Fr.refl _) (g := gA) (fun h => h.1 rfl) _ _ _ _ _ _ _ _ _ _) (g := gE) (fun h => h.2 rfl) _ _ _ _ _ _ _ _ _
          have F2 := (C2.ext hE).fr hF4 ⟨by omega, by omega⟩
          have F3 := (C3.ext hE).fr hF4 ⟨by omega, by omega⟩
          have hz4 := hF4.size
          have hX4 : Ext w w4 := Fr.ext (S := fun x => x < S) ((Fr.of_ext (hX2.trans' hE)).step hF4 (fun x _ h => ⟨by omega, by omega⟩)) (fun x h => by rw [← HS.out]; exact h)
          clear hw4 hF4 bA bE HF HEND o0 o1 o2 o3 o4 o5 o6 o7 o8 o9 o10 o_f a0 a1 a2 a3 a4 a5 a6 a7 a8 a9
          have hlA := D0.lt
          have hlE := D1.lt
          have fR := F2.frozen
          have fE := F3.frozen
          have fa_ := D0.frozen
          have r0 := F2.cell 0
          have r1 := F2.cell 1
          have r2 := F2.cell 2
          have r3 := F2.cell 3
          have r4 := F2.cell 4
          have r5 := F2.cell 5
          have r6 := F2.cell 6
          have r7 := F2.cell 7
          have r8 := F2.cell 8
          have r9 := F2.cell 9
          simp only [ActV.cells, EvV.cells, List.getElem?_toArray, List.getElem?_cons_zero, List.getElem?_cons_succ] at r0 r1 r2 r3 r4 r5 r6 r7 r8 r9
          have e0 := F3.cell 0
          have e1 := F3.cell 1
          have e2 := F3.cell 2
          have e3 := F3.cell 3
          have e4 := F3.cell 4
          have e5 := F3.cell 5
          have e6 := F3.cell 6
          have e7 := F3.cell 7
          have e8 := F3.cell 8
          simp only [ActV.cells, EvV.cells, List.getElem?_toArray, List.getElem?_cons_zero, List.getElem?_cons_succ] at e0 e1 e2 e3 e4 e5 e6 e7 e8
          have p0 := D0.cell 0
          have p1 := D0.cell 1
          have p2 := D0.cell 2
          have p3 := D0.cell 3
          have p4 := D0.cell 4
          have p5 := D0.cell 5
          have p6 := D0.cell 6
          have p7 := D0.cell 7
          have p8 := D0.cell 8
          have p9 := D0.cell 9
          simp only [ActV.cells, EvV.cells, List.getElem?_toArray, List.getElem?_cons_zero, List.getElem?_cons_succ] at p0 p1 p2 p3 p4 p5 p6 p7 p8 p9
          have q0 := D1.cell 0
          have q1 := D1.cell 1
          have q2 := D1.cell 2
          have q3 := D1.cell 3
          have q4 := D1.cell 4
          have q5 := D1.cell 5
          have q6 := D1.cell 6
          have q7 := D1.cell 7
          have q8 := D1.cell 8
          simp only [ActV.cells, EvV.cells, List.getElem?_toArray, List.getElem?_cons_zero, List.getElem?_cons_succ] at q0 q1 q2 q3 q4 q5 q6 q7 q8
          clear C0 C1 C2 C3 hX2
          go_wp2_with fail
          refine wp_region_sch (RS ((fun x => x = gA ∨ x = gE))) 5 [(0, true), (1, true), (2, false), (3, false), (4, true)] (by kernel_rfl) (by kernel_rfl) RS.refl RS.trans (fun _ _ d _ _ h => by cases d <;> exact h) ?_
          refine wpSch_q ?_ rfl rfl (fun w' hR => ?_) ?_
          rotate_left
          · (obtain ⟨hRs, hRc⟩ := hR; (try have hRd := fun o => hRc _ o rfl (by first | (simp; done) | (simp; omega) | omega)); (try have hRe := fun o => hRc _ o (Or.inl rfl) (by first | (simp; done) | (simp; omega) | omega)); (try have hRf := fun o => hRc _ o (Or.inr rfl) (by first | (simp; done) | (simp; omega) | omega)); (try have hRg := fun o => hRc _ o (Or.inr (Or.inl rfl)) (by first | (simp; done) | (simp; omega) | omega)); (try have hRh := fun o => hRc _ o (Or.inr (Or.inr rfl)) (by first | (simp; done) | (simp; omega) | omega)); go_simp; first | rfl | rw [if_neg (by simp; omega)] | rw [if_neg (by omega)])
          (try simp only [Act.put, List.setIfInBounds_toArray, List.set_cons_zero, List.set_cons_succ])
          refine wpSch_q ?_ rfl rfl (fun w' hR => ?_) ?_
          rotate_left
          · (obtain ⟨hRs, hRc⟩ := hR; (try have hRd := fun o => hRc _ o rfl (by first | (simp; done) | (simp; omega) | omega)); (try have hRe := fun o => hRc _ o (Or.inl rfl) (by first | (simp; done) | (simp; omega) | omega)); (try have hRf := fun o => hRc _ o (Or.inr rfl) (by first | (simp; done) | (simp; omega) | omega)); (try have hRg := fun o => hRc _ o (Or.inr (Or.inl rfl)) (by first | (simp; done) | (simp; omega) | omega)); (try have hRh := fun o => hRc _ o (Or.inr (Or.inr rfl)) (by first | (simp; done) | (simp; omega) | omega)); go_simp; first | rfl | rw [if_neg (by simp; omega)] | rw [if_neg (by omega)])
          (try simp only [Act.put, List.setIfInBounds_toArray, List.set_cons_zero, List.set_cons_succ])
          refine wpSch_e rfl rfl (fun K hK => ?_)
          go_simp
          refine hK _ _ (fun _ => RS.put10 w4 (fun h => by omega) _ _ _ _ _ _ _ _ _ _) ?_
          clear hK K
          (try simp only [Act.put, List.setIfInBounds_toArray, List.set_cons_zero, List.set_cons_succ])
          skip
          refine wpSch_e rfl rfl (fun K hK => ?_)
          go_simp
          refine hK _ _ (fun _ => RS.put9 _ (fun h => by omega) _ _ _ _ _ _ _ _ _) ?_
          clear hK K
          (try simp only [Act.put, List.setIfInBounds_toArray, List.set_cons_zero, List.set_cons_succ])
          skip
          refine wpSch_q ?_ rfl rfl (fun w' hR => ?_) ?_
          rotate_left
          · (go_simp; first | rfl | rw [if_neg (by simp; omega)] | rw [if_neg (by omega)])
          (try simp only [Act.put, List.setIfInBounds_toArray, List.set_cons_zero, List.set_cons_succ])
          refine wpSch_nil ?_
          (try simp only [Exit.then]); (try go_at_K); (try dsimp only); (repeat (first | go_values | go_skip | go_guarded | go_step | go_upon)); (try simp only [Exit.inBlock, Exit.then])
          refine ret_AET rfl rfl (x0 := fa) ((F2.put10 _ _ _ _ _ _ _ _ _ _).fr (Fr.put9 (S := fun x => x ≠ S + 1 + 1 + 1) (Fr.refl _) (g := S + 1 + 1 + 1) (fun h => h rfl) _ _ _ _ _ _ _ _ _) (by omega)).drew rfl (x1 := fe) ((F3.fr (Fr.put10 (S := fun x => x ≠ S + 1 + 1) (Fr.refl w4) (g := S + 1 + 1) (fun h => h rfl) _ _ _ _ _ _ _ _ _ _) (by omega)).put9 _ _ _ _ _ _ _ _ _).drew rfl rfl ?_
          exact ⟨rfl, (Fr.ext (S := fun x => x < S) (Fr.put9 (Fr.put10 (Fr.of_ext hX4) (g := S + 1 + 1) (by omega) _ _ _ _ _ _ _ _ _ _) (g := S + 1 + 1 + 1) (by omega) _ _ _ _ _ _ _ _ _) (fun x h => by rw [← HS.out]; exact h)).trans' (Ext.dr _)⟩
      · refine wpTr_e rfl rfl (fun K hK => ?_)
        go_simp
        refine hK _ _ (fun _ => RS.alloc _) ?_
        clear hK K
        (try simp only [Act.put, List.setIfInBounds_toArray, List.set_cons_zero, List.set_cons_succ])
        obtain ⟨gE, hgE⟩ : ∃ g, x29.heap.size = g := ⟨_, rfl⟩
        rw [hgE]
        obtain ⟨x39, hx39⟩ : ∃ w, w = x29.alloc (.cells #[.int .i64 0, .int .i64 0, .int .i64 0, .int .i64 0, .int .i64 0, .int .i64 0, .int .i64 0, .int .i64 0, .int .i64 0] 51) := ⟨_, rfl⟩
        rw [← hx39]
        have hbx39 : Ext x29 x39 := by rw [hx39]; exact Ext.al _ _
        have bE : Box x39 gE 51 #[.int .i64 0, .int .i64 0, .int .i64 0, .int .i64 0, .int .i64 0, .int .i64 0, .int .i64 0, .int .i64 0, .int .i64 0] := by rw [hx39]; exact Box.new_at _ _ _ _ hgE.symm
        have hnebA : ¬ gA = gE := by have := bA.lt; omega
        have bA := bA.ext hbx39
        have hgegE : S + 1 + 1 + 1 < gE := by have := hE.size; omega
        have hE := hE.trans' hbx39
        clear hx39 hgE
        refine wpTr_e rfl rfl (fun K hK => ?_)
        go_simp
        refine (HEND.out _).mono ?_
        rintro e x40 ⟨rfl, hbx40⟩
        refine hK _ _ (fun _ => RS.fr (S' := fun _ => True) (Fr.of_ext hbx40) (fun _ _ _ => trivial)) ?_
        clear hK K
        (try simp only [Act.put, List.setIfInBounds_toArray, List.set_cons_zero, List.set_cons_succ])
        have bA := bA.ext hbx40
        have bE := bE.ext hbx40
        have hE := hE.trans' hbx40
        refine wpTr_e rfl rfl (fun K hK => ?_)
        go_simp
        refine (HF.out _).mono ?_
        rintro e x41 ⟨rfl, hbx41⟩
        refine hK _ _ (fun _ => RS.fr (S' := fun _ => True) (Fr.of_ext hbx41) (fun _ _ _ => trivial)) ?_
        clear hK K
        (try simp only [Act.put, List.setIfInBounds_toArray, List.set_cons_zero, List.set_cons_succ])
        dsimp only [ActV.cells, EvV.cells]
        have bA := bA.ext hbx41
        have bE := bE.ext hbx41
        have hE := hE.trans' hbx41
        refine wpTr_q ?_ rfl rfl (fun w' hR => ?_) ?_
        rotate_left
        · (go_simp; first | rfl | rw [if_neg (by simp; omega)] | rw [if_neg (by omega)])
        (try simp only [Act.put, List.setIfInBounds_toArray, List.set_cons_zero, List.set_cons_succ])
        refine wpTr_q ?_ rfl rfl (fun w' hR => ?_) ?_
        rotate_left
        · (go_simp; first | rfl | rw [if_neg (by simp; omega)] | rw [if_neg (by omega)])
        (try simp only [Act.put, List.setIfInBounds_toArray, List.set_cons_zero, List.set_cons_succ])
        refine wpTr_q ?_ rfl rfl (fun w' hR => ?_) ?_
        rotate_left
        · (go_simp; first | rfl | rw [if_neg (by simp; omega)] | rw [if_neg (by omega)])
        (try simp only [Act.put, List.setIfInBounds_toArray, List.set_cons_zero, List.set_cons_succ])
        have hlA := bA.frozen
        have hlE := bE.frozen
        have hAE : ¬ gA = gE := by omega
        have hEA : ¬ gE = gA := by omega
        have p0 := bA.cell 0
        have p1 := bA.cell 1
        have p2 := bA.cell 2
        have p3 := bA.cell 3
        have p4 := bA.cell 4
        have p5 := bA.cell 5
        have p6 := bA.cell 6
        have p7 := bA.cell 7
        have p8 := bA.cell 8
        have p9 := bA.cell 9
        simp only [List.getElem?_toArray, List.getElem?_cons_zero, List.getElem?_cons_succ] at p0 p1 p2 p3 p4 p5 p6 p7 p8 p9
        have q0 := bE.cell 0
        have q1 := bE.cell 1
        have q2 := bE.cell 2
        have q3 := bE.cell 3
        have q4 := bE.cell 4
        have q5 := bE.cell 5
        have q6 := bE.cell 6
        have q7 := bE.cell 7
        have q8 := bE.cell 8
        simp only [List.getElem?_toArray, List.getElem?_cons_zero, List.getElem?_cons_succ] at q0 q1 q2 q3 q4 q5 q6 q7 q8
        refine wpTr_e rfl rfl (fun K hK => ?_)
        go_simp
        refine hK _ _ (fun _ => RS.fr (S' := fun x => x ≠ gA) (Fr.put10 (Fr.refl x41) (g := gA) (fun k => k rfl) _ _ _ _ _ _ _ _ _ _) (fun x _ h => by rcases h with rfl | rfl <;> omega)) ?_
        clear hK K
        (try simp only [Act.put, List.setIfInBounds_toArray, List.set_cons_zero, List.set_cons_succ])
        refine wpTr_e rfl rfl (fun K hK => ?_)
        go_simp
        refine hK _ _ (fun h => absurd rfl h) ?_
        clear hK K
        (try simp only [Act.put, List.setIfInBounds_toArray, List.set_cons_zero, List.set_cons_succ])
        refine wpTr_done ?_
        clear p0 p1 p2 p3 p4 p5 p6 p7 p8 p9 q0 q1 q2 q3 q4 q5 q6 q7 q8 hlA hlE
        obtain ⟨w4, hw4⟩ : ∃ w, w = (((((((((((((((((((x41.setCell ⟨gA, 0, none⟩ (.int .i64 fa.event)).setCell ⟨gA, 1, none⟩ (.int .i64 fa.opts)).setCell ⟨gA, 2, none⟩ (.int .i64 fa.input)).setCell ⟨gA, 3, none⟩ (.int .i64 fa.at_)).setCell ⟨gA, 4, none⟩ (.int .i64 fa.attempt)).setCell ⟨gA, 5, none⟩ (.int .i64 fa.phase)).setCell ⟨gA, 6, none⟩ (.int .i64 fa.since)).setCell ⟨gA, 7, none⟩ (.int .i64 fa.beat)).setCell ⟨gA, 8, none⟩ (.int .i64 fa.detail)).setCell ⟨gA, 9, none⟩ (.int .i64 fa.again)).setCell ⟨gE, 0, none⟩ (.int .i64 0)).setCell ⟨gE, 1, none⟩ (.int .i64 0)).setCell ⟨gE, 2, none⟩ (.int .i64 fe.kind)).setCell ⟨gE, 3, none⟩ (.int .i64 fe.a)).setCell ⟨gE, 4, none⟩ (.int .i64 fe.b)).setCell ⟨gE, 5, none⟩ (.int .i64 fe.c)).setCell ⟨gE, 6, none⟩ (.int .i64 0)).setCell ⟨gE, 7, none⟩ (.int .i64 0)).setCell ⟨gE, 8, none⟩ (.int .i64 0)) := ⟨_, rfl⟩
        rw [← hw4]
        have D0 : Box w4 gA 40 fa.cells := by rw [hw4]; exact (bA.put10 _ _ _ _ _ _ _ _ _ _).fr (Fr.put9 (S := fun x => x ≠ gE) (Fr.refl _) (g := gE) (fun h => h rfl) _ _ _ _ _ _ _ _ _) hAE
        have D1 : Box w4 gE 51 fe.cells := by rw [hw4]; exact (bE.fr (Fr.put10 (S := fun x => x ≠ gA) (Fr.refl _) (g := gA) (fun h => h rfl) _ _ _ _ _ _ _ _ _ _) hEA).put9 _ _ _ _ _ _ _ _ _
        have hF4 : Fr (fun x => x ≠ gA ∧ x ≠ gE) x41 w4 := by rw [hw4]; exact Fr.put9 (Fr.put10 (Fr.refl _) (g := gA) (fun h => h.1 rfl) _ _ _ _ _ _ _ _ _ _) (g := gE) (fun h => h.2 rfl) _ _ _ _ _ _ _ _ _
        have F2 := (C2.ext hE).fr hF4 ⟨by omega, by omega⟩
        have F3 := (C3.ext hE).fr hF4 ⟨by omega, by omega⟩
        have hz4 := hF4.size
        have hX4 : Ext w w4 := Fr.ext (S := fun x => x < S) ((Fr.of_ext (hX2.trans' hE)).step hF4 (fun x _ h => ⟨by omega, by omega⟩)) (fun x h => by rw [← HS.out]; exact h)
        clear hw4 hF4 bA bE HF HEND o0 o1 o2 o3 o4 o5 o6 o7 o8 o9 o10 o_f a0 a1 a2 a3 a4 a5 a6 a7 a8 a9
        have hlA := D0.lt
        have hlE := D1.lt
        have fR := F2.frozen
        have fE := F3.frozen
        have fa_ := D0.frozen
        have r0 := F2.cell 0
        have r1 := F2.cell 1
        have r2 := F2.cell 2
        have r3 := F2.cell 3
        have r4 := F2.cell 4
        have r5 := F2.cell 5
        have r6 := F2.cell 6
        have r7 := F2.cell 7
        have r8 := F2.cell 8
        have r9 := F2.cell 9
        simp only [ActV.cells, EvV.cells, List.getElem?_toArray, List.getElem?_cons_zero, List.getElem?_cons_succ] at r0 r1 r2 r3 r4 r5 r6 r7 r8 r9
        have e0 := F3.cell 0
        have e1 := F3.cell 1
        have e2 := F3.cell 2
        have e3 := F3.cell 3
        have e4 := F3.cell 4
        have e5 := F3.cell 5
        have e6 := F3.cell 6
        have e7 := F3.cell 7
        have e8 := F3.cell 8
        simp only [ActV.cells, EvV.cells, List.getElem?_toArray, List.getElem?_cons_zero, List.getElem?_cons_succ] at e0 e1 e2 e3 e4 e5 e6 e7 e8
        have p0 := D0.cell 0
        have p1 := D0.cell 1
        have p2 := D0.cell 2
        have p3 := D0.cell 3
        have p4 := D0.cell 4
        have p5 := D0.cell 5
        have p6 := D0.cell 6
        have p7 := D0.cell 7
        have p8 := D0.cell 8
        have p9 := D0.cell 9
        simp only [ActV.cells, EvV.cells, List.getElem?_toArray, List.getElem?_cons_zero, List.getElem?_cons_succ] at p0 p1 p2 p3 p4 p5 p6 p7 p8 p9
        have q0 := D1.cell 0
        have q1 := D1.cell 1
        have q2 := D1.cell 2
        have q3 := D1.cell 3
        have q4 := D1.cell 4
        have q5 := D1.cell 5
        have q6 := D1.cell 6
        have q7 := D1.cell 7
        have q8 := D1.cell 8
        simp only [ActV.cells, EvV.cells, List.getElem?_toArray, List.getElem?_cons_zero, List.getElem?_cons_succ] at q0 q1 q2 q3 q4 q5 q6 q7 q8
        clear C0 C1 C2 C3 hX2
        go_wp2_with fail
        refine wp_region_sch (RS ((fun x => x = gA ∨ x = gE))) 5 [(0, true), (1, true), (2, false), (3, false), (4, true)] (by kernel_rfl) (by kernel_rfl) RS.refl RS.trans (fun _ _ d _ _ h => by cases d <;> exact h) ?_
        refine wpSch_q ?_ rfl rfl (fun w' hR => ?_) ?_
        rotate_left
        · (obtain ⟨hRs, hRc⟩ := hR; (try have hRd := fun o => hRc _ o rfl (by first | (simp; done) | (simp; omega) | omega)); (try have hRe := fun o => hRc _ o (Or.inl rfl) (by first | (simp; done) | (simp; omega) | omega)); (try have hRf := fun o => hRc _ o (Or.inr rfl) (by first | (simp; done) | (simp; omega) | omega)); (try have hRg := fun o => hRc _ o (Or.inr (Or.inl rfl)) (by first | (simp; done) | (simp; omega) | omega)); (try have hRh := fun o => hRc _ o (Or.inr (Or.inr rfl)) (by first | (simp; done) | (simp; omega) | omega)); go_simp; first | rfl | rw [if_neg (by simp; omega)] | rw [if_neg (by omega)])
        (try simp only [Act.put, List.setIfInBounds_toArray, List.set_cons_zero, List.set_cons_succ])
        refine wpSch_q ?_ rfl rfl (fun w' hR => ?_) ?_
        rotate_left
        · (obtain ⟨hRs, hRc⟩ := hR; (try have hRd := fun o => hRc _ o rfl (by first | (simp; done) | (simp; omega) | omega)); (try have hRe := fun o => hRc _ o (Or.inl rfl) (by first | (simp; done) | (simp; omega) | omega)); (try have hRf := fun o => hRc _ o (Or.inr rfl) (by first | (simp; done) | (simp; omega) | omega)); (try have hRg := fun o => hRc _ o (Or.inr (Or.inl rfl)) (by first | (simp; done) | (simp; omega) | omega)); (try have hRh := fun o => hRc _ o (Or.inr (Or.inr rfl)) (by first | (simp; done) | (simp; omega) | omega)); go_simp; first | rfl | rw [if_neg (by simp; omega)] | rw [if_neg (by omega)])
        (try simp only [Act.put, List.setIfInBounds_toArray, List.set_cons_zero, List.set_cons_succ])
        refine wpSch_e rfl rfl (fun K hK => ?_)
        go_simp
        refine hK _ _ (fun _ => RS.put10 w4 (fun h => by omega) _ _ _ _ _ _ _ _ _ _) ?_
        clear hK K
        (try simp only [Act.put, List.setIfInBounds_toArray, List.set_cons_zero, List.set_cons_succ])
        skip
        refine wpSch_e rfl rfl (fun K hK => ?_)
        go_simp
        refine hK _ _ (fun _ => RS.put9 _ (fun h => by omega) _ _ _ _ _ _ _ _ _) ?_
        clear hK K
        (try simp only [Act.put, List.setIfInBounds_toArray, List.set_cons_zero, List.set_cons_succ])
        skip
        refine wpSch_q ?_ rfl rfl (fun w' hR => ?_) ?_
        rotate_left
        · (go_simp; first | rfl | rw [if_neg (by simp; omega)] | rw [if_neg (by omega)])
        (try simp only [Act.put, List.setIfInBounds_toArray, List.set_cons_zero, List.set_cons_succ])
        refine wpSch_nil ?_
        (try simp only [Exit.then]); (try go_at_K); (try dsimp only); (repeat (first | go_values | go_skip | go_guarded | go_step | go_upon)); (try simp only [Exit.inBlock, Exit.then])
        refine ret_AET rfl rfl (x0 := fa) ((F2.put10 _ _ _ _ _ _ _ _ _ _).fr (Fr.put9 (S := fun x => x ≠ S + 1 + 1 + 1) (Fr.refl _) (g := S + 1 + 1 + 1) (fun h => h rfl) _ _ _ _ _ _ _ _ _) (by omega)).drew rfl (x1 := fe) ((F3.fr (Fr.put10 (S := fun x => x ≠ S + 1 + 1) (Fr.refl w4) (g := S + 1 + 1) (fun h => h rfl) _ _ _ _ _ _ _ _ _ _) (by omega)).put9 _ _ _ _ _ _ _ _ _).drew rfl rfl ?_
        exact ⟨rfl, (Fr.ext (S := fun x => x < S) (Fr.put9 (Fr.put10 (Fr.of_ext hX4) (g := S + 1 + 1) (by omega) _ _ _ _ _ _ _ _ _ _) (g := S + 1 + 1 + 1) (by omega) _ _ _ _ _ _ _ _ _) (fun x h => by rw [← HS.out]; exact h)).trans' (Ext.dr _)⟩
    · refine wpTr_e rfl rfl (fun K hK => ?_)
      go_simp
      refine hK _ _ (fun _ => RS.alloc _) ?_
      clear hK K
      (try simp only [Act.put, List.setIfInBounds_toArray, List.set_cons_zero, List.set_cons_succ])
      obtain ⟨gE, hgE⟩ : ∃ g, w3.heap.size = g := ⟨_, rfl⟩
      rw [hgE]
      obtain ⟨x44, hx44⟩ : ∃ w, w = w3.alloc (.cells #[.int .i64 0, .int .i64 0, .int .i64 0, .int .i64 0, .int .i64 0, .int .i64 0, .int .i64 0, .int .i64 0, .int .i64 0] 51) := ⟨_, rfl⟩
      rw [← hx44]
      have hbx44 : Ext w3 x44 := by rw [hx44]; exact Ext.al _ _
      have bE : Box x44 gE 51 #[.int .i64 0, .int .i64 0, .int .i64 0, .int .i64 0, .int .i64 0, .int .i64 0, .int .i64 0, .int .i64 0, .int .i64 0] := by rw [hx44]; exact Box.new_at _ _ _ _ hgE.symm
      have hgegE : S + 1 + 1 + 1 < gE := by have := hE.size; omega
      have hE := hE.trans' hbx44
      clear hx44 hgE
      refine wpTr_fork ?_ ?_
      · refine wpTr_e rfl rfl (fun K hK => ?_)
        go_simp
        refine (HEND.out _).mono ?_
        rintro e x45 ⟨rfl, hbx45⟩
        refine hK _ _ (fun _ => RS.fr (S' := fun _ => True) (Fr.of_ext hbx45) (fun _ _ _ => trivial)) ?_
        clear hK K
        (try simp only [Act.put, List.setIfInBounds_toArray, List.set_cons_zero, List.set_cons_succ])
        have bE := bE.ext hbx45
        have hE := hE.trans' hbx45
        refine wpTr_fork ?_ ?_
        · refine wpTr_e rfl rfl (fun K hK => ?_)
          go_simp
          refine (HF.out _).mono ?_
          rintro e x46 ⟨rfl, hbx46⟩
          refine hK _ _ (fun _ => RS.fr (S' := fun _ => True) (Fr.of_ext hbx46) (fun _ _ _ => trivial)) ?_
          clear hK K
          (try simp only [Act.put, List.setIfInBounds_toArray, List.set_cons_zero, List.set_cons_succ])
          dsimp only [ActV.cells, EvV.cells]
          have bE := bE.ext hbx46
          have hE := hE.trans' hbx46
          refine wpTr_q ?_ rfl rfl (fun w' hR => ?_) ?_
          rotate_left
          · (go_simp; first | rfl | rw [if_neg (by simp; omega)] | rw [if_neg (by omega)])
          (try simp only [Act.put, List.setIfInBounds_toArray, List.set_cons_zero, List.set_cons_succ])
          refine wpTr_q ?_ rfl rfl (fun w' hR => ?_) ?_
          rotate_left
          · (go_simp; first | rfl | rw [if_neg (by simp; omega)] | rw [if_neg (by omega)])
          (try simp only [Act.put, List.setIfInBounds_toArray, List.set_cons_zero, List.set_cons_succ])
          refine wpTr_q ?_ rfl rfl (fun w' hR => ?_) ?_
          rotate_left
          · (go_simp; first | rfl | rw [if_neg (by simp; omega)] | rw [if_neg (by omega)])
          (try simp only [Act.put, List.setIfInBounds_toArray, List.set_cons_zero, List.set_cons_succ])
          refine wpTr_e rfl rfl (fun K hK => ?_)
          go_simp
          refine hK _ _ (fun _ => RS.alloc _) ?_
          clear hK K
          (try simp only [Act.put, List.setIfInBounds_toArray, List.set_cons_zero, List.set_cons_succ])
          obtain ⟨gA, hgA⟩ : ∃ g, x46.heap.size = g := ⟨_, rfl⟩
          rw [hgA]
          obtain ⟨x47, hx47⟩ : ∃ w, w = x46.alloc (.cells #[.int .i64 0, .int .i64 0, .int .i64 0, .int .i64 0, .int .i64 0, .int .i64 0, .int .i64 0, .int .i64 0, .int .i64 0, .int .i64 0] 40) := ⟨_, rfl⟩
          rw [← hx47]
          have hbx47 : Ext x46 x47 := by rw [hx47]; exact Ext.al _ _
          have bA : Box x47 gA 40 #[.int .i64 0, .int .i64 0, .int .i64 0, .int .i64 0, .int .i64 0, .int .i64 0, .int .i64 0, .int .i64 0, .int .i64 0, .int .i64 0] := by rw [hx47]; exact Box.new_at _ _ _ _ hgA.symm
          have hnebE : ¬ gE = gA := by have := bE.lt; omega
          have bE := bE.ext hbx47
          have hgegA : S + 1 + 1 + 1 < gA := by have := hE.size; omega
          have hE := hE.trans' hbx47
          clear hx47 hgA
          have hlA := bA.frozen
          have hlE := bE.frozen
          have hAE : ¬ gA = gE := by omega
          have hEA : ¬ gE = gA := by omega
          have p0 := bA.cell 0
          have p1 := bA.cell 1
          have p2 := bA.cell 2
          have p3 := bA.cell 3
          have p4 := bA.cell 4
          have p5 := bA.cell 5
          have p6 := bA.cell 6
          have p7 := bA.cell 7
          have p8 := bA.cell 8
          have p9 := bA.cell 9
          simp only [List.getElem?_toArray, List.getElem?_cons_zero, List.getElem?_cons_succ] at p0 p1 p2 p3 p4 p5 p6 p7 p8 p9
          have q0 := bE.cell 0
          have q1 := bE.cell 1
          have q2 := bE.cell 2
          have q3 := bE.cell 3
          have q4 := bE.cell 4
          have q5 := bE.cell 5
          have q6 := bE.cell 6
          have q7 := bE.cell 7
          have q8 := bE.cell 8
          simp only [List.getElem?_toArray, List.getElem?_cons_zero, List.getElem?_cons_succ] at q0 q1 q2 q3 q4 q5 q6 q7 q8
          refine wpTr_e rfl rfl (fun K hK => ?_)
          go_simp
          refine hK _ _ (fun _ => RS.fr (S' := fun x => x ≠ gA) (Fr.put10 (Fr.refl x47) (g := gA) (fun k => k rfl) _ _ _ _ _ _ _ _ _ _) (fun x _ h => by rcases h with rfl | rfl <;> omega)) ?_
          clear hK K
          (try simp only [Act.put, List.setIfInBounds_toArray, List.set_cons_zero, List.set_cons_succ])
          refine wpTr_e rfl rfl (fun K hK => ?_)
          go_simp
          refine hK _ _ (fun h => absurd rfl h) ?_
          clear hK K
          (try simp only [Act.put, List.setIfInBounds_toArray, List.set_cons_zero, List.set_cons_succ])
          refine wpTr_done ?_
          clear p0 p1 p2 p3 p4 p5 p6 p7 p8 p9 q0 q1 q2 q3 q4 q5 q6 q7 q8 hlA hlE
          obtain ⟨w4, hw4⟩ : ∃ w, w = (((((((((((((((((((x47.setCell ⟨gA, 0, none⟩ (.int .i64 fa.event)).setCell ⟨gA, 1, none⟩ (.int .i64 fa.opts)).setCell ⟨gA, 2, none⟩ (.int .i64 fa.input)).setCell ⟨gA, 3, none⟩ (.int .i64 fa.at_)).setCell ⟨gA, 4, none⟩ (.int .i64 fa.attempt)).setCell ⟨gA, 5, none⟩ (.int .i64 fa.phase)).setCell ⟨gA, 6, none⟩ (.int .i64 fa.since)).setCell ⟨gA, 7, none⟩ (.int .i64 fa.beat)).setCell ⟨gA, 8, none⟩ (.int .i64 fa.detail)).setCell ⟨gA, 9, none⟩ (.int .i64 fa.again)).setCell ⟨gE, 0, none⟩ (.int .i64 0)).setCell ⟨gE, 1, none⟩ (.int .i64 0)).setCell ⟨gE, 2, none⟩ (.int .i64 fe.kind)).setCell ⟨gE, 3, none⟩ (.int .i64 fe.a)).setCell ⟨gE, 4, none⟩ (.int .i64 fe.b)).setCell ⟨gE, 5, none⟩ (.int .i64 fe.c)).setCell ⟨gE, 6, none⟩ (.int .i64 0)).setCell ⟨gE, 7, none⟩ (.int .i64 0)).setCell ⟨gE, 8, none⟩ (.int .i64 0)) := ⟨_, rfl⟩
          rw [← hw4]
          have D0 : Box w4 gA 40 fa.cells := by rw [hw4]; exact (bA.put10 _ _ _ _ _ _ _ _ _ _).fr (Fr.put9 (S := fun x => x ≠ gE) (Fr.refl _) (g := gE) (fun h => h rfl) _ _ _ _ _ _ _ _ _) hAE
          have D1 : Box w4 gE 51 fe.cells := by rw [hw4]; exact (bE.fr (Fr.put10 (S := fun x => x ≠ gA) (Fr.refl _) (g := gA) (fun h => h rfl) _ _ _ _ _ _ _ _ _ _) hEA).put9 _ _ _ _ _ _ _ _ _
          have hF4 : Fr (fun x => x ≠ gA ∧ x ≠ gE) x47 w4 := by rw [hw4]; exact Fr.put9 (Fr.put10 (Fr.refl _) (g := gA) (fun h => h.1 rfl) _ _ _ _ _ _ _ _ _ _) (g := gE) (fun h => h.2 rfl) _ _ _ _ _ _ _ _ _
          have F2 := (C2.ext hE).fr hF4 ⟨by omega, by omega⟩
          have F3 := (C3.ext hE).fr hF4 ⟨by omega, by omega⟩
          have hz4 := hF4.size
          have hX4 : Ext w w4 := Fr.ext (S := fun x => x < S) ((Fr.of_ext (hX2.trans' hE)).step hF4 (fun x _ h => ⟨by omega, by omega⟩)) (fun x h => by rw [← HS.out]; exact h)
          clear hw4 hF4 bA bE HF HEND o0 o1 o2 o3 o4 o5 o6 o7 o8 o9 o10 o_f a0 a1 a2 a3 a4 a5 a6 a7 a8 a9
          have hlA := D0.lt
          have hlE := D1.lt
          have fR := F2.frozen
          have fE := F3.frozen
          have fa_ := D0.frozen
          have r0 := F2.cell 0
          have r1 := F2.cell 1
          have r2 := F2.cell 2
          have r3 := F2.cell 3
          have r4 := F2.cell 4
          have r5 := F2.cell 5
          have r6 := F2.cell 6
          have r7 := F2.cell 7
          have r8 := F2.cell 8
          have r9 := F2.cell 9
          simp only [ActV.cells, EvV.cells, List.getElem?_toArray, List.getElem?_cons_zero, List.getElem?_cons_succ] at r0 r1 r2 r3 r4 r5 r6 r7 r8 r9
          have e0 := F3.cell 0
          have e1 := F3.cell 1
          have e2 := F3.cell 2
          have e3 := F3.cell 3
          have e4 := F3.cell 4
          have e5 := F3.cell 5
          have e6 := F3.cell 6
          have e7 := F3.cell 7
          have e8 := F3.cell 8
          simp only [ActV.cells, EvV.cells, List.getElem?_toArray, List.getElem?_cons_zero, List.getElem?_cons_succ] at e0 e1 e2 e3 e4 e5 e6 e7 e8
          have p0 := D0.cell 0
          have p1 := D0.cell 1
          have p2 := D0.cell 2
          have p3 := D0.cell 3
          have p4 := D0.cell 4
          have p5 := D0.cell 5
          have p6 := D0.cell 6
          have p7 := D0.cell 7
          have p8 := D0.cell 8
          have p9 := D0.cell 9
          simp only [ActV.cells, EvV.cells, List.getElem?_toArray, List.getElem?_cons_zero, List.getElem?_cons_succ] at p0 p1 p2 p3 p4 p5 p6 p7 p8 p9
          have q0 := D1.cell 0
          have q1 := D1.cell 1
          have q2 := D1.cell 2
          have q3 := D1.cell 3
          have q4 := D1.cell 4
          have q5 := D1.cell 5
          have q6 := D1.cell 6
          have q7 := D1.cell 7
          have q8 := D1.cell 8
          simp only [ActV.cells, EvV.cells, List.getElem?_toArray, List.getElem?_cons_zero, List.getElem?_cons_succ] at q0 q1 q2 q3 q4 q5 q6 q7 q8
          clear C0 C1 C2 C3 hX2
          go_wp2_with fail
          refine wp_region_sch (RS ((fun x => x = gA ∨ x = gE))) 5 [(0, true), (1, true), (2, false), (3, false), (4, true)] (by kernel_rfl) (by kernel_rfl) RS.refl RS.trans (fun _ _ d _ _ h => by cases d <;> exact h) ?_
          refine wpSch_q ?_ rfl rfl (fun w' hR => ?_) ?_
          rotate_left
          · (obtain ⟨hRs, hRc⟩ := hR; (try have hRd := fun o => hRc _ o rfl (by first | (simp; done) | (simp; omega) | omega)); (try have hRe := fun o => hRc _ o (Or.inl rfl) (by first | (simp; done) | (simp; omega) | omega)); (try have hRf := fun o => hRc _ o (Or.inr rfl) (by first | (simp; done) | (simp; omega) | omega)); (try have hRg := fun o => hRc _ o (Or.inr (Or.inl rfl)) (by first | (simp; done) | (simp; omega) | omega)); (try have hRh := fun o => hRc _ o (Or.inr (Or.inr rfl)) (by first | (simp; done) | (simp; omega) | omega)); go_simp; first | rfl | rw [if_neg (by simp; omega)] | rw [if_neg (by omega)])
          (try simp only [Act.put, List.setIfInBounds_toArray, List.set_cons_zero, List.set_cons_succ])
          refine wpSch_q ?_ rfl rfl (fun w' hR => ?_) ?_
          rotate_left
          · (obtain ⟨hRs, hRc⟩ := hR; (try have hRd := fun o => hRc _ o rfl (by first | (simp; done) | (simp; omega) | omega)); (try have hRe := fun o => hRc _ o (Or.inl rfl) (by first | (simp; done) | (simp; omega) | omega)); (try have hRf := fun o => hRc _ o (Or.inr rfl) (by first | (simp; done) | (simp; omega) | omega)); (try have hRg := fun o => hRc _ o (Or.inr (Or.inl rfl)) (by first | (simp; done) | (simp; omega) | omega)); (try have hRh := fun o => hRc _ o (Or.inr (Or.inr rfl)) (by first | (simp; done) | (simp; omega) | omega)); go_simp; first | rfl | rw [if_neg (by simp; omega)] | rw [if_neg (by omega)])
          (try simp only [Act.put, List.setIfInBounds_toArray, List.set_cons_zero, List.set_cons_succ])
          refine wpSch_e rfl rfl (fun K hK => ?_)
          go_simp
          refine hK _ _ (fun _ => RS.put10 w4 (fun h => by omega) _ _ _ _ _ _ _ _ _ _) ?_
          clear hK K
          (try simp only [Act.put, List.setIfInBounds_toArray, List.set_cons_zero, List.set_cons_succ])
          skip
          refine wpSch_e rfl rfl (fun K hK => ?_)
          go_simp
          refine hK _ _ (fun _ => RS.put9 _ (fun h => by omega) _ _ _ _ _ _ _ _ _) ?_
          clear hK K
          (try simp only [Act.put, List.setIfInBounds_toArray, List.set_cons_zero, List.set_cons_succ])
          skip
          refine wpSch_q ?_ rfl rfl (fun w' hR => ?_) ?_
          rotate_left
          · (go_simp; first | rfl | rw [if_neg (by simp; omega)] | rw [if_neg (by omega)])
          (try simp only [Act.put, List.setIfInBounds_toArray, List.set_cons_zero, List.set_cons_succ])
          refine wpSch_nil ?_
          (try simp only [Exit.then]); (try go_at_K); (try dsimp only); (repeat (first | go_values | go_skip | go_guarded | go_step | go_upon)); (try simp only [Exit.inBlock, Exit.then])
          refine ret_AET rfl rfl (x0 := fa) ((F2.put10 _ _ _ _ _ _ _ _ _ _).fr (Fr.put9 (S := fun x => x ≠ S + 1 + 1 + 1) (Fr.refl _) (g := S + 1 + 1 + 1) (fun h => h rfl) _ _ _ _ _ _ _ _ _) (by omega)).drew rfl (x1 := fe) ((F3.fr (Fr.put10 (S := fun x => x ≠ S + 1 + 1) (Fr.refl w4) (g := S + 1 + 1) (fun h => h rfl) _ _ _ _ _ _ _ _ _ _) (by omega)).put9 _ _ _ _ _ _ _ _ _).drew rfl rfl ?_
          exact ⟨rfl, (Fr.ext (S := fun x => x < S) (Fr.put9 (Fr.put10 (Fr.of_ext hX4) (g := S + 1 + 1) (by omega) _ _ _ _ _ _ _ _ _ _) (g := S + 1 + 1 + 1) (by omega) _ _ _ _ _ _ _ _ _) (fun x h => by rw [← HS.out]; exact h)).trans' (Ext.dr _)⟩
        · refine wpTr_e rfl rfl (fun K hK => ?_)
          go_simp
          refine hK _ _ (fun _ => RS.alloc _) ?_
          clear hK K
          (try simp only [Act.put, List.setIfInBounds_toArray, List.set_cons_zero, List.set_cons_succ])
          obtain ⟨gA, hgA⟩ : ∃ g, x45.heap.size = g := ⟨_, rfl⟩
          rw [hgA]
          obtain ⟨x50, hx50⟩ : ∃ w, w = x45.alloc (.cells #[.int .i64 0, .int .i64 0, .int .i64 0, .int .i64 0, .int .i64 0, .int .i64 0, .int .i64 0, .int .i64 0, .int .i64 0, .int .i64 0] 40) := ⟨_, rfl⟩
          rw [← hx50]
          have hbx50 : Ext x45 x50 := by rw [hx50]; exact Ext.al _ _
          have bA : Box x50 gA 40 #[.int .i64 0, .int .i64 0, .int .i64 0, .int .i64 0, .int .i64 0, .int .i64 0, .int .i64 0, .int .i64 0, .int .i64 0, .int .i64 0] := by rw [hx50]; exact Box.new_at _ _ _ _ hgA.symm
          have hnebE : ¬ gE = gA := by have := bE.lt; omega
          have bE := bE.ext hbx50
          have hgegA : S + 1 + 1 + 1 < gA := by have := hE.size; omega
          have hE := hE.trans' hbx50
          clear hx50 hgA
          refine wpTr_e rfl rfl (fun K hK => ?_)
          go_simp
          refine (HF.out _).mono ?_
          rintro e x51 ⟨rfl, hbx51⟩
          refine hK _ _ (fun _ => RS.fr (S' := fun _ => True) (Fr.of_ext hbx51) (fun _ _ _ => trivial)) ?_
          clear hK K
          (try simp only [Act.put, List.setIfInBounds_toArray, List.set_cons_zero, List.set_cons_succ])
          dsimp only [ActV.cells, EvV.cells]
          have bE := bE.ext hbx51
          have bA := bA.ext hbx51
          have hE := hE.trans' hbx51
          refine wpTr_q ?_ rfl rfl (fun w' hR => ?_) ?_
          rotate_left
          · (go_simp; first | rfl | rw [if_neg (by simp; omega)] | rw [if_neg (by omega)])
          (try simp only [Act.put, List.setIfInBounds_toArray, List.set_cons_zero, List.set_cons_succ])
          refine wpTr_q ?_ rfl rfl (fun w' hR => ?_) ?_
          rotate_left
          · (go_simp; first | rfl | rw [if_neg (by simp; omega)] | rw [if_neg (by omega)])
          (try simp only [Act.put, List.setIfInBounds_toArray, List.set_cons_zero, List.set_cons_succ])
          refine wpTr_q ?_ rfl rfl (fun w' hR => ?_) ?_
          rotate_left
          · (go_simp; first | rfl | rw [if_neg (by simp; omega)] | rw [if_neg (by omega)])
          (try simp only [Act.put, List.setIfInBounds_toArray, List.set_cons_zero, List.set_cons_succ])
          have hlA := bA.frozen
          have hlE := bE.frozen
          have hAE : ¬ gA = gE := by omega
          have hEA : ¬ gE = gA := by omega
          have p0 := bA.cell 0
          have p1 := bA.cell 1
          have p2 := bA.cell 2
          have p3 := bA.cell 3
          have p4 := bA.cell 4
          have p5 := bA.cell 5
          have p6 := bA.cell 6
          have p7 := bA.cell 7
          have p8 := bA.cell 8
          have p9 := bA.cell 9
          simp only [List.getElem?_toArray, List.getElem?_cons_zero, List.getElem?_cons_succ] at p0 p1 p2 p3 p4 p5 p6 p7 p8 p9
          have q0 := bE.cell 0
          have q1 := bE.cell 1
          have q2 := bE.cell 2
          have q3 := bE.cell 3
          have q4 := bE.cell 4
          have q5 := bE.cell 5
          have q6 := bE.cell 6
          have q7 := bE.cell 7
          have q8 := bE.cell 8
          simp only [List.getElem?_toArray, List.getElem?_cons_zero, List.getElem?_cons_succ] at q0 q1 q2 q3 q4 q5 q6 q7 q8
          refine wpTr_e rfl rfl (fun K hK => ?_)
          go_simp
          refine hK _ _ (fun _ => RS.fr (S' := fun x => x ≠ gA) (Fr.put10 (Fr.refl x51) (g := gA) (fun k => k rfl) _ _ _ _ _ _ _ _ _ _) (fun x _ h => by rcases h with rfl | rfl <;> omega)) ?_
          clear hK K
          (try simp only [Act.put, List.setIfInBounds_toArray, List.set_cons_zero, List.set_cons_succ])
          refine wpTr_e rfl rfl (fun K hK => ?_)
          go_simp
          refine hK _ _ (fun h => absurd rfl h) ?_
          clear hK K
          (try simp only [Act.put, List.setIfInBounds_toArray, List.set_cons_zero, List.set_cons_succ])
          refine wpTr_done ?_
          clear p0 p1 p2 p3 p4 p5 p6 p7 p8 p9 q0 q1 q2 q3 q4 q5 q6 q7 q8 hlA hlE
          obtain ⟨w4, hw4⟩ : ∃ w, w = (((((((((((((((((((x51.setCell ⟨gA, 0, none⟩ (.int .i64 fa.event)).setCell ⟨gA, 1, none⟩ (.int .i64 fa.opts)).setCell ⟨gA, 2, none⟩ (.int .i64 fa.input)).setCell ⟨gA, 3, none⟩ (.int .i64 fa.at_)).setCell ⟨gA, 4, none⟩ (.int .i64 fa.attempt)).setCell ⟨gA, 5, none⟩ (.int .i64 fa.phase)).setCell ⟨gA, 6, none⟩ (.int .i64 fa.since)).setCell ⟨gA, 7, none⟩ (.int .i64 fa.beat)).setCell ⟨gA, 8, none⟩ (.int .i64 fa.detail)).setCell ⟨gA, 9, none⟩ (.int .i64 fa.again)).setCell ⟨gE, 0, none⟩ (.int .i64 0)).setCell ⟨gE, 1, none⟩ (.int .i64 0)).setCell ⟨gE, 2, none⟩ (.int .i64 fe.kind)).setCell ⟨gE, 3, none⟩ (.int .i64 fe.a)).setCell ⟨gE, 4, none⟩ (.int .i64 fe.b)).setCell ⟨gE, 5, none⟩ (.int .i64 fe.c)).setCell ⟨gE, 6, none⟩ (.int .i64 0)).setCell ⟨gE, 7, none⟩ (.int .i64 0)).setCell ⟨gE, 8, none⟩ (.int .i64 0)) := ⟨_, rfl⟩
          rw [← hw4]
          have D0 : Box w4 gA 40 fa.cells := by rw [hw4]; exact (bA.put10 _ _ _ _ _ _ _ _ _ _).fr (Fr.put9 (S := fun x => x ≠ gE) (Fr.refl _) (g := gE) (fun h => h rfl) _ _ _ _ _ _ _ _ _) hAE
          have D1 : Box w4 gE 51 fe.cells := by rw [hw4]; exact (bE.fr (Fr.put10 (S := fun x => x ≠ gA) (Fr.refl _) (g := gA) (fun h => h rfl) _ _ _ _ _ _ _ _ _ _) hEA).put9 _ _ _ _ _ _ _ _ _
          have hF4 : Fr (fun x => x ≠ gA ∧ x ≠ gE) x51 w4 := by rw [hw4]; exact Fr.put9 (Fr.put10 (Fr.refl _) (g := gA) (fun h => h.1 rfl) _ _ _ _ _ _ _ _ _ _) (g := gE) (fun h => h.2 rfl) _ _ _ _ _ _ _ _ _
          have F2 := (C2.ext hE).fr hF4 ⟨by omega, by omega⟩
          have F3 := (C3.ext hE).fr hF4 ⟨by omega, by omega⟩
          have hz4 := hF4.size
          have hX4 : Ext w w4 := Fr.ext (S := fun x => x < S) ((Fr.of_ext (hX2.trans' hE)).step hF4 (fun x _ h => ⟨by omega, by omega⟩)) (fun x h => by rw [← HS.out]; exact h)
          clear hw4 hF4 bA bE HF HEND o0 o1 o2 o3 o4 o5 o6 o7 o8 o9 o10 o_f a0 a1 a2 a3 a4 a5 a6 a7 a8 a9
          have hlA := D0.lt
          have hlE := D1.lt
          have fR := F2.frozen
          have fE := F3.frozen
          have fa_ := D0.frozen
          have r0 := F2.cell 0
          have r1 := F2.cell 1
          have r2 := F2.cell 2
          have r3 := F2.cell 3
          have r4 := F2.cell 4
          have r5 := F2.cell 5
          have r6 := F2.cell 6
          have r7 := F2.cell 7
          have r8 := F2.cell 8
          have r9 := F2.cell 9
          simp only [ActV.cells, EvV.cells, List.getElem?_toArray, List.getElem?_cons_zero, List.getElem?_cons_succ] at r0 r1 r2 r3 r4 r5 r6 r7 r8 r9
          have e0 := F3.cell 0
          have e1 := F3.cell 1
          have e2 := F3.cell 2
          have e3 := F3.cell 3
          have e4 := F3.cell 4
          have e5 := F3.cell 5
          have e6 := F3.cell 6
          have e7 := F3.cell 7
          have e8 := F3.cell 8
          simp only [ActV.cells, EvV.cells, List.getElem?_toArray, List.getElem?_cons_zero, List.getElem?_cons_succ] at e0 e1 e2 e3 e4 e5 e6 e7 e8
          have p0 := D0.cell 0
          have p1 := D0.cell 1
          have p2 := D0.cell 2
          have p3 := D0.cell 3
          have p4 := D0.cell 4
          have p5 := D0.cell 5
          have p6 := D0.cell 6
          have p7 := D0.cell 7
          have p8 := D0.cell 8
          have p9 := D0.cell 9
          simp only [ActV.cells, EvV.cells, List.getElem?_toArray, List.getElem?_cons_zero, List.getElem?_cons_succ] at p0 p1 p2 p3 p4 p5 p6 p7 p8 p9
          have q0 := D1.cell 0
          have q1 := D1.cell 1
          have q2 := D1.cell 2
          have q3 := D1.cell 3
          have q4 := D1.cell 4
          have q5 := D1.cell 5
          have q6 := D1.cell 6
          have q7 := D1.cell 7
          have q8 := D1.cell 8
          simp only [ActV.cells, EvV.cells, List.getElem?_toArray, List.getElem?_cons_zero, List.getElem?_cons_succ] at q0 q1 q2 q3 q4 q5 q6 q7 q8
          clear C0 C1 C2 C3 hX2
          go_wp2_with fail
          refine wp_region_sch (RS ((fun x => x = gA ∨ x = gE))) 5 [(0, true), (1, true), (2, false), (3, false), (4, true)] (by kernel_rfl) (by kernel_rfl) RS.refl RS.trans (fun _ _ d _ _ h => by cases d <;> exact h) ?_
          refine wpSch_q ?_ rfl rfl (fun w' hR => ?_) ?_
          rotate_left
          · (obtain ⟨hRs, hRc⟩ := hR; (try have hRd := fun o => hRc _ o rfl (by first | (simp; done) | (simp; omega) | omega)); (try have hRe := fun o => hRc _ o (Or.inl rfl) (by first | (simp; done) | (simp; omega) | omega)); (try have hRf := fun o => hRc _ o (Or.inr rfl) (by first | (simp; done) | (simp; omega) | omega)); (try have hRg := fun o => hRc _ o (Or.inr (Or.inl rfl)) (by first | (simp; done) | (simp; omega) | omega)); (try have hRh := fun o => hRc _ o (Or.inr (Or.inr rfl)) (by first | (simp; done) | (simp; omega) | omega)); go_simp; first | rfl | rw [if_neg (by simp; omega)] | rw [if_neg (by omega)])
          (try simp only [Act.put, List.setIfInBounds_toArray, List.set_cons_zero, List.set_cons_succ])
          refine wpSch_q ?_ rfl rfl (fun w' hR => ?_) ?_
          rotate_left
          · (obtain ⟨hRs, hRc⟩ := hR; (try have hRd := fun o => hRc _ o rfl (by first | (simp; done) | (simp; omega) | omega)); (try have hRe := fun o => hRc _ o (Or.inl rfl) (by first | (simp; done) | (simp; omega) | omega)); (try have hRf := fun o => hRc _ o (Or.inr rfl) (by first | (simp; done) | (simp; omega) | omega)); (try have hRg := fun o => hRc _ o (Or.inr (Or.inl rfl)) (by first | (simp; done) | (simp; omega) | omega)); (try have hRh := fun o => hRc _ o (Or.inr (Or.inr rfl)) (by first | (simp; done) | (simp; omega) | omega)); go_simp; first | rfl | rw [if_neg (by simp; omega)] | rw [if_neg (by omega)])
          (try simp only [Act.put, List.setIfInBounds_toArray, List.set_cons_zero, List.set_cons_succ])
          refine wpSch_e rfl rfl (fun K hK => ?_)
          go_simp
          refine hK _ _ (fun _ => RS.put10 w4 (fun h => by omega) _ _ _ _ _ _ _ _ _ _) ?_
          clear hK K
          (try simp only [Act.put, List.setIfInBounds_toArray, List.set_cons_zero, List.set_cons_succ])
          skip
          refine wpSch_e rfl rfl (fun K hK => ?_)
          go_simp
          refine hK _ _ (fun _ => RS.put9 _ (fun h => by omega) _ _ _ _ _ _ _ _ _) ?_
          clear hK K
          (try simp only [Act.put, List.setIfInBounds_toArray, List.set_cons_zero, List.set_cons_succ])
          skip
          refine wpSch_q ?_ rfl rfl (fun w' hR => ?_) ?_
          rotate_left
          · (go_simp; first | rfl | rw [if_neg (by simp; omega)] | rw [if_neg (by omega)])
          (try simp only [Act.put, List.setIfInBounds_toArray, List.set_cons_zero, List.set_cons_succ])
          refine wpSch_nil ?_
          (try simp only [Exit.then]); (try go_at_K); (try dsimp only); (repeat (first | go_values | go_skip | go_guarded | go_step | go_upon)); (try simp only [Exit.inBlock, Exit.then])
          refine ret_AET rfl rfl (x0 := fa) ((F2.put10 _ _ _ _ _ _ _ _ _ _).fr (Fr.put9 (S := fun x => x ≠ S + 1 + 1 + 1) (Fr.refl _) (g := S + 1 + 1 + 1) (fun h => h rfl) _ _ _ _ _ _ _ _ _) (by omega)).drew rfl (x1 := fe) ((F3.fr (Fr.put10 (S := fun x => x ≠ S + 1 + 1) (Fr.refl w4) (g := S + 1 + 1) (fun h => h rfl) _ _ _ _ _ _ _ _ _ _) (by omega)).put9 _ _ _ _ _ _ _ _ _).drew rfl rfl ?_
          exact ⟨rfl, (Fr.ext (S := fun x => x < S) (Fr.put9 (Fr.put10 (Fr.of_ext hX4) (g := S + 1 + 1) (by omega) _ _ _ _ _ _ _ _ _ _) (g := S + 1 + 1 + 1) (by omega) _ _ _ _ _ _ _ _ _) (fun x h => by rw [← HS.out]; exact h)).trans' (Ext.dr _)⟩
      · refine wpTr_e rfl rfl (fun K hK => ?_)
        go_simp
        refine hK _ _ (fun _ => RS.alloc _) ?_
        clear hK K
        (try simp only [Act.put, List.setIfInBounds_toArray, List.set_cons_zero, List.set_cons_succ])
        obtain ⟨gA, hgA⟩ : ∃ g, x44.heap.size = g := ⟨_, rfl⟩
        rw [hgA]
        obtain ⟨x54, hx54⟩ : ∃ w, w = x44.alloc (.cells #[.int .i64 0, .int .i64 0, .int .i64 0, .int .i64 0, .int .i64 0, .int .i64 0, .int .i64 0, .int .i64 0, .int .i64 0, .int .i64 0] 40) := ⟨_, rfl⟩
        rw [← hx54]
        have hbx54 : Ext x44 x54 := by rw [hx54]; exact Ext.al _ _
        have bA : Box x54 gA 40 #[.int .i64 0, .int .i64 0, .int .i64 0, .int .i64 0, .int .i64 0, .int .i64 0, .int .i64 0, .int .i64 0, .int .i64 0, .int .i64 0] := by rw [hx54]; exact Box.new_at _ _ _ _ hgA.symm
        have hnebE : ¬ gE = gA := by have := bE.lt; omega
        have bE := bE.ext hbx54
        have hgegA : S + 1 + 1 + 1 < gA := by have := hE.size; omega
        have hE := hE.trans' hbx54
        clear hx54 hgA
        refine wpTr_e rfl rfl (fun K hK => ?_)
        go_simp
        refine (HEND.out _).mono ?_
        rintro e x55 ⟨rfl, hbx55⟩
        refine hK _ _ (fun _ => RS.fr (S' := fun _ => True) (Fr.of_ext hbx55) (fun _ _ _ => trivial)) ?_
        clear hK K
        (try simp only [Act.put, List.setIfInBounds_toArray, List.set_cons_zero, List.set_cons_succ])
        have bE := bE.ext hbx55
        have bA := bA.ext hbx55
        have hE := hE.trans' hbx55
        refine wpTr_e rfl rfl (fun K hK => ?_)
        go_simp
        refine (HF.out _).mono ?_
        rintro e x56 ⟨rfl, hbx56⟩
        refine hK _ _ (fun _ => RS.fr (S' := fun _ => True) (Fr.of_ext hbx56) (fun _ _ _ => trivial)) ?_
        clear hK K
        (try simp only [Act.put, List.setIfInBounds_toArray, List.set_cons_zero, List.set_cons_succ])
        dsimp only [ActV.cells, EvV.cells]
        have bE := bE.ext hbx56
        have bA := bA.ext hbx56
        have hE := hE.trans' hbx56
        refine wpTr_q ?_ rfl rfl (fun w' hR => ?_) ?_
        rotate_left
        · (go_simp; first | rfl | rw [if_neg (by simp; omega)] | rw [if_neg (by omega)])
        (try simp only [Act.put, List.setIfInBounds_toArray, List.set_cons_zero, List.set_cons_succ])
        refine wpTr_q ?_ rfl rfl (fun w' hR => ?_) ?_
        rotate_left
        · (go_simp; first | rfl | rw [if_neg (by simp; omega)] | rw [if_neg (by omega)])
        (try simp only [Act.put, List.setIfInBounds_toArray, List.set_cons_zero, List.set_cons_succ])
        refine wpTr_q ?_ rfl rfl (fun w' hR => ?_) ?_
        rotate_left
        · (go_simp; first | rfl | rw [if_neg (by simp; omega)] | rw [if_neg (by omega)])
        (try simp only [Act.put, List.setIfInBounds_toArray, List.set_cons_zero, List.set_cons_succ])
        have hlA := bA.frozen
        have hlE := bE.frozen
        have hAE : ¬ gA = gE := by omega
        have hEA : ¬ gE = gA := by omega
        have p0 := bA.cell 0
        have p1 := bA.cell 1
        have p2 := bA.cell 2
        have p3 := bA.cell 3
        have p4 := bA.cell 4
        have p5 := bA.cell 5
        have p6 := bA.cell 6
        have p7 := bA.cell 7
        have p8 := bA.cell 8
        have p9 := bA.cell 9
        simp only [List.getElem?_toArray, List.getElem?_cons_zero, List.getElem?_cons_succ] at p0 p1 p2 p3 p4 p5 p6 p7 p8 p9
        have q0 := bE.cell 0
        have q1 := bE.cell 1
        have q2 := bE.cell 2
        have q3 := bE.cell 3
        have q4 := bE.cell 4
        have q5 := bE.cell 5
        have q6 := bE.cell 6
        have q7 := bE.cell 7
        have q8 := bE.cell 8
        simp only [List.getElem?_toArray, List.getElem?_cons_zero, List.getElem?_cons_succ] at q0 q1 q2 q3 q4 q5 q6 q7 q8
        refine wpTr_e rfl rfl (fun K hK => ?_)
        go_simp
        refine hK _ _ (fun _ => RS.fr (S' := fun x => x ≠ gA) (Fr.put10 (Fr.refl x56) (g := gA) (fun k => k rfl) _ _ _ _ _ _ _ _ _ _) (fun x _ h => by rcases h with rfl | rfl <;> omega)) ?_
        clear hK K
        (try simp only [Act.put, List.setIfInBounds_toArray, List.set_cons_zero, List.set_cons_succ])
        refine wpTr_e rfl rfl (fun K hK => ?_)
        go_simp
        refine hK _ _ (fun h => absurd rfl h) ?_
        clear hK K
        (try simp only [Act.put, List.setIfInBounds_toArray, List.set_cons_zero, List.set_cons_succ])
        refine wpTr_done ?_
        clear p0 p1 p2 p3 p4 p5 p6 p7 p8 p9 q0 q1 q2 q3 q4 q5 q6 q7 q8 hlA hlE
        obtain ⟨w4, hw4⟩ : ∃ w, w = (((((((((((((((((((x56.setCell ⟨gA, 0, none⟩ (.int .i64 fa.event)).setCell ⟨gA, 1, none⟩ (.int .i64 fa.opts)).setCell ⟨gA, 2, none⟩ (.int .i64 fa.input)).setCell ⟨gA, 3, none⟩ (.int .i64 fa.at_)).setCell ⟨gA, 4, none⟩ (.int .i64 fa.attempt)).setCell ⟨gA, 5, none⟩ (.int .i64 fa.phase)).setCell ⟨gA, 6, none⟩ (.int .i64 fa.since)).setCell ⟨gA, 7, none⟩ (.int .i64 fa.beat)).setCell ⟨gA, 8, none⟩ (.int .i64 fa.detail)).setCell ⟨gA, 9, none⟩ (.int .i64 fa.again)).setCell ⟨gE, 0, none⟩ (.int .i64 0)).setCell ⟨gE, 1, none⟩ (.int .i64 0)).setCell ⟨gE, 2, none⟩ (.int .i64 fe.kind)).setCell ⟨gE, 3, none⟩ (.int .i64 fe.a)).setCell ⟨gE, 4, none⟩ (.int .i64 fe.b)).setCell ⟨gE, 5, none⟩ (.int .i64 fe.c)).setCell ⟨gE, 6, none⟩ (.int .i64 0)).setCell ⟨gE, 7, none⟩ (.int .i64 0)).setCell ⟨gE, 8, none⟩ (.int .i64 0)) := ⟨_, rfl⟩
        rw [← hw4]
        have D0 : Box w4 gA 40 fa.cells := by rw [hw4]; exact (bA.put10 _ _ _ _ _ _ _ _ _ _).fr (Fr.put9 (S := fun x => x ≠ gE) (Fr.refl _) (g := gE) (fun h => h rfl) _ _ _ _ _ _ _ _ _) hAE
        have D1 : Box w4 gE 51 fe.cells := by rw [hw4]; exact (bE.fr (Fr.put10 (S := fun x => x ≠ gA) (Fr.refl _) (g := gA) (fun h => h rfl) _ _ _ _ _ _ _ _ _ _) hEA).put9 _ _ _ _ _ _ _ _ _
        have hF4 : Fr (fun x => x ≠ gA ∧ x ≠ gE) x56 w4 := by rw [hw4]; exact Fr.put9 (Fr.put10 (Fr.refl _) (g := gA) (fun h => h.1 rfl) _ _ _ _ _ _ _ _ _ _) (g := gE) (fun h => h.2 rfl) _ _ _ _ _ _ _ _ _
        have F2 := (C2.ext hE).fr hF4 ⟨by omega, by omega⟩
        have F3 := (C3.ext hE).fr hF4 ⟨by omega, by omega⟩
        have hz4 := hF4.size
        have hX4 : Ext w w4 := Fr.ext (S := fun x => x < S) ((Fr.of_ext (hX2.trans' hE)).step hF4 (fun x _ h => ⟨by omega, by omega⟩)) (fun x h => by rw [← HS.out]; exact h)
        clear hw4 hF4 bA bE HF HEND o0 o1 o2 o3 o4 o5 o6 o7 o8 o9 o10 o_f a0 a1 a2 a3 a4 a5 a6 a7 a8 a9
        have hlA := D0.lt
        have hlE := D1.lt
        have fR := F2.frozen
        have fE := F3.frozen
        have fa_ := D0.frozen
        have r0 := F2.cell 0
        have r1 := F2.cell 1
        have r2 := F2.cell 2
        have r3 := F2.cell 3
        have r4 := F2.cell 4
        have r5 := F2.cell 5
        have r6 := F2.cell 6
        have r7 := F2.cell 7
        have r8 := F2.cell 8
        have r9 := F2.cell 9
        simp only [ActV.cells, EvV.cells, List.getElem?_toArray, List.getElem?_cons_zero, List.getElem?_cons_succ] at r0 r1 r2 r3 r4 r5 r6 r7 r8 r9
        have e0 := F3.cell 0
        have e1 := F3.cell 1
        have e2 := F3.cell 2
        have e3 := F3.cell 3
        have e4 := F3.cell 4
        have e5 := F3.cell 5
        have e6 := F3.cell 6
        have e7 := F3.cell 7
        have e8 := F3.cell 8
        simp only [ActV.cells, EvV.cells, List.getElem?_toArray, List.getElem?_cons_zero, List.getElem?_cons_succ] at e0 e1 e2 e3 e4 e5 e6 e7 e8
        have p0 := D0.cell 0
        have p1 := D0.cell 1
        have p2 := D0.cell 2
        have p3 := D0.cell 3
        have p4 := D0.cell 4
        have p5 := D0.cell 5
        have p6 := D0.cell 6
        have p7 := D0.cell 7
        have p8 := D0.cell 8
        have p9 := D0.cell 9
        simp only [ActV.cells, EvV.cells, List.getElem?_toArray, List.getElem?_cons_zero, List.getElem?_cons_succ] at p0 p1 p2 p3 p4 p5 p6 p7 p8 p9
        have q0 := D1.cell 0
        have q1 := D1.cell 1
        have q2 := D1.cell 2
        have q3 := D1.cell 3
        have q4 := D1.cell 4
        have q5 := D1.cell 5
        have q6 := D1.cell 6
        have q7 := D1.cell 7
        have q8 := D1.cell 8
        simp only [ActV.cells, EvV.cells, List.getElem?_toArray, List.getElem?_cons_zero, List.getElem?_cons_succ] at q0 q1 q2 q3 q4 q5 q6 q7 q8
        clear C0 C1 C2 C3 hX2
        go_wp2_with fail
        refine wp_region_sch (RS ((fun x => x = gA ∨ x = gE))) 5 [(0, true), (1, true), (2, false), (3, false), (4, true)] (by kernel_rfl) (by kernel_rfl) RS.refl RS.trans (fun _ _ d _ _ h => by cases d <;> exact h) ?_
        refine wpSch_q ?_ rfl rfl (fun w' hR => ?_) ?_
        rotate_left
        · (obtain ⟨hRs, hRc⟩ := hR; (try have hRd := fun o => hRc _ o rfl (by first | (simp; done) | (simp; omega) | omega)); (try have hRe := fun o => hRc _ o (Or.inl rfl) (by first | (simp; done) | (simp; omega) | omega)); (try have hRf := fun o => hRc _ o (Or.inr rfl) (by first | (simp; done) | (simp; omega) | omega)); (try have hRg := fun o => hRc _ o (Or.inr (Or.inl rfl)) (by first | (simp; done) | (simp; omega) | omega)); (try have hRh := fun o => hRc _ o (Or.inr (Or.inr rfl)) (by first | (simp; done) | (simp; omega) | omega)); go_simp; first | rfl | rw [if_neg (by simp; omega)] | rw [if_neg (by omega)])
        (try simp only [Act.put, List.setIfInBounds_toArray, List.set_cons_zero, List.set_cons_succ])
        refine wpSch_q ?_ rfl rfl (fun w' hR => ?_) ?_
        rotate_left
        · (obtain ⟨hRs, hRc⟩ := hR; (try have hRd := fun o => hRc _ o rfl (by first | (simp; done) | (simp; omega) | omega)); (try have hRe := fun o => hRc _ o (Or.inl rfl) (by first | (simp; done) | (simp; omega) | omega)); (try have hRf := fun o => hRc _ o (Or.inr rfl) (by first | (simp; done) | (simp; omega) | omega)); (try have hRg := fun o => hRc _ o (Or.inr (Or.inl rfl)) (by first | (simp; done) | (simp; omega) | omega)); (try have hRh := fun o => hRc _ o (Or.inr (Or.inr rfl)) (by first | (simp; done) | (simp; omega) | omega)); go_simp; first | rfl | rw [if_neg (by simp; omega)] | rw [if_neg (by omega)])
        (try simp only [Act.put, List.setIfInBounds_toArray, List.set_cons_zero, List.set_cons_succ])
        refine wpSch_e rfl rfl (fun K hK => ?_)
        go_simp
        refine hK _ _ (fun _ => RS.put10 w4 (fun h => by omega) _ _ _ _ _ _ _ _ _ _) ?_
        clear hK K
        (try simp only [Act.put, List.setIfInBounds_toArray, List.set_cons_zero, List.set_cons_succ])
        skip
        refine wpSch_e rfl rfl (fun K hK => ?_)
        go_simp
        refine hK _ _ (fun _ => RS.put9 _ (fun h => by omega) _ _ _ _ _ _ _ _ _) ?_
        clear hK K
        (try simp only [Act.put, List.setIfInBounds_toArray, List.set_cons_zero, List.set_cons_succ])
        skip
        refine wpSch_q ?_ rfl rfl (fun w' hR => ?_) ?_
        rotate_left
        · (go_simp; first | rfl | rw [if_neg (by simp; omega)] | rw [if_neg (by omega)])
        (try simp only [Act.put, List.setIfInBounds_toArray, List.set_cons_zero, List.set_cons_succ])
        refine wpSch_nil ?_
        (try simp only [Exit.then]); (try go_at_K); (try dsimp only); (repeat (first | go_values | go_skip | go_guarded | go_step | go_upon)); (try simp only [Exit.inBlock, Exit.then])
        refine ret_AET rfl rfl (x0 := fa) ((F2.put10 _ _ _ _ _ _ _ _ _ _).fr (Fr.put9 (S := fun x => x ≠ S + 1 + 1 + 1) (Fr.refl _) (g := S + 1 + 1 + 1) (fun h => h rfl) _ _ _ _ _ _ _ _ _) (by omega)).drew rfl (x1 := fe) ((F3.fr (Fr.put10 (S := fun x => x ≠ S + 1 + 1) (Fr.refl w4) (g := S + 1 + 1) (fun h => h rfl) _ _ _ _ _ _ _ _ _ _) (by omega)).put9 _ _ _ _ _ _ _ _ _).drew rfl rfl ?_
        exact ⟨rfl, (Fr.ext (S := fun x => x < S) (Fr.put9 (Fr.put10 (Fr.of_ext hX4) (g := S + 1 + 1) (by omega) _ _ _ _ _ _ _ _ _ _) (g := S + 1 + 1 + 1) (by omega) _ _ _ _ _ _ _ _ _) (fun x h => by rw [← HS.out]; exact h)).trans' (Ext.dr _)⟩
end Go.Proofs.Ytjmdbgbkmjlmdaa
