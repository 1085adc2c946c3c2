/- When something is tried again (layer 17): the program's walks and the document's. -/
import Derived.Test.YtjmdbgbkmjlmdaaProg
import Derived.Test.YtjmdbgbkmjlmdaaActs2
import Derived.Test.YtjmdbgbkmjlmdaaFr
import Derived.BigGuardPart
import Derived.WalkMore
namespace Go.Proofs.Ytjmdbgbkmjlmdaa
set_option linter.unusedSimpArgs false
set_option linter.unusedVariables false
open Go.RowKit

set_option maxRecDepth 100000 in
set_option maxHeartbeats 800000 in
theorem limit_ref (o : OptV) (w : World) : Calls Try.prog 95 #[.agg o.cells] w fun e w' => e = .returned (iv (limitOf o)) ∧ Ext w w' := by
  unfold limitOf
  go_enter Try.func95, Try.ntmps95
  dsimp only [OptV.cells]
  by_cases h : o.most = 0
  · have h' : (o.most == (0 : Int)) = true := by simpa using h
    rw [if_pos h]
    go_wp2
    go_ret
    exact ⟨rfl, by (repeat (first | exact Below.refl _ _ | refine Ext.trans' ?_ (Ext.al _ _) | refine Ext.trans' ?_ (Ext.dr _) | refine Ext.trans' ?_ (by assumption)))⟩
  · have h' : (o.most == (0 : Int)) = false := by simpa using h
    rw [if_neg h]
    go_wp2
    go_ret
    exact ⟨rfl, by (repeat (first | exact Below.refl _ _ | refine Ext.trans' ?_ (Ext.al _ _) | refine Ext.trans' ?_ (Ext.dr _) | refine Ext.trans' ?_ (by assumption)))⟩
/-- a step of waiting, as the walk meets it -/
theorem wait_step {o : OptV} (h : o.May) {v : Int} (h0 : 0 ≤ v) (h1 : v ≤ 1048576) : ∃ m d : Int, v * o.num = m ∧ 0 ≤ m ∧ m ≤ 1048576000 ∧ m.tdiv o.den = d ∧ 0 ≤ d ∧ d ≤ 1048576000 ∧ (if limitOf o < d then limitOf o else d) = waitNext o v := by
  have hn := h.num
  have hd := h.den
  have m0 : 0 ≤ v * o.num := Int.mul_nonneg h0 (by omega)
  have m1 : v * o.num ≤ 1048576 * 1000 := Int.mul_le_mul h1 (by omega) (by omega) (by omega)
  have e : (v * o.num).tdiv o.den = v * o.num / o.den := Int.tdiv_eq_ediv_of_nonneg m0
  have d0 : 0 ≤ v * o.num / o.den := Int.ediv_nonneg m0 (by omega)
  have d1 : v * o.num / o.den ≤ v * o.num := Int.ediv_le_self _ m0
  exact ⟨_, _, rfl, m0, by omega, e, d0, by omega, by unfold waitNext; split <;> omega⟩
theorem wait_end {o : OptV} {n k : Nat} (hk : k ≤ n) {v : Int} (h : waitNext o v = v) : waitGo o (n - k) v = v := by
  cases hh : n - k with
  | zero => rfl
  | succ m => rw [waitGo, if_pos h]
theorem wait_more {o : OptV} {n k : Nat} (hk : k < n) {v : Int} (h : waitNext o v ≠ v) : waitGo o (n - k) v = waitGo o (n - (k + 1)) (waitNext o v) := by
  have : n - k = (n - (k + 1)) + 1 := by omega
  rw [this, waitGo, if_neg h]

set_option maxRecDepth 100000 in
set_option maxHeartbeats 800000 in
theorem wait_ref (o : OptV) (ho : o.May) (attempt : Int) (ha : T62 attempt) (w : World) : Calls Try.prog 76 #[.agg o.cells, iv attempt] w fun e w' => e = .returned (iv (waitOf o attempt)) ∧ Ext w w' := by
  have HLIM := Lib.hid (fun w => limit_ref o w)
  obtain ⟨l0, l1⟩ := limit_facts ho
  obtain ⟨lim, hlim⟩ : ∃ lim, limitOf o = lim := ⟨_, rfl⟩
  obtain ⟨n, hn⟩ : ∃ n, (attempt - 1).toNat = n := ⟨_, rfl⟩
  obtain ⟨v0, hv0⟩ : ∃ v0, (if lim < o.first then lim else o.first) = v0 := ⟨_, rfl⟩
  have hmin : min o.first lim = v0 := by rw [← hv0]; split <;> omega
  have hw : waitOf o attempt = waitGo o n v0 := by rw [← hmin, ← hn, ← hlim]; rfl
  rw [hw]
  rw [hlim] at HLIM l0 l1
  have hf := ho.first
  have HO := Lib.hid ho
  have hvb : 0 ≤ v0 ∧ v0 ≤ 1048576 := by rw [← hmin]; omega
  have HL := Lib.hid hlim
  unfold T62 at ha
  clear ho hw hlim hmin
  go_enter Try.func76, Try.ntmps76
  dsimp only [OptV.cells]
  go_wp2_with fail
  obtain ⟨S, hS⟩ : ∃ S, w.heap.size = S := ⟨_, rfl⟩
  (obtain ⟨w0, hw0⟩ : ∃ w0, w0 = World.alloc w (.cells #[iv o.queue, iv o.start, iv o.close, iv o.total, iv o.beat, iv o.first, iv o.num, iv o.den, iv o.most, iv o.tries, iv o.never] 42) := ⟨_, rfl⟩); (have hbox_w0 : Box w0 (w).heap.size 42 #[iv o.queue, iv o.start, iv o.close, iv o.total, iv o.beat, iv o.first, iv o.num, iv o.den, iv o.most, iv o.tries, iv o.never] := by rw [hw0]; exact Box.new _ _ _); (have hE_w0 : Ext w w0 := by rw [hw0]; exact Ext.al _ _); (have hz_w0 : (w0).heap.size = (w).heap.size + 1 := by rw [hw0]; simp); rw [← hw0]; clear hw0
  rw [hS] at hbox_w0 ⊢
  have hX0 := hE_w0
  have hSl : S < w0.heap.size := hbox_w0.lt
  clear hE_w0 hz_w0
  have o0 := hbox_w0.cell 0
  have o1 := hbox_w0.cell 1
  have o2 := hbox_w0.cell 2
  have o3 := hbox_w0.cell 3
  have o4 := hbox_w0.cell 4
  have o5 := hbox_w0.cell 5
  have o6 := hbox_w0.cell 6
  have o7 := hbox_w0.cell 7
  have o8 := hbox_w0.cell 8
  have o9 := hbox_w0.cell 9
  have o10 := hbox_w0.cell 10
  simp only [List.getElem?_toArray, List.getElem?_cons_zero, List.getElem?_cons_succ] at o0 o1 o2 o3 o4 o5 o6 o7 o8 o9 o10
  refine wp_region_sch (RS ((fun x => x = S))) 6 [(0, true), (1, true), (2, true), (3, false), (4, true), (5, true)] (by kernel_rfl) (by kernel_rfl) RS.refl RS.trans (fun _ _ d _ _ h => by cases d <;> exact h) ?_
  refine wpSch_q ?_ rfl rfl (fun w' hR => ?_) ?_
  rotate_left
  · (go_simp; first | rfl | rw [if_neg (by simp; omega)] | rw [if_neg (by omega)])
  (try simp only [Act.put, List.setIfInBounds_toArray, List.set_cons_zero, List.set_cons_succ])
  refine wpSch_q ?_ rfl rfl (fun w' hR => ?_) ?_
  rotate_left
  · (obtain ⟨hRs, hRc⟩ := hR; (try have hRd := fun o => hRc _ o rfl (by first | (simp; done) | (simp; omega) | omega)); (try have hRe := fun o => hRc _ o (Or.inl rfl) (by first | (simp; done) | (simp; omega) | omega)); (try have hRf := fun o => hRc _ o (Or.inr rfl) (by first | (simp; done) | (simp; omega) | omega)); (try have hRg := fun o => hRc _ o (Or.inr (Or.inl rfl)) (by first | (simp; done) | (simp; omega) | omega)); (try have hRh := fun o => hRc _ o (Or.inr (Or.inr rfl)) (by first | (simp; done) | (simp; omega) | omega)); go_simp; first | rfl | rw [if_neg (by simp; omega)] | rw [if_neg (by omega)])
  (try simp only [Act.put, List.setIfInBounds_toArray, List.set_cons_zero, List.set_cons_succ])
  refine wpSch_q ?_ rfl rfl (fun w' hR => ?_) ?_
  rotate_left
  · (obtain ⟨hRs, hRc⟩ := hR; (try have hRd := fun o => hRc _ o rfl (by first | (simp; done) | (simp; omega) | omega)); (try have hRe := fun o => hRc _ o (Or.inl rfl) (by first | (simp; done) | (simp; omega) | omega)); (try have hRf := fun o => hRc _ o (Or.inr rfl) (by first | (simp; done) | (simp; omega) | omega)); (try have hRg := fun o => hRc _ o (Or.inr (Or.inl rfl)) (by first | (simp; done) | (simp; omega) | omega)); (try have hRh := fun o => hRc _ o (Or.inr (Or.inr rfl)) (by first | (simp; done) | (simp; omega) | omega)); go_simp; first | rfl | rw [if_neg (by simp; omega)] | rw [if_neg (by omega)])
  (try simp only [Act.put, List.setIfInBounds_toArray, List.set_cons_zero, List.set_cons_succ])
  refine wpSch_e rfl rfl (fun K hK => ?_)
  go_simp
  refine (HLIM.out w0.drew).mono ?_
  rintro e w1 ⟨rfl, hb1⟩
  refine hK _ _ (fun _ => RS.fr (S' := fun _ => True) (Fr.of_ext hb1) (fun _ _ _ => trivial)) ?_
  clear hK K
  (try simp only [Act.put, List.setIfInBounds_toArray, List.set_cons_zero, List.set_cons_succ])
  skip
  refine wpSch_q ?_ rfl rfl (fun w' hR => ?_) ?_
  rotate_left
  · (go_simp; first | rfl | rw [if_neg (by simp; omega)] | rw [if_neg (by omega)])
  (try simp only [Act.put, List.setIfInBounds_toArray, List.set_cons_zero, List.set_cons_succ])
  refine wpSch_q ?_ rfl rfl (fun w' hR => ?_) ?_
  rotate_left
  · (go_simp; first | rfl | rw [if_neg (by simp; omega)] | rw [if_neg (by omega)])
  (try simp only [Act.put, List.setIfInBounds_toArray, List.set_cons_zero, List.set_cons_succ])
  refine wpSch_nil ?_
  have hE1 : Ext w0 w1 := (Ext.dr w0).trans' hb1
  have bO1 := hbox_w0.ext hE1
  have hX1 := hX0.trans' hE1
  clear o0 o1 o2 o3 o4 o5 o6 o7 o8 o9 o10 hbox_w0 hX0 hE1 hb1 hSl
  go_wp2_with fail
  go_loopw [5, 6] (fun v5 v6 wr => ∃ (k : Nat) (v : Int), k ≤ n ∧ v6 = .int .i64 ((k : Int) + 2) ∧ v5 = .int .i64 v ∧ 0 ≤ v ∧ v ≤ 1048576 ∧ Hid (waitGo o (n - k) v = waitGo o n v0) ∧ Box wr S 42 #[iv o.queue, iv o.start, iv o.close, iv o.total, iv o.beat, iv o.first, iv o.num, iv o.den, iv o.most, iv o.tries, iv o.never] ∧ Ext w wr) (fun _ i _ => attempt.toNat + 2 - (intOf i).toNat)
  · exact ⟨0, v0, by omega, rfl, rfl, hvb.1, hvb.2, rfl, bO1, hX1⟩
  · clear bO1 hX1
    obtain ⟨k, v, hk, rfl, rfl, hv0', hv1, hgo, bO, hX⟩ := hrel
    by_cases hlt : (k : Int) + 2 ≤ attempt
    · obtain ⟨m, d, hm, m0, m1, hd, d0, d1, hnx⟩ := wait_step HO.out hv0' hv1
      have hden := HO.out.den
      have hSl : S < wr.heap.size := bO.lt
      rw [HL.out] at hnx
      obtain ⟨x, hx⟩ : ∃ x, waitNext o v = x := ⟨_, rfl⟩
      rw [hx] at hnx
      have hxf := waitNext_facts HO.out hv0'
      rw [hx] at hxf
      have hkn : k < n := by omega
      have HXE := Lib.hid hx
      have hden0 : ¬ o.den = 0 := by omega
      have hwm : IntKind.i64.wrap m = m := IntWalk.i64_in _ (by omega)
      have hwd : IntKind.i64.wrap d = d := IntWalk.i64_in _ (by omega)
      clear hx
      have o0 := bO.cell 0
      have o1 := bO.cell 1
      have o2 := bO.cell 2
      have o3 := bO.cell 3
      have o4 := bO.cell 4
      have o5 := bO.cell 5
      have o6 := bO.cell 6
      have o7 := bO.cell 7
      have o8 := bO.cell 8
      have o9 := bO.cell 9
      have o10 := bO.cell 10
      simp only [List.getElem?_toArray, List.getElem?_cons_zero, List.getElem?_cons_succ] at o0 o1 o2 o3 o4 o5 o6 o7 o8 o9 o10
      go_wp2_with fail
      refine wp_region_sch (RS ((fun x => x = S))) 11 [(0, true), (1, true), (2, true), (3, true), (4, true), (5, true), (6, true), (7, true), (8, false), (9, true), (10, true)] (by kernel_rfl) (by kernel_rfl) RS.refl RS.trans (fun _ _ d _ _ h => by cases d <;> exact h) ?_
      refine wpSch_q ?_ rfl rfl (fun w' hR => ?_) ?_
      rotate_left
      · (go_simp; first | rfl | rw [if_neg (by simp; omega)] | rw [if_neg (by omega)])
      (try simp only [Act.put, List.setIfInBounds_toArray, List.set_cons_zero, List.set_cons_succ])
      refine wpSch_q ?_ rfl rfl (fun w' hR => ?_) ?_
      rotate_left
      · (go_simp; first | rfl | rw [if_neg (by simp; omega)] | rw [if_neg (by omega)])
      (try simp only [Act.put, List.setIfInBounds_toArray, List.set_cons_zero, List.set_cons_succ])
      refine wpSch_q ?_ rfl rfl (fun w' hR => ?_) ?_
      rotate_left
      · (obtain ⟨hRs, hRc⟩ := hR; (try have hRd := fun o => hRc _ o rfl (by first | (simp; done) | (simp; omega) | omega)); (try have hRe := fun o => hRc _ o (Or.inl rfl) (by first | (simp; done) | (simp; omega) | omega)); (try have hRf := fun o => hRc _ o (Or.inr rfl) (by first | (simp; done) | (simp; omega) | omega)); (try have hRg := fun o => hRc _ o (Or.inr (Or.inl rfl)) (by first | (simp; done) | (simp; omega) | omega)); (try have hRh := fun o => hRc _ o (Or.inr (Or.inr rfl)) (by first | (simp; done) | (simp; omega) | omega)); go_simp; first | rfl | rw [if_neg (by simp; omega)] | rw [if_neg (by omega)])
      (try simp only [Act.put, List.setIfInBounds_toArray, List.set_cons_zero, List.set_cons_succ])
      refine wpSch_q ?_ rfl rfl (fun w' hR => ?_) ?_
      rotate_left
      · (go_simp; first | rfl | rw [if_neg (by simp; omega)] | rw [if_neg (by omega)])
      (try simp only [Act.put, List.setIfInBounds_toArray, List.set_cons_zero, List.set_cons_succ])
      refine wpSch_q ?_ rfl rfl (fun w' hR => ?_) ?_
      rotate_left
      · (go_simp; first | rfl | rw [if_neg (by simp; omega)] | rw [if_neg (by omega)])
      (try simp only [Act.put, List.setIfInBounds_toArray, List.set_cons_zero, List.set_cons_succ])
      refine wpSch_q ?_ rfl rfl (fun w' hR => ?_) ?_
      rotate_left
      · (obtain ⟨hRs, hRc⟩ := hR; (try have hRd := fun o => hRc _ o rfl (by first | (simp; done) | (simp; omega) | omega)); (try have hRe := fun o => hRc _ o (Or.inl rfl) (by first | (simp; done) | (simp; omega) | omega)); (try have hRf := fun o => hRc _ o (Or.inr rfl) (by first | (simp; done) | (simp; omega) | omega)); (try have hRg := fun o => hRc _ o (Or.inr (Or.inl rfl)) (by first | (simp; done) | (simp; omega) | omega)); (try have hRh := fun o => hRc _ o (Or.inr (Or.inr rfl)) (by first | (simp; done) | (simp; omega) | omega)); go_simp; first | rfl | rw [if_neg (by simp; omega)] | rw [if_neg (by omega)])
      (try simp only [Act.put, List.setIfInBounds_toArray, List.set_cons_zero, List.set_cons_succ])
      refine wpSch_q ?_ rfl rfl (fun w' hR => ?_) ?_
      rotate_left
      · (go_simp; first | rfl | rw [if_neg (by simp; omega)] | rw [if_neg (by omega)])
      (try simp only [Act.put, List.setIfInBounds_toArray, List.set_cons_zero, List.set_cons_succ])
      refine wpSch_q ?_ rfl rfl (fun w' hR => ?_) ?_
      rotate_left
      · (obtain ⟨hRs, hRc⟩ := hR; (try have hRd := fun o => hRc _ o rfl (by first | (simp; done) | (simp; omega) | omega)); (try have hRe := fun o => hRc _ o (Or.inl rfl) (by first | (simp; done) | (simp; omega) | omega)); (try have hRf := fun o => hRc _ o (Or.inr rfl) (by first | (simp; done) | (simp; omega) | omega)); (try have hRg := fun o => hRc _ o (Or.inr (Or.inl rfl)) (by first | (simp; done) | (simp; omega) | omega)); (try have hRh := fun o => hRc _ o (Or.inr (Or.inr rfl)) (by first | (simp; done) | (simp; omega) | omega)); go_simp; first | rfl | rw [if_neg (by simp; omega)] | rw [if_neg (by omega)])
      (try simp only [Act.put, List.setIfInBounds_toArray, List.set_cons_zero, List.set_cons_succ])
      refine wpSch_e rfl rfl (fun K hK => ?_)
      go_simp
      refine (HLIM.out wr.drew).mono ?_
      rintro e w1 ⟨rfl, hb1⟩
      refine hK _ _ (fun _ => RS.fr (S' := fun _ => True) (Fr.of_ext hb1) (fun _ _ _ => trivial)) ?_
      clear hK K
      (try simp only [Act.put, List.setIfInBounds_toArray, List.set_cons_zero, List.set_cons_succ])
      skip
      refine wpSch_q ?_ rfl rfl (fun w' hR => ?_) ?_
      rotate_left
      · (go_simp; first | rfl | rw [if_neg (by simp; omega)] | rw [if_neg (by omega)])
      (try simp only [Act.put, List.setIfInBounds_toArray, List.set_cons_zero, List.set_cons_succ])
      refine wpSch_q ?_ rfl rfl (fun w' hR => ?_) ?_
      rotate_left
      · (go_simp; first | rfl | rw [if_neg (by simp; omega)] | rw [if_neg (by omega)])
      (try simp only [Act.put, List.setIfInBounds_toArray, List.set_cons_zero, List.set_cons_succ])
      refine wpSch_nil ?_
      have hE1 : Ext wr w1 := (Ext.dr wr).trans' hb1
      have bO1 := bO.ext hE1
      have hX1 := hX.trans' hE1
      clear o0 o1 o2 o3 o4 o5 o6 o7 o8 o9 o10 bO hX hE1 hb1 hSl hwm hwd hm hd
      by_cases hxv : x = v
      · have hxv' : (x == v) = true := by simpa using hxv
        have HR := Lib.hid (show v = waitGo o n v0 by rw [← hgo.out]; exact (wait_end hk (HXE.out.trans hxv)).symm)
        go_wp2
        go_ret
        exact ⟨by rw [← HR.out]; rfl, hX1⟩
      · have hxv' : (x == v) = false := by simpa using hxv
        have HG : Hid (waitGo o (n - (k + 1)) x = waitGo o n v0) := by
          unfold Hid
          rw [← hgo.out, wait_more hkn (by rw [HXE.out]; exact hxv), HXE.out]
        go_wp2
        exact ⟨⟨k + 1, x, by omega, by simp; omega, rfl, hxf.1, hxf.2, HG, bO1, hX1⟩, by simp [intOf]; omega⟩
    · have HR := Lib.hid (show v = waitGo o n v0 by
        have h0 : n - k = 0 := by omega
        have h1 := hgo.out
        rw [h0] at h1
        exact h1)
      go_wp2
      go_ret
      exact ⟨by rw [← HR.out]; rfl, hX⟩
set_option maxRecDepth 100000 in
set_option maxHeartbeats 800000 in
theorem wait_any (o : OptV) (ho : o.May) (attempt : Int) (ha : T62 attempt) (w : World) : Calls Try.prog 75 #[.agg o.cells, iv attempt] w fun e w' => e = .returned (iv (waitOf o attempt)) ∧ Ext w w' := by
  obtain ⟨l0, l1⟩ := limit_facts ho
  obtain ⟨lim, hlim⟩ : ∃ lim, limitOf o = lim := ⟨_, rfl⟩
  obtain ⟨n, hn⟩ : ∃ n, (attempt - 1).toNat = n := ⟨_, rfl⟩
  obtain ⟨v0, hv0⟩ : ∃ v0, (if lim < o.first then lim else o.first) = v0 := ⟨_, rfl⟩
  rw [hlim] at l0 l1
  have hmin : min o.first lim = v0 := by rw [← hv0]; split <;> omega
  have hw : waitOf o attempt = waitGo o n v0 := by rw [← hmin, ← hn, ← hlim]; rfl
  rw [hw]
  have hf := ho.first
  have HO := Lib.hid ho
  have hvb : 0 ≤ v0 ∧ v0 ≤ 1048576 := by rw [← hmin]; omega
  have HL := Lib.hid hlim
  have hmost : (if o.most = 0 then 1048576 else o.most) = lim := hlim
  unfold T62 at ha
  clear ho hw hlim hmin
  go_enter Try.func75, Try.ntmps75
  dsimp only [OptV.cells]
  obtain ⟨S, hS⟩ : ∃ S, w.heap.size = S := ⟨_, rfl⟩
  (try dsimp only)
  iterate 6 (first | go_values | go_skip | go_guarded | go_step | go_upon | go_in | go_back)
  (obtain ⟨w0, hw0⟩ : ∃ w0, w0 = World.alloc w (.cells #[iv o.queue, iv o.start, iv o.close, iv o.total, iv o.beat, iv o.first, iv o.num, iv o.den, iv o.most, iv o.tries, iv o.never] 42) := ⟨_, rfl⟩); (have hbox_w0 : Box w0 (w).heap.size 42 #[iv o.queue, iv o.start, iv o.close, iv o.total, iv o.beat, iv o.first, iv o.num, iv o.den, iv o.most, iv o.tries, iv o.never] := by rw [hw0]; exact Box.new _ _ _); (have hE_w0 : Ext w w0 := by rw [hw0]; exact Ext.al _ _); (have hz_w0 : (w0).heap.size = (w).heap.size + 1 := by rw [hw0]; simp); rw [← hw0]; clear hw0
  rw [hS] at hbox_w0
  have hX0 := hE_w0
  have bO1 := hbox_w0
  have o0 := bO1.cell 0
  have o1 := bO1.cell 1
  have o2 := bO1.cell 2
  have o3 := bO1.cell 3
  have o4 := bO1.cell 4
  have o5 := bO1.cell 5
  have o6 := bO1.cell 6
  have o7 := bO1.cell 7
  have o8 := bO1.cell 8
  have o9 := bO1.cell 9
  have o10 := bO1.cell 10
  simp only [List.getElem?_toArray, List.getElem?_cons_zero, List.getElem?_cons_succ] at o0 o1 o2 o3 o4 o5 o6 o7 o8 o9 o10
  clear hE_w0 hz_w0 hbox_w0
  by_cases h : o.most = 0
  · have h' : (o.most == (0 : Int)) = true := by simpa using h
    rw [if_pos h] at hmost
    subst hmost
    go_wp2_with fail
    (iterate 3 (try (go_step3; go_wp2_with fail)))
    clear o0 o1 o2 o3 o4 o5 o6 o7 o8 o9 o10
    go_loopw [6, 7] (fun v5 v6 wr => ∃ (k : Nat) (v : Int), k ≤ n ∧ v6 = .int .i64 ((k : Int) + 1) ∧ v5 = .int .i64 v ∧ 0 ≤ v ∧ v ≤ 1048576 ∧ Hid (waitGo o (n - k) v = waitGo o n v0) ∧ Box wr S 42 #[iv o.queue, iv o.start, iv o.close, iv o.total, iv o.beat, iv o.first, iv o.num, iv o.den, iv o.most, iv o.tries, iv o.never] ∧ Ext w wr) (fun _ i _ => attempt.toNat + 2 - (intOf i).toNat)
    · exact ⟨0, v0, by omega, rfl, by first | (rw [hv0]; done) | (refine congrArg (Value.int .i64) ?_; first | exact hv0 | (rw [← hv0]; done) | (rw [← hv0]; split <;> omega)), hvb.1, hvb.2, rfl, bO1, hX0⟩
    · clear bO1 hX0
      obtain ⟨k, v, hk, rfl, rfl, hv0', hv1, hgo, bO, hX⟩ := hrel
      by_cases hlt : (k : Int) + 1 < attempt
      · obtain ⟨m, d, hm, m0, m1, hd, d0, d1, hnx⟩ := wait_step HO.out hv0' hv1
        have hden := HO.out.den
        have hSl : S < wr.heap.size := bO.lt
        rw [HL.out] at hnx
        obtain ⟨x, hx⟩ : ∃ x, waitNext o v = x := ⟨_, rfl⟩
        rw [hx] at hnx
        have hxf := waitNext_facts HO.out hv0'
        rw [hx] at hxf
        have hkn : k < n := by omega
        have HXE := Lib.hid hx
        have hden0 : ¬ o.den = 0 := by omega
        have hden1 : ¬ o.den < 1 := by omega
        have hwm : IntKind.i64.wrap m = m := IntWalk.i64_in _ (by omega)
        have hwd : IntKind.i64.wrap d = d := IntWalk.i64_in _ (by omega)
        clear hx
        have o0 := bO.cell 0
        have o1 := bO.cell 1
        have o2 := bO.cell 2
        have o3 := bO.cell 3
        have o4 := bO.cell 4
        have o5 := bO.cell 5
        have o6 := bO.cell 6
        have o7 := bO.cell 7
        have o8 := bO.cell 8
        have o9 := bO.cell 9
        have o10 := bO.cell 10
        simp only [List.getElem?_toArray, List.getElem?_cons_zero, List.getElem?_cons_succ] at o0 o1 o2 o3 o4 o5 o6 o7 o8 o9 o10
        by_cases hxv : x = v
        · have hxv' : (x == v) = true := by simpa using hxv
          have HR := Lib.hid (show v = waitGo o n v0 by rw [← hgo.out]; exact (wait_end hk (HXE.out.trans hxv)).symm)
          go_wp2
          go_ret
          exact ⟨by rw [← HR.out]; rfl, hX⟩
        · have hxv' : (x == v) = false := by simpa using hxv
          have HG : Hid (waitGo o (n - (k + 1)) x = waitGo o n v0) := by
            unfold Hid
            rw [← hgo.out, wait_more hkn (by rw [HXE.out]; exact hxv), HXE.out]
          go_wp2
          exact ⟨⟨k + 1, x, by omega, by simp, rfl, hxf.1, hxf.2, HG, bO, hX⟩, by simp [intOf]; omega⟩
      · have HR := Lib.hid (show v = waitGo o n v0 by
          have h0 : n - k = 0 := by omega
          have h1 := hgo.out
          rw [h0] at h1
          exact h1)
        go_wp2
        go_ret
        exact ⟨by rw [← HR.out]; rfl, hX⟩
  · have h' : (o.most == (0 : Int)) = false := by simpa using h
    rw [if_neg h] at hmost
    subst hmost
    go_wp2_with fail
    (iterate 3 (try (go_step3; go_wp2_with fail)))
    clear o0 o1 o2 o3 o4 o5 o6 o7 o8 o9 o10
    go_loopw [6, 7] (fun v5 v6 wr => ∃ (k : Nat) (v : Int), k ≤ n ∧ v6 = .int .i64 ((k : Int) + 1) ∧ v5 = .int .i64 v ∧ 0 ≤ v ∧ v ≤ 1048576 ∧ Hid (waitGo o (n - k) v = waitGo o n v0) ∧ Box wr S 42 #[iv o.queue, iv o.start, iv o.close, iv o.total, iv o.beat, iv o.first, iv o.num, iv o.den, iv o.most, iv o.tries, iv o.never] ∧ Ext w wr) (fun _ i _ => attempt.toNat + 2 - (intOf i).toNat)
    · exact ⟨0, v0, by omega, rfl, by first | (rw [hv0]; done) | (refine congrArg (Value.int .i64) ?_; first | exact hv0 | (rw [← hv0]; done) | (rw [← hv0]; split <;> omega)), hvb.1, hvb.2, rfl, bO1, hX0⟩
    · clear bO1 hX0
      obtain ⟨k, v, hk, rfl, rfl, hv0', hv1, hgo, bO, hX⟩ := hrel
      by_cases hlt : (k : Int) + 1 < attempt
      · obtain ⟨m, d, hm, m0, m1, hd, d0, d1, hnx⟩ := wait_step HO.out hv0' hv1
        have hden := HO.out.den
        have hSl : S < wr.heap.size := bO.lt
        rw [HL.out] at hnx
        obtain ⟨x, hx⟩ : ∃ x, waitNext o v = x := ⟨_, rfl⟩
        rw [hx] at hnx
        have hxf := waitNext_facts HO.out hv0'
        rw [hx] at hxf
        have hkn : k < n := by omega
        have HXE := Lib.hid hx
        have hden0 : ¬ o.den = 0 := by omega
        have hden1 : ¬ o.den < 1 := by omega
        have hwm : IntKind.i64.wrap m = m := IntWalk.i64_in _ (by omega)
        have hwd : IntKind.i64.wrap d = d := IntWalk.i64_in _ (by omega)
        clear hx
        have o0 := bO.cell 0
        have o1 := bO.cell 1
        have o2 := bO.cell 2
        have o3 := bO.cell 3
        have o4 := bO.cell 4
        have o5 := bO.cell 5
        have o6 := bO.cell 6
        have o7 := bO.cell 7
        have o8 := bO.cell 8
        have o9 := bO.cell 9
        have o10 := bO.cell 10
        simp only [List.getElem?_toArray, List.getElem?_cons_zero, List.getElem?_cons_succ] at o0 o1 o2 o3 o4 o5 o6 o7 o8 o9 o10
        by_cases hxv : x = v
        · have hxv' : (x == v) = true := by simpa using hxv
          have HR := Lib.hid (show v = waitGo o n v0 by rw [← hgo.out]; exact (wait_end hk (HXE.out.trans hxv)).symm)
          go_wp2
          go_ret
          exact ⟨by rw [← HR.out]; rfl, hX⟩
        · have hxv' : (x == v) = false := by simpa using hxv
          have HG : Hid (waitGo o (n - (k + 1)) x = waitGo o n v0) := by
            unfold Hid
            rw [← hgo.out, wait_more hkn (by rw [HXE.out]; exact hxv), HXE.out]
          go_wp2
          exact ⟨⟨k + 1, x, by omega, by simp, rfl, hxf.1, hxf.2, HG, bO, hX⟩, by simp [intOf]; omega⟩
      · have HR := Lib.hid (show v = waitGo o n v0 by
          have h0 : n - k = 0 := by omega
          have h1 := hgo.out
          rw [h0] at h1
          exact h1)
        go_wp2
        go_ret
        exact ⟨by rw [← HR.out]; rfl, hX⟩

set_option maxRecDepth 100000 in
set_option maxHeartbeats 800000 in
theorem ends_any (frm wait : Int) (h : T62 frm) (h2 : T62 wait) (w : World) : Calls Try.prog 48 #[iv frm, iv wait] w fun e w' => e = .returned (.tuple #[iv (if 0 < wait then frm + wait else 0), .bool (decide (0 < wait))]) ∧ Ext w w' := by
  obtain ⟨h3, h4⟩ := h
  obtain ⟨h5, h6⟩ := h2
  go_enter Try.func48, Try.ntmps48
  by_cases hw : wait ≤ 0
  · rw [if_neg (by omega), decide_eq_false (by omega)]
    go_wp2
    go_ret2
    exact ⟨rfl, by (repeat (first | exact Below.refl _ _ | refine Ext.trans' ?_ (Ext.al _ _) | refine Ext.trans' ?_ (Ext.dr _) | refine Ext.trans' ?_ (by assumption)))⟩
  · rw [if_pos (by omega), decide_eq_true (by omega)]
    go_wp2
    go_ret2
    exact ⟨rfl, by (repeat (first | exact Below.refl _ _ | refine Ext.trans' ?_ (Ext.al _ _) | refine Ext.trans' ?_ (Ext.dr _) | refine Ext.trans' ?_ (by assumption)))⟩
end Go.Proofs.Ytjmdbgbkmjlmdaa
