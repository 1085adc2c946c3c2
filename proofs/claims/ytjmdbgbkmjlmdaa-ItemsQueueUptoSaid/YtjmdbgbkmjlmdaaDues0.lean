/- The order of dues, as the program compares them (layer 18). -/
import Derived.Test.YtjmdbgbkmjlmdaaSort
import Derived.Test.YtjmdbgbkmjlmdaaSortLay
import Derived.Test.YtjmdbgbkmjlmdaaAct4
namespace Go.Proofs.Ytjmdbgbkmjlmdaa
set_option linter.unusedSimpArgs false
set_option linter.unusedVariables false
open Go.RowKit

set_option maxRecDepth 100000 in
set_option maxHeartbeats 800000 in
theorem or_any (c1 c2 : Int) (b cap : Nat) (w : World) (h0 : w.cell? ⟨b, 0, none⟩ = some (iv c1)) (h1 : w.cell? ⟨b, 1, none⟩ = some (iv c2)) :
    Calls Try.prog 51 #[.slice (some ⟨b, 0, none⟩) 2 cap] w fun e w' => e = .returned (iv (if c1 ≠ 0 then c1 else c2)) ∧ w' = w := by
  go_enter Try.func51, Try.ntmps51
  go_wp2_with fail
  go_loopw [8] (fun i wr => wr = w ∧ (i = .int .i64 0 ∨ (i = .int .i64 1 ∧ c1 = 0) ∨ (i = .int .i64 2 ∧ c1 = 0 ∧ c2 = 0))) (fun i _ => 2 - (intOf i).toNat)
  · exact ⟨rfl, .inl rfl⟩
  · obtain ⟨rfl, hi⟩ := hrel
    rcases hi with rfl | ⟨rfl, rfl⟩ | ⟨rfl, rfl, rfl⟩
    · by_cases hc : c1 = 0
      · subst hc
        go_wp2
        simp [intOf]
      · have hc' : (c1 != (0 : Int)) = true := by simpa using hc
        go_wp2
        go_ret
        all_goals (first | exact ⟨rfl, rfl⟩ | (exfalso; simp_all; done))
    · by_cases hc : c2 = 0
      · subst hc
        go_wp2
        simp [intOf]
      · have hc' : (c2 != (0 : Int)) = true := by simpa using hc
        go_wp2
        go_ret
        exact ⟨by simp, rfl⟩
    · go_wp2
      go_ret
      exact ⟨rfl, rfl⟩
theorem foldl_put_len : ∀ (l acc : List DueV), (l.foldl putDue acc).length = acc.length + l.length
  | [], acc => by simp
  | x :: l, acc => by rw [List.foldl_cons, foldl_put_len l, putDue_len, List.length_cons]; omega
set_option maxRecDepth 100000 in
set_option maxHeartbeats 800000 in
theorem cmpDue_any (x y : DueV) (W : World) : Calls Try.prog 50 #[.agg x.cells.toArray, .agg y.cells.toArray] W fun e w' => e = .returned (iv (cmpDue x y)) ∧ ∃ q os', w' = Sort.grow (W.drewN q) os' := by
  have HA := Lib.hid (fun W' => Try.cmp_Compare_int_f52 x.at_ y.at_ W')
  have HK := Lib.hid (fun W' => Try.cmp_Compare_int x.kind y.kind W')
  have HO := Lib.hid (fun b cap w h0 h1 => or_any (Lib.compareInt x.at_ y.at_) (Lib.compareInt x.kind y.kind) b cap w h0 h1)
  unfold cmpDue
  generalize Lib.compareInt x.at_ y.at_ = c1 at HA HO ⊢
  generalize Lib.compareInt x.kind y.kind = c2 at HK HO ⊢
  generalize (if c1 ≠ 0 then c1 else c2) = r at HO ⊢
  dsimp only [DueV.cells]
  go_enter Try.func50, Try.ntmps50
  go_wp2_with fail
  obtain ⟨S, hS⟩ : ∃ S, W.heap.size = S := ⟨_, rfl⟩
  rw [hS]
  have hl : S < (W.alloc (.cells #[iv x.at_, iv x.kind] 97)).heap.size := by simp; omega
  obtain ⟨w0, hw0⟩ : ∃ w, w = W.alloc (.cells #[iv x.at_, iv x.kind] 97) := ⟨_, rfl⟩
  have hb0 : Box w0 S 97 #[iv x.at_, iv x.kind] := by rw [hw0]; exact Box.new_at _ _ _ _ hS.symm
  have hz0 : w0.heap.size = S + 1 := by rw [hw0]; simp [hS]
  rw [← hw0]
  (try rw [hz0])
  obtain ⟨w1, hw1⟩ : ∃ w, w = w0.alloc (.cells #[iv y.at_, iv y.kind] 97) := ⟨_, rfl⟩
  have hb1 : Box w1 (S + 1) 97 #[iv y.at_, iv y.kind] := by rw [hw1]; exact Box.new_at _ _ _ _ hz0.symm
  have hz1 : w1.heap.size = S + 2 := by rw [hw1]; simp [hz0]
  have ha := (hb0.ext (show Ext w0 w1 by rw [hw1]; exact Ext.al _ _))
  have x0 := ha.drew.cell 0
  have x1 := ha.drew.cell 1
  have y0 := hb1.drew.cell 0
  have y1 := hb1.drew.cell 1
  simp only [List.getElem?_toArray, List.getElem?_cons_zero, List.getElem?_cons_succ] at x0 x1 y0 y1
  have hg : w1 = Sort.grow W #[.cells #[iv x.at_, iv x.kind] 97, .cells #[iv y.at_, iv y.kind] 97] := by
    rw [hw1, hw0, Sort.alloc_eq_grow, Sort.alloc_eq_grow, Sort.grow_grow]; rfl
  have HG := Lib.hid hg
  have HZ := Lib.hid hz1
  have hzd : w1.drew.heap.size = S + 2 := hz1
  rw [← hw1]
  clear hw0 hw1 hb0 hb1 ha hl hz0 hg hz1
  refine wp_region_sch (RS ((fun x => x = S ∨ x = S + 1))) 13 [(0, true), (1, true), (2, true), (3, true), (5, true), (6, true), (7, true), (8, true), (4, false), (9, false), (10, false), (11, false), (12, true)] (by kernel_rfl) (by kernel_rfl) RS.refl RS.trans (fun _ _ d _ _ h => by cases d <;> exact h) ?_
  refine wpSch_q ?_ rfl rfl (fun w' hR => ?_) ?_
  rotate_left
  · (go_simp; first | rfl | rw [if_neg (by simp; omega)] | rw [if_neg (by omega)])
  (try simp only [Act.put, List.setIfInBounds_toArray, List.set_cons_zero, List.set_cons_succ])
  refine wpSch_q ?_ rfl rfl (fun w' hR => ?_) ?_
  rotate_left
  · (obtain ⟨hRs, hRc⟩ := hR; (try have hRd := fun o => hRc _ o rfl (by first | (simp; done) | (simp; omega) | omega)); (try have hRe := fun o => hRc _ o (Or.inl rfl) (by first | (simp; done) | (simp; omega) | omega)); (try have hRf := fun o => hRc _ o (Or.inr rfl) (by first | (simp; done) | (simp; omega) | omega)); (try have hRg := fun o => hRc _ o (Or.inr (Or.inl rfl)) (by first | (simp; done) | (simp; omega) | omega)); (try have hRh := fun o => hRc _ o (Or.inr (Or.inr rfl)) (by first | (simp; done) | (simp; omega) | omega)); go_simp; first | rfl | rw [if_neg (by simp; omega)] | rw [if_neg (by omega)])
  (try simp only [Act.put, List.setIfInBounds_toArray, List.set_cons_zero, List.set_cons_succ])
  refine wpSch_q ?_ rfl rfl (fun w' hR => ?_) ?_
  rotate_left
  · (go_simp; first | rfl | rw [if_neg (by simp; omega)] | rw [if_neg (by omega)])
  (try simp only [Act.put, List.setIfInBounds_toArray, List.set_cons_zero, List.set_cons_succ])
  refine wpSch_q ?_ rfl rfl (fun w' hR => ?_) ?_
  rotate_left
  · (obtain ⟨hRs, hRc⟩ := hR; (try have hRd := fun o => hRc _ o rfl (by first | (simp; done) | (simp; omega) | omega)); (try have hRe := fun o => hRc _ o (Or.inl rfl) (by first | (simp; done) | (simp; omega) | omega)); (try have hRf := fun o => hRc _ o (Or.inr rfl) (by first | (simp; done) | (simp; omega) | omega)); (try have hRg := fun o => hRc _ o (Or.inr (Or.inl rfl)) (by first | (simp; done) | (simp; omega) | omega)); (try have hRh := fun o => hRc _ o (Or.inr (Or.inr rfl)) (by first | (simp; done) | (simp; omega) | omega)); go_simp; first | rfl | rw [if_neg (by simp; omega)] | rw [if_neg (by omega)])
  (try simp only [Act.put, List.setIfInBounds_toArray, List.set_cons_zero, List.set_cons_succ])
  refine wpSch_q ?_ rfl rfl (fun w' hR => ?_) ?_
  rotate_left
  · (go_simp; first | rfl | rw [if_neg (by simp; omega)] | rw [if_neg (by omega)])
  (try simp only [Act.put, List.setIfInBounds_toArray, List.set_cons_zero, List.set_cons_succ])
  refine wpSch_q ?_ rfl rfl (fun w' hR => ?_) ?_
  rotate_left
  · (obtain ⟨hRs, hRc⟩ := hR; (try have hRd := fun o => hRc _ o rfl (by first | (simp; done) | (simp; omega) | omega)); (try have hRe := fun o => hRc _ o (Or.inl rfl) (by first | (simp; done) | (simp; omega) | omega)); (try have hRf := fun o => hRc _ o (Or.inr rfl) (by first | (simp; done) | (simp; omega) | omega)); (try have hRg := fun o => hRc _ o (Or.inr (Or.inl rfl)) (by first | (simp; done) | (simp; omega) | omega)); (try have hRh := fun o => hRc _ o (Or.inr (Or.inr rfl)) (by first | (simp; done) | (simp; omega) | omega)); go_simp; first | rfl | rw [if_neg (by simp; omega)] | rw [if_neg (by omega)])
  (try simp only [Act.put, List.setIfInBounds_toArray, List.set_cons_zero, List.set_cons_succ])
  refine wpSch_q ?_ rfl rfl (fun w' hR => ?_) ?_
  rotate_left
  · (go_simp; first | rfl | rw [if_neg (by simp; omega)] | rw [if_neg (by omega)])
  (try simp only [Act.put, List.setIfInBounds_toArray, List.set_cons_zero, List.set_cons_succ])
  refine wpSch_q ?_ rfl rfl (fun w' hR => ?_) ?_
  rotate_left
  · (obtain ⟨hRs, hRc⟩ := hR; (try have hRd := fun o => hRc _ o rfl (by first | (simp; done) | (simp; omega) | omega)); (try have hRe := fun o => hRc _ o (Or.inl rfl) (by first | (simp; done) | (simp; omega) | omega)); (try have hRf := fun o => hRc _ o (Or.inr rfl) (by first | (simp; done) | (simp; omega) | omega)); (try have hRg := fun o => hRc _ o (Or.inr (Or.inl rfl)) (by first | (simp; done) | (simp; omega) | omega)); (try have hRh := fun o => hRc _ o (Or.inr (Or.inr rfl)) (by first | (simp; done) | (simp; omega) | omega)); go_simp; first | rfl | rw [if_neg (by simp; omega)] | rw [if_neg (by omega)])
  (try simp only [Act.put, List.setIfInBounds_toArray, List.set_cons_zero, List.set_cons_succ])
  refine wpSch_e rfl rfl (fun K hK => ?_)
  go_simp
  refine (HA.out _).mono ?_
  rintro e w' ⟨rfl, rfl⟩
  refine hK _ _ (fun _ => RS.refl _) ?_
  clear hK K
  (try simp only [Act.put, List.setIfInBounds_toArray, List.set_cons_zero, List.set_cons_succ])
  skip
  refine wpSch_e rfl rfl (fun K hK => ?_)
  go_simp
  refine (HK.out _).mono ?_
  rintro e w' ⟨rfl, rfl⟩
  refine hK _ _ (fun _ => RS.refl _) ?_
  clear hK K
  (try simp only [Act.put, List.setIfInBounds_toArray, List.set_cons_zero, List.set_cons_succ])
  skip
  refine wpSch_e rfl rfl (fun K hK => ?_)
  go_simp
  refine hK _ _ (fun _ => RS.alloc _) ?_
  clear hK K
  (try simp only [Act.put, List.setIfInBounds_toArray, List.set_cons_zero, List.set_cons_succ])
  skip
  refine wpSch_e rfl rfl (fun K hK => ?_)
  go_simp
  refine (HO.out _ _ _ ((Box.new_at w1 3 #[iv c1, iv c2] (S + 2) HZ.out.symm).drew.cell 0) ((Box.new_at w1 3 #[iv c1, iv c2] (S + 2) HZ.out.symm).drew.cell 1)).mono ?_
  rintro e w' ⟨rfl, rfl⟩
  refine hK _ _ (fun _ => RS.refl _) ?_
  clear hK K
  (try simp only [Act.put, List.setIfInBounds_toArray, List.set_cons_zero, List.set_cons_succ])
  skip
  refine wpSch_q ?_ rfl rfl (fun w' hR => ?_) ?_
  rotate_left
  · (go_simp; first | rfl | rw [if_neg (by simp; omega)] | rw [if_neg (by omega)])
  (try simp only [Act.put, List.setIfInBounds_toArray, List.set_cons_zero, List.set_cons_succ])
  refine wpSch_nil ?_
  go_wp2
  go_ret
  refine ⟨rfl, 1, #[.cells #[iv x.at_, iv x.kind] 97, .cells #[iv y.at_, iv y.kind] 97] ++ #[.cells #[iv c1, iv c2] 3], ?_⟩
  rw [HG.out, Sort.alloc_eq_grow, Sort.grow_grow]
  rfl
theorem len_small (n : Nat) (W : World) (h : n ≤ 12) : Calls Try.prog 67 #[.int .u64 n] W fun e w' => (∃ l : Int, e = .returned (.int .i64 l)) ∧ w' = W :=
  (Try.bits_Len n W (by omega) (by omega)).mono fun _ _ ⟨he, hw⟩ => ⟨⟨_, he⟩, hw⟩
/-- slices.SortFunc on the program's own dues, three at most -/
theorem sortDues_any {w : World} {base g c : Nat} {l : List DueV} (h : Own w base 97 DueV.cells 2 (some ⟨g, 0, none⟩) c l) (hl : l.length ≤ 3) (hk : Kinds l) :
    Calls Try.prog 49 #[.slice (some ⟨g, 0, none⟩) l.length c, .func (.func 50) #[] #[]] w fun e w' => e = .returned (.tuple #[]) ∧ Own w' base 97 DueV.cells 2 (some ⟨g, 0, none⟩) c (l.foldl putDue []) ∧ Fr (· ≠ g) w w' := by
  have eg : ∀ args w, (callFunc 50 args).run Try.prog w = .ok (.enter 50 args) w := enters_of Try.func50 (by kernel_rfl) rfl
  have hcon := AnyQ.slices_SortFunc_small sortDue 2 Try.isAgg97 Try.sizeOf97 DueV.cells (fun _ => rfl) (fun x v hv => by simp [DueV.cells] at hv; rcases hv with rfl | rfl <;> rfl) cmpDue 50 #[] g 0 c l.toArray w eg (fun _ _ _ _ x y => cmpDue_any x y _) (own_holds h) (h.blk g rfl).2 (by simp; omega) len_small
  rw [ltOf_cmpDue] at hcon
  refine Calls.mono hcon ?_
  rintro e w' ⟨rfl, n, os, rfl⟩
  obtain ⟨h1, h2⟩ := own_sorted h (n := n) (os := os) (sort_small hl hk) (by rw [foldl_put_len]; simp)
  exact ⟨rfl, h1, h2⟩
end Go.Proofs.Ytjmdbgbkmjlmdaa
