/- Tables that live are compared with themselves (layer 10). -/
import Derived.Test.YteplpgknnlehnaaLive
import Derived.BigGuardPart
namespace Go.Proofs.Yteplpgknnlehnaa
set_option linter.unusedSimpArgs false
set_option linter.unusedVariables false
open Go.RowKit

set_option maxRecDepth 100000 in
set_option maxHeartbeats 800000 in
theorem sameLive_same (v : Live) (hl : ∀ k, k < 4 → (v.tab k).length ≤ 1099511627776) (p q : Place) (w : World) (h1 : LiveAt w v p) (h2 : LiveAt w v q) :
    Calls Try.prog 27 #[.agg (v.cells p), .agg (v.cells q)] w fun e w' => e = .returned (.bool true) ∧ Ext w w' := by
  have HS := Lib.hid (fun w' (hb : Ext w w') k (hk : k < 4) => (by
    have := sameTables_any (v.tab k) (v.tab k) (hl k hk) (hl k hk) (p.A k) (q.A k) (p.c k) (q.c k) w' (h1.ext hb k hk) (h2.ext hb k hk)
    simpa using this : Calls Try.prog 53 #[.slice (p.A k) (v.tab k).length (p.c k), .slice (q.A k) (v.tab k).length (q.c k)] w' fun e w'' => e = .returned (.bool true) ∧ Ext w' w''))
  clear hl h1 h2
  go_enter Try.func27, Try.ntmps27
  go_wp2_with fail
  obtain ⟨S, hS⟩ : ∃ S, w.heap.size = S := ⟨_, rfl⟩
  (obtain ⟨w0, hw0⟩ : ∃ w0, w0 = World.alloc w (.cells (v.cells p) 48) := ⟨_, rfl⟩); (have hbox_w0 : Box w0 (w).heap.size 48 (v.cells p) := by rw [hw0]; exact Box.new _ _ _); (have hE_w0 : Ext w w0 := by rw [hw0]; exact Ext.al _ _); (have hz_w0 : (w0).heap.size = (w).heap.size + 1 := by rw [hw0]; simp); rw [← hw0]; clear hw0
  (obtain ⟨w1, hw1⟩ : ∃ w1, w1 = World.alloc w0 (.cells (v.cells q) 48) := ⟨_, rfl⟩); (have hbox_w1 : Box w1 (w0).heap.size 48 (v.cells q) := by rw [hw1]; exact Box.new _ _ _); (have hE_w1 : Ext w0 w1 := by rw [hw1]; exact Ext.al _ _); (have hz_w1 : (w1).heap.size = (w0).heap.size + 1 := by rw [hw1]; simp); rw [← hw1]; clear hw1
  have bP1 := hbox_w0.ext hE_w1
  have bQ1 := hbox_w1
  have hX1 := hE_w0.trans' hE_w1
  rw [hz_w0, hS] at bQ1
  rw [hS] at bP1
  rw [hS] at hz_w0 ⊢
  clear hbox_w0 hbox_w1 hE_w0 hE_w1
  go_loopw [5] (fun i wr => ∃ k : Nat, k ≤ 4 ∧ i = .int .i64 k ∧ Ext w1 wr) (fun i _ => 4 - (intOf i).toNat)
  · exact ⟨0, by omega, rfl, Below.refl _ _⟩
  · obtain ⟨k, hk, rfl, hX⟩ := hrel
    have bP := bP1.ext hX
    have bQ := bQ1.ext hX
    by_cases hlt : k < 4
    · have p1 := bP.cell (3 + k)
      have q1 := bQ.cell (3 + k)
      rw [Live.cell _ _ hlt] at p1 q1
      have k0 : (0 : Int) ≤ (k : Int) := by omega
      have k4 : (k : Int) < 4 := by omega
      have hPw : S + 1 < wr.heap.size := bQ.lt
      have hXr := hX1.trans' hX
      go_wp2_with fail
      refine wp_region_sch (RS ((fun x => x = S ∨ x = S + 1))) 10 [(0, true), (1, true), (2, true), (3, true), (4, true), (5, true), (6, true), (7, true), (8, false), (9, true)] (by kernel_rfl) (by kernel_rfl) RS.refl RS.trans (fun _ _ d _ _ h => by cases d <;> exact h) ?_
      refine wpSch_q ?_ rfl rfl (fun w' hR => ?_) ?_
      rotate_left
      · (go_simp; first | rfl | rw [if_neg (by simp; omega)] | rw [if_neg (by omega)])
      (try simp only [Act.put, List.setIfInBounds_toArray, List.set_cons_zero, List.set_cons_succ])
      refine wpSch_q ?_ rfl rfl (fun w' hR => ?_) ?_
      rotate_left
      · (go_simp; first | rfl | rw [if_neg (by simp; omega)] | rw [if_neg (by omega)])
      (try simp only [Act.put, List.setIfInBounds_toArray, List.set_cons_zero, List.set_cons_succ])
      refine wpSch_q ?_ rfl rfl (fun w' hR => ?_) ?_
      rotate_left
      · (go_simp; first | rfl | rw [if_neg (by simp; omega)] | rw [if_neg (by omega)])
      (try simp only [Act.put, List.setIfInBounds_toArray, List.set_cons_zero, List.set_cons_succ])
      refine wpSch_q ?_ rfl rfl (fun w' hR => ?_) ?_
      rotate_left
      · (obtain ⟨hRs, hRc⟩ := hR; (try have hRd := fun o => hRc _ o rfl (by first | (simp; done) | (simp; omega) | omega)); (try have hRe := fun o => hRc _ o (Or.inl rfl) (by first | (simp; done) | (simp; omega) | omega)); (try have hRf := fun o => hRc _ o (Or.inr rfl) (by first | (simp; done) | (simp; omega) | omega)); (try have hRg := fun o => hRc _ o (Or.inr (Or.inl rfl)) (by first | (simp; done) | (simp; omega) | omega)); (try have hRh := fun o => hRc _ o (Or.inr (Or.inr rfl)) (by first | (simp; done) | (simp; omega) | omega)); go_simp; first | rfl | rw [if_neg (by simp; omega)] | rw [if_neg (by omega)])
      (try simp only [Act.put, List.setIfInBounds_toArray, List.set_cons_zero, List.set_cons_succ])
      refine wpSch_q ?_ rfl rfl (fun w' hR => ?_) ?_
      rotate_left
      · (go_simp; first | rfl | rw [if_neg (by simp; omega)] | rw [if_neg (by omega)])
      (try simp only [Act.put, List.setIfInBounds_toArray, List.set_cons_zero, List.set_cons_succ])
      refine wpSch_q ?_ rfl rfl (fun w' hR => ?_) ?_
      rotate_left
      · (go_simp; first | rfl | rw [if_neg (by simp; omega)] | rw [if_neg (by omega)])
      (try simp only [Act.put, List.setIfInBounds_toArray, List.set_cons_zero, List.set_cons_succ])
      refine wpSch_q ?_ rfl rfl (fun w' hR => ?_) ?_
      rotate_left
      · (go_simp; first | rfl | rw [if_neg (by simp; omega)] | rw [if_neg (by omega)])
      (try simp only [Act.put, List.setIfInBounds_toArray, List.set_cons_zero, List.set_cons_succ])
      refine wpSch_q ?_ rfl rfl (fun w' hR => ?_) ?_
      rotate_left
      · (obtain ⟨hRs, hRc⟩ := hR; (try have hRd := fun o => hRc _ o rfl (by first | (simp; done) | (simp; omega) | omega)); (try have hRe := fun o => hRc _ o (Or.inl rfl) (by first | (simp; done) | (simp; omega) | omega)); (try have hRf := fun o => hRc _ o (Or.inr rfl) (by first | (simp; done) | (simp; omega) | omega)); (try have hRg := fun o => hRc _ o (Or.inr (Or.inl rfl)) (by first | (simp; done) | (simp; omega) | omega)); (try have hRh := fun o => hRc _ o (Or.inr (Or.inr rfl)) (by first | (simp; done) | (simp; omega) | omega)); go_simp; first | rfl | rw [if_neg (by simp; omega)] | rw [if_neg (by omega)])
      (try simp only [Act.put, List.setIfInBounds_toArray, List.set_cons_zero, List.set_cons_succ])
      refine wpSch_e rfl rfl (fun K hK => ?_)
      go_simp
      refine (HS.out wr.drew (hXr.trans' (Ext.dr wr)) k hlt).mono ?_
      rintro e w9 ⟨rfl, hb9⟩
      refine hK _ _ (fun _ => RS.fr (S' := fun _ => True) (Fr.of_ext hb9) (fun _ _ _ => trivial)) ?_
      clear hK K
      (try simp only [Act.put, List.setIfInBounds_toArray, List.set_cons_zero, List.set_cons_succ])
      skip
      refine wpSch_q ?_ rfl rfl (fun w' hR => ?_) ?_
      rotate_left
      · (go_simp; first | rfl | rw [if_neg (by simp; omega)] | rw [if_neg (by omega)])
      (try simp only [Act.put, List.setIfInBounds_toArray, List.set_cons_zero, List.set_cons_succ])
      refine wpSch_nil ?_
      have hX9 : Ext w1 w9 := (hX.trans' (Ext.dr wr)).trans' hb9
      clear p1 q1 k0 k4 bP bQ hb9 hXr
      go_wp2
      exact ⟨⟨k + 1, by omega, by simp, hX9⟩, by simp [intOf]; omega⟩
    · obtain rfl : k = 4 := by omega
      have p0 := bP.cell 0
      have p1 := bP.cell 1
      have p2 := bP.cell 2
      have q0 := bQ.cell 0
      have q1 := bQ.cell 1
      have q2 := bQ.cell 2
      simp only [Live.cells, List.getElem?_toArray, List.getElem?_cons_zero, List.getElem?_cons_succ] at p0 p1 p2 q0 q1 q2
      go_wp2
      go_ret
      exact ⟨by simp, hX1.trans' hX⟩
end Go.Proofs.Yteplpgknnlehnaa
