/- The walk of the statement WalReplays. -/
import Derived.Test.YteplpgknnlehnaaWalRep3
namespace Go.Proofs.Yteplpgknnlehnaa
set_option linter.unusedSimpArgs false
set_option linter.unusedVariables false
open Go.RowKit

theorem FrAt.unique {s : List UInt8} {p fin : Nat} {l : List (Nat × Frm)} (h : FrAt s p l fin) : ∀ {l' : List (Nat × Frm)} {fin' : Nat}, FrAt s p l' fin' → l = l' ∧ fin = fin' := by
  induction h with
  | stop p h =>
    intro l' fin' h'
    cases h' with
    | stop _ _ => exact ⟨rfl, rfl⟩
    | step _ f n rest _ h2 _ => rw [h2] at h; exact absurd rfl h
  | step p f n rest fin h hr ih =>
    intro l' fin' h'
    cases h' with
    | stop _ h2 => rw [h] at h2; exact absurd rfl h2
    | step _ f' n' rest' _ h2 hr' =>
      rw [h] at h2
      injection h2 with e1 e2
      injection e2 with e2 _
      subst e1 e2
      obtain ⟨rfl, rfl⟩ := ih hr'
      exact ⟨rfl, rfl⟩
theorem runR_puts (fin : Nat) : ∀ (l : List (Nat × Frm)) (st : List Batch × Nat), (∀ b ∈ st.1, b.puts.length ≤ 256) → ∀ b ∈ (runR fin st l).1, b.puts.length ≤ 256
  | [], st, h => h
  | x :: xs, st, h => by
    unfold runR
    split
    · refine runR_puts fin xs _ fun b hb => ?_
      rcases List.mem_append.1 hb with hb | hb
      · exact h b hb
      · simp at hb
        subst hb
        exact (decodeBatch_seq _).2
    · exact h

set_option maxRecDepth 100000 in
set_option maxHeartbeats 800000 in
theorem walReplays_walk (l : List UInt8) (hl : l.length ≤ 1048576) (w : World) :
    Calls Try.prog 8 #[str l] w fun e w' => e = .returned (.bool true) ∧ Ext w w' := by
  have HP := Lib.hid (fun w => replay_any l (by omega) w)
  have HQ := Lib.hid (fun w => replay_ref l (by omega) w)
  go_enter Try.func8, Try.ntmps8
  go_wp2_with fail
  refine (HP.out _).mono ?_
  rintro _ w1 ⟨F1, fin1, L1, A1, c1, B1, hf1, rfl, hm1, hb1, hn1, -, hX1⟩
  go_wp2_with fail
  refine (HQ.out _).mono ?_
  rintro _ w2 ⟨F2, fin2, L2, A2, c2, B2, hf2, rfl, hm2, hb2, hn2, -, hX2⟩
  obtain ⟨rfl, rfl⟩ := hf1.unique hf2
  have hmm := hm1.trans hm2.symm
  have hpp : ∀ q ∈ L1, q.b.puts.length ≤ 1099511627776 := fun q hq => by
    have := runR_puts fin1 F1 ([], 0) (by simp) q.b (by rw [← hm1]; exact List.mem_map_of_mem hq)
    omega
  have HS := Lib.hid (fun w h1 h2 => sameBatches_yes L1 L2 hmm (by omega) hpp A1 A2 c1 c2 w h1 h2)
  obtain ⟨en, hen⟩ : ∃ en, (runR fin1 ([], 0) F1).2 = en := ⟨_, rfl⟩
  rw [hen]
  have hr1 := (hb1.ext hX2).plain
  have hr2 := hb2.plain
  clear hmm hpp hm1 hm2 hen HP HQ hf1 hf2
  go_wp2_with fail
  refine (HS.out _ hr1 hr2).mono ?_
  rintro _ w3 ⟨rfl, hX3⟩
  go_wp2
  go_ret
  exact ⟨by simp, by (repeat (first | exact Below.refl _ _ | refine Ext.trans' ?_ (Ext.al _ _) | refine Ext.trans' ?_ (Ext.dr _) | refine Ext.trans' ?_ (by assumption)))⟩
end Go.Proofs.Yteplpgknnlehnaa
