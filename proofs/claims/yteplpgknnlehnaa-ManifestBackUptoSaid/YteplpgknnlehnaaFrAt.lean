/- Where frames stand in bytes (layer 2), as a relation. No program's walk. -/
import Derived.Test.YteplpgknnlehnaaFrTake
import Derived.Test.YteplpgknnlehnaaTaker
namespace Go.Proofs.Yteplpgknnlehnaa
set_option linter.unusedSimpArgs false
set_option linter.unusedVariables false
open Go.RowKit

theorem takeText_lens (mx : Nat) (l : List UInt8) : (takeText mx l).1.length ≤ mx ∧ (takeText mx l).2.1 ≤ l.length ∧ (takeText mx l).2.2 ≤ 3 := ⟨takeText_most, takeText_len mx l, takeText_err mx l⟩
theorem takeFrame_facts (s : List UInt8) : (takeFrame s).1.load.length ≤ 262144 ∧ (takeFrame s).2.1 ≤ s.length ∧ (takeFrame s).2.2 ≤ 3 ∧ ((takeFrame s).2.2 = 0 → 5 ≤ (takeFrame s).2.1) := by
  obtain ⟨h1, h2, h3⟩ := takeText_lens 262144 (s.drop 5)
  rw [List.length_drop] at h2
  unfold takeFrame
  split
  · simp
  · split
    · simp
    · split
      · simp; omega
      · split
        · simp
        · simp; omega

/-- from place `at` on stand just these frames, up to `fin` -/
inductive FrAt (s : List UInt8) : Nat → List (Nat × Frm) → Nat → Prop
  | stop (p : Nat) (h : (takeFrame (s.drop p)).2.2 ≠ 0) : FrAt s p [] p
  | step (p : Nat) (f : Frm) (n : Nat) (rest : List (Nat × Frm)) (fin : Nat) (h : takeFrame (s.drop p) = (f, n, 0)) (hr : FrAt s (p + n) rest fin) : FrAt s p ((p, f) :: rest) fin
theorem FrAt.exists_ (s : List UInt8) : ∀ (k p : Nat), s.length - p < k → p ≤ s.length → ∃ rest fin, FrAt s p rest fin
  | 0, _, h, _ => by omega
  | k + 1, p, h, hp => by
    by_cases he : (takeFrame (s.drop p)).2.2 = 0
    · obtain ⟨-, f2, -, f4⟩ := takeFrame_facts (s.drop p)
      rw [List.length_drop] at f2
      have := f4 he
      obtain ⟨rest, fin, hr⟩ := FrAt.exists_ s k (p + (takeFrame (s.drop p)).2.1) (by omega) (by omega)
      exact ⟨_, _, .step p _ _ rest fin (by rw [← he]) hr⟩
    · exact ⟨[], p, .stop p he⟩
theorem FrAt.le {s : List UInt8} {p fin : Nat} {l : List (Nat × Frm)} (h : FrAt s p l fin) (hp : p ≤ s.length) : fin ≤ s.length ∧ l.length * 5 + p ≤ fin ∧ ∀ x ∈ l, x.1 ≤ s.length ∧ x.2.load.length ≤ 262144 := by
  induction h with
  | stop p h => exact ⟨hp, by simp, by simp⟩
  | step p f n rest fin h hr ih =>
    obtain ⟨f1, f2, -, f4⟩ := takeFrame_facts (s.drop p)
    rw [h] at f1 f2 f4
    rw [List.length_drop] at f2
    have f4' : 5 ≤ n := f4 rfl
    dsimp only at f1 f2
    obtain ⟨i1, i2, i3⟩ := ih (by omega)
    refine ⟨i1, by simp; omega, fun x hx => ?_⟩
    rcases List.mem_cons.1 hx with rfl | hx
    · exact ⟨hp, f1⟩
    · exact i3 x hx

theorem FrAt.unique {s : List UInt8} {p fin : Nat} {l : List (Nat × Frm)} (h : FrAt s p l fin) : ∀ {l' : List (Nat × Frm)} {fin' : Nat}, FrAt s p l' fin' → l = l' ∧ fin = fin' := by
  induction h with
  | stop p h =>
    intro l' fin' h'
    cases h' with
    | stop _ _ => exact ⟨rfl, rfl⟩
    | step _ f n rest _ h2 _ => rw [h2] at h; exact absurd rfl h
  | step p f n rest fin h hr ih =>
    intro l' fin' h'
    cases h' with
    | stop _ h2 => rw [h] at h2; exact absurd rfl h2
    | step _ f' n' rest' _ h2 hr' =>
      rw [h] at h2
      injection h2 with e1 e2
      injection e2 with e2 _
      subst e1 e2
      obtain ⟨rfl, rfl⟩ := ih hr'
      exact ⟨rfl, rfl⟩
end Go.Proofs.Yteplpgknnlehnaa
