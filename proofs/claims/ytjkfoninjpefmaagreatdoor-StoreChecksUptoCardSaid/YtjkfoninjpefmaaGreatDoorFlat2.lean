/- Structs of whole numbers alone as arguments: what they read as. No program in sight. -/
import Derived.Test.YtjkfoninjpefmaaGreatDoorFlat
import Derived.Test.YtjkfoninjpefmaaGreatDoorFlatEq
namespace Go.Proofs.YtjkfoninjpefmaaGreatDoor
set_option linter.unusedSimpArgs false
set_option linter.unusedVariables false
open Go.RowKit Go.Deep

def flatRB (P : Program) : Nat → List Field → Bool
  | _, [] => true
  | k, f :: fs => (match P.underlying f.type with | some (.int .i64) => true | _ => false) && P.cellsOf f.type == 1 && f.offset == k && flatRB P (k + 1) fs
theorem flatRB_at {P : Program} : ∀ {fs : List Field} {k : Nat}, flatRB P k fs = true → ∀ i, i < fs.length → ∃ f, fs[i]? = some f ∧ P.underlying f.type = some (.int .i64) ∧ P.cellsOf f.type = 1 ∧ f.offset = k + i
  | [], _, _, i, hi => by simp at hi
  | f :: fs, k, h, i, hi => by
    simp only [flatRB, Bool.and_eq_true, beq_iff_eq] at h
    obtain ⟨⟨⟨h1, h2⟩, h3⟩, h4⟩ := h
    cases i with
    | zero =>
      refine ⟨f, rfl, ?_, h2, h3⟩
      split at h1
      · assumption
      · cases h1
    | succ i =>
      obtain ⟨g, e, u, c, o⟩ := flatRB_at h4 i (by simpa using hi)
      exact ⟨g, by simpa using e, u, c, by omega⟩
def flatR (P : Program) (t : TypeId) (n : Nat) : Bool := (match P.underlying t with | some (.struct _) => true | _ => false) && flatRB P 0 (P.fieldsOf t).toList && (P.fieldsOf t).size == n && P.cellsOf t == n
theorem flatR_under {P : Program} {t : TypeId} {n : Nat} (h : flatR P t n = true) : P.underlying t = some (.struct (P.fieldsOf t)) := by
  simp only [flatR, Bool.and_eq_true, beq_iff_eq] at h
  obtain ⟨⟨⟨h1, h2⟩, h3⟩, h4⟩ := h
  split at h1
  · rename_i fs hu
    rw [hu]
    congr 2
    unfold Program.fieldsOf
    rw [hu]
  · cases h1
theorem read_flat {H : Type} {enc : TypeId × Value → H} {P : Program} {w : World} {base : Nat} {spare : Nat → Bool} {held : Bool} {t : TypeId} {n fuel : Nat} {cs : List Value} {x : DataW H × List MemPlace} (hf : flatR P t n = true)
    (h : DataW.trod enc P w base spare held fuel t cs = some x) : ∃ xs : List Int, cs = xs.map (Value.int .i64) ∧ xs.length = n ∧ ∀ y ∈ xs, -9223372036854775808 ≤ y ∧ y ≤ 9223372036854775807 := by
  have hu := flatR_under hf
  simp only [flatR, Bool.and_eq_true, beq_iff_eq] at hf
  obtain ⟨⟨⟨h1, h2⟩, h3⟩, h4⟩ := hf
  obtain ⟨xs, e1, e2, e3⟩ := trod_ints hu (fun i hi => by
    obtain ⟨f, e, u, c, o⟩ := flatRB_at h2 i (by simpa using hi)
    exact ⟨f, by simpa using e, u, c, by omega⟩) (by omega) h
  exact ⟨xs, e1, by omega, e3⟩
theorem list5' {α : Type} {xs : List α} (h : xs.length = 5) : ∃ a b c d e, xs = [a, b, c, d, e] := by
  match xs, h with
  | [a, b, c, d, e], _ => exact ⟨a, b, c, d, e, rfl⟩
end Go.Proofs.YtjkfoninjpefmaaGreatDoor
