/- Structs of whole numbers alone, as an argument reads: their cells. No program in sight. -/
import Derived.Test.YtjkfoninjpefmaaGreatDoorRead
namespace Go.Proofs.YtjkfoninjpefmaaGreatDoor
set_option linter.unusedSimpArgs false
set_option linter.unusedVariables false
open Go.RowKit Go.Deep

theorem trod_ints {H : Type} {enc : TypeId × Value → H} {P : Program} {w : World} {base : Nat} {spare : Nat → Bool} {held : Bool} {t : TypeId} {fs : Array Field} {fuel : Nat} {cs : List Value} {x : DataW H × List MemPlace} (ht : P.underlying t = some (.struct fs))
    (hfs : ∀ (i : Nat), i < fs.size → ∃ f : Field, fs[i]? = some f ∧ P.underlying f.type = some (.int .i64) ∧ P.cellsOf f.type = 1 ∧ f.offset = i) (hn : P.cellsOf t = fs.size)
    (h : DataW.trod enc P w base spare held fuel t cs = some x) : ∃ xs : List Int, cs = xs.map (fun y => Value.int .i64 y) ∧ xs.length = fs.size ∧ ∀ y ∈ xs, -9223372036854775808 ≤ y ∧ y ≤ 9223372036854775807 := by
  obtain ⟨xs, n, _, rfl, hl, hlen, hf⟩ := DataW.trod_struct ht h
  have key : ∀ i, i < fs.size → ∃ y : Int, cs[i]? = some (.int .i64 y) ∧ -9223372036854775808 ≤ y ∧ y ≤ 9223372036854775807 := by
    intro i hi
    obtain ⟨f, h0, h1, h2, h3⟩ := hfs i hi
    have h4 := hf i f h0
    rw [h2, h3, List.getElem?_eq_getElem (by omega)] at h4
    obtain ⟨y, h5, h6, h7⟩ := read_i64 h1 h4
    refine ⟨y, ?_, h6, h7⟩
    have h8 := congrArg (fun l => l[0]?) h5
    simpa using h8
  have key2 : ∀ k, k ≤ fs.size → ∃ xs : List Int, cs.take k = xs.map (fun y => Value.int .i64 y) ∧ xs.length = k ∧ ∀ y ∈ xs, -9223372036854775808 ≤ y ∧ y ≤ 9223372036854775807 := by
    intro k
    induction k with
    | zero => intro _; exact ⟨[], by simp, rfl, by simp⟩
    | succ k ih =>
      intro hk
      obtain ⟨ys, h1, h2, h3⟩ := ih (by omega)
      obtain ⟨y, h4, h5⟩ := key k (by omega)
      refine ⟨ys ++ [y], by rw [List.take_add_one, h1, h4]; simp, by simp [h2], fun z hz => ?_⟩
      rcases List.mem_append.1 hz with hz | hz
      · exact h3 z hz
      · rw [List.mem_singleton.1 hz]; exact h5
  obtain ⟨ys, h1, h2, h3⟩ := key2 fs.size (Nat.le_refl _)
  rw [List.take_of_length_le (by omega)] at h1
  exact ⟨ys, h1, h2, h3⟩
theorem list10 {α : Type} {xs : List α} (h : xs.length = 10) : ∃ a b c d e f g i j k, xs = [a, b, c, d, e, f, g, i, j, k] := by
  match xs, h with
  | [a, b, c, d, e, f, g, i, j, k], _ => exact ⟨a, b, c, d, e, f, g, i, j, k, rfl⟩
theorem list11 {α : Type} {xs : List α} (h : xs.length = 11) : ∃ a b c d e f g i j k l, xs = [a, b, c, d, e, f, g, i, j, k, l] := by
  match xs, h with
  | [a, b, c, d, e, f, g, i, j, k, l], _ => exact ⟨a, b, c, d, e, f, g, i, j, k, l, rfl⟩
end Go.Proofs.YtjkfoninjpefmaaGreatDoor
