/- Structs of whole numbers alone, held against each other. No program in sight. -/
import Derived.Test.YtjkfoninjpefmaaGreatDoorBase
import Derived.Laws.StructEq
namespace Go.Proofs.YtjkfoninjpefmaaGreatDoor
set_option linter.unusedSimpArgs false
set_option linter.unusedVariables false
open Go.RowKit

def flatFB (P : Program) : Nat → List Field → Bool
  | _, [] => true
  | k, f :: fs => f.name != "_" && (match P.underlying f.type with | some (.int .i64) => true | _ => false) && f.offset == k && flatFB P (k + 1) fs
def flatB (P : Program) (t : TypeId) (n : Nat) : Bool := (match P.underlying t with | some (.struct _) => true | _ => false) && !P.stoodInHeld t && flatFB P 0 (P.fieldsOf t).toList && (P.fieldsOf t).toList.length == n
theorem flat_eq {P : Program} (w : World) (d : Nat) : ∀ (fs : List Field) (k : Nat) (xs ys : List Int), flatFB P k fs = true → xs.length = k + fs.length → ys.length = k + fs.length →
    (Op.eqFields (d + 1) (xs.map (Value.int .i64)).toArray (ys.map (Value.int .i64)).toArray fs).run P w = .ok (decide (xs.drop k = ys.drop k)) w
  | [], k, xs, ys, _, h1, h2 => by
    rw [List.drop_of_length_le (by simp at h1; omega), List.drop_of_length_le (by simp at h2; omega)]
    simp [Op.eqFields]
  | f :: fs, k, xs, ys, h, h1, h2 => by
    simp only [flatFB, Bool.and_eq_true, bne_iff_ne, ne_eq, beq_iff_eq] at h
    obtain ⟨⟨⟨hn, hu⟩, ho⟩, hr⟩ := h
    have hu' : P.underlying f.type = some (.int .i64) := by
      split at hu
      · assumption
      · cases hu
    simp only [List.length_cons] at h1 h2
    have ih := flat_eq w d fs (k + 1) xs ys hr (by omega) (by omega)
    have x1 : xs.drop k = xs[k] :: xs.drop (k + 1) := List.drop_eq_getElem_cons (by omega)
    have y1 : ys.drop k = ys[k] :: ys.drop (k + 1) := List.drop_eq_getElem_cons (by omega)
    have hagg : (isAgg f.type).run P w = .ok false w := by unfold isAgg; rw [Sem.run_bind, run_underlying hu' w]; rfl
    have px : ∀ zs : List Int, (hz : k < zs.length) → (part f.type (zs.map (Value.int .i64)).toArray f.offset).run P w = .ok (.int .i64 zs[k]) w := fun zs hz => by
      rw [ho]
      unfold part
      simp [Sem.run_bind, hagg, hz]
    unfold Op.eqFields
    rw [if_pos hn]
    simp only [Sem.run_bind, px xs (by omega), px ys (by omega), Result.andThen_ok]
    unfold Op.equalIn
    simp only [Sem.run_bind, run_underlying hu' w, Result.andThen_ok]
    have hdec : decide (xs.drop k = ys.drop k) = (decide (xs[k] = ys[k]) && decide (xs.drop (k + 1) = ys.drop (k + 1))) := by
      rw [x1, y1]
      simp only [List.cons.injEq, Bool.decide_and]
    rw [hdec]
    clear x1 y1 hdec
    by_cases he : xs[k] = ys[k]
    · simp [he, ih]
    · simp [he]
theorem run_eql_flat {P : Program} {t : TypeId} {n : Nat} (hf : flatB P t n = true) (xs ys : List Int) (hx : xs.length = n) (hy : ys.length = n) (w : World) :
    (binOp .eql t (.agg (xs.map (Value.int .i64)).toArray) (.agg (ys.map (Value.int .i64)).toArray)).run P w = .ok (.bool (decide (xs = ys))) w := by
  simp only [flatB, Bool.and_eq_true, beq_iff_eq, Bool.not_eq_true'] at hf
  obtain ⟨⟨⟨h1, h2⟩, h3⟩, h4⟩ := hf
  have ht : P.underlying t = some (.struct (P.fieldsOf t)) := by
    split at h1
    · rename_i fs hu
      rw [hu]
      congr 2
      unfold Program.fieldsOf
      rw [hu]
    · cases h1
  rw [run_eql_struct, run_equalIn_struct w 9999 _ _ _ ht h2, flat_eq w 9998 _ 0 xs ys h3 (by omega) (by omega)]
  simp
theorem run_neq_flat {P : Program} {t : TypeId} {n : Nat} (hf : flatB P t n = true) (xs ys : List Int) (hx : xs.length = n) (hy : ys.length = n) (w : World) :
    (binOp .neq t (.agg (xs.map (Value.int .i64)).toArray) (.agg (ys.map (Value.int .i64)).toArray)).run P w = .ok (.bool (!decide (xs = ys))) w := by
  simp only [flatB, Bool.and_eq_true, beq_iff_eq, Bool.not_eq_true'] at hf
  obtain ⟨⟨⟨h1, h2⟩, h3⟩, h4⟩ := hf
  have ht : P.underlying t = some (.struct (P.fieldsOf t)) := by
    split at h1
    · rename_i fs hu
      rw [hu]
      congr 2
      unfold Program.fieldsOf
      rw [hu]
    · cases h1
  rw [run_neq_struct, run_equalIn_struct w 9999 _ _ _ ht h2, flat_eq w 9998 _ 0 xs ys h3 (by omega) (by omega)]
  simp
end Go.Proofs.YtjkfoninjpefmaaGreatDoor
