/- Dues sorted by insertion (layer 18), as plain functions. No program in sight. -/
import Derived.Test.YtjmdbgbkmjlmdaaActs
namespace Go.Proofs.Ytjmdbgbkmjlmdaa
set_option linter.unusedSimpArgs false
set_option linter.unusedVariables false
open Go.RowKit

def Kinds (l : List DueV) : Prop := l.Pairwise fun a b => a.kind ≠ b.kind
theorem dueList_kinds (o : OptV) (a : ActV) : Kinds (dueList o a) := by
  unfold Kinds dueList due1
  by_cases h1 : a.phase = 1
  · rw [if_pos h1, if_neg (show ¬ a.phase = 2 by omega), if_neg (show ¬ a.phase = 3 by omega)]
    split <;> split <;> simp
  · rw [if_neg h1]
    by_cases h2 : a.phase = 2
    · rw [if_pos h2, if_neg (show ¬ a.phase = 3 by omega)]
      split <;> split <;> split <;> simp
    · rw [if_neg h2]
      by_cases h3 : a.phase = 3
      · rw [if_pos h3]
        split <;> simp
      · rw [if_neg h3]
        split <;> simp
theorem dueList_len (o : OptV) (a : ActV) : (dueList o a).length ≤ 3 := by
  unfold dueList due1
  by_cases h1 : a.phase = 1
  · rw [if_pos h1, if_neg (show ¬ a.phase = 2 by omega), if_neg (show ¬ a.phase = 3 by omega)]
    split <;> split <;> simp
  · rw [if_neg h1]
    by_cases h2 : a.phase = 2
    · rw [if_pos h2, if_neg (show ¬ a.phase = 3 by omega)]
      split <;> split <;> split <;> simp
    · rw [if_neg h2]
      by_cases h3 : a.phase = 3
      · rw [if_pos h3]
        split <;> simp
      · rw [if_neg h3]
        split <;> simp
def srtTo (l : List DueV) (i : Nat) : List DueV := (l.take i).foldl putDue []
theorem srtTo_succ {l : List DueV} {i : Nat} {x : DueV} (h : l[i]? = some x) : srtTo l (i + 1) = putDue (srtTo l i) x := by
  unfold srtTo
  rw [List.take_add_one, h, List.foldl_append]
  rfl
theorem srtTo_mem {l : List DueV} {i : Nat} {x : DueV} (h : x ∈ srtTo l i) : x ∈ l.take i := by
  unfold srtTo at h
  rw [fold_mem] at h
  simpa using h
theorem srtTo_len {l : List DueV} : ∀ {i : Nat}, i ≤ l.length → (srtTo l i).length = i
  | 0, _ => rfl
  | i + 1, h => by
    rw [srtTo_succ (List.getElem?_eq_getElem (by omega)), putDue_len, srtTo_len (by omega)]
theorem srtTo_kind {l : List DueV} (hk : Kinds l) {i : Nat} {x : DueV} (h : l[i]? = some x) {a : DueV} (ha : a ∈ srtTo l i) : a.kind ≠ x.kind := by
  obtain ⟨j, hj, e⟩ := List.getElem_of_mem (srtTo_mem ha)
  rw [List.length_take] at hj
  rw [List.getElem_take] at e
  have hi : i < l.length := (List.getElem?_eq_some_iff.1 h).1
  have h2 := List.pairwise_iff_getElem.1 hk j i (by omega) hi (by omega)
  rw [e, (List.getElem?_eq_some_iff.1 h).2] at h2
  exact h2
theorem srtTo_sorted {l : List DueV} (hk : Kinds l) : ∀ {i : Nat}, i ≤ l.length → Sorted (srtTo l i)
  | 0, _ => ⟨List.Pairwise.nil⟩
  | i + 1, h => by
    rw [srtTo_succ (List.getElem?_eq_getElem (by omega))]
    exact (srtTo_sorted hk (by omega)).put (fun a ha => srtTo_kind hk (List.getElem?_eq_getElem (by omega)) ha)
theorem srt_stop0 {B : List DueV} {x : DueV} (hB : ∀ b ∈ B, dueLt x b = true) : putDue B x = x :: B := by
  have := putDue_at (A := []) (B := B) (x := x) (by simp) (fun b hb => dueLt_asymm (hB b (List.mem_of_mem_head? hb)))
  simpa using this
theorem srt_stop1 {A B : List DueV} {a x : DueV} (hs : Sorted ((A ++ [a]) ++ B)) (hk : a.kind ≠ x.kind) (ha : dueLt x a = false) (hB : ∀ b ∈ B, dueLt x b = true) : putDue ((A ++ [a]) ++ B) x = (A ++ [a]) ++ x :: B := by
  have h1 := dueLt_total ha (fun e => hk e.symm)
  refine putDue_at (fun c hc => ?_) (fun b hb => dueLt_asymm (hB b (List.mem_of_mem_head? hb)))
  rcases List.mem_append.1 hc with hc | hc
  · have h2 := (List.pairwise_append.1 (List.pairwise_append.1 hs.lt).1).2.2 c hc a (by simp)
    exact dueLt_trans h2 h1
  · rw [List.mem_singleton.1 hc]; exact h1
end Go.Proofs.Ytjmdbgbkmjlmdaa
