/- slices.Insert of one table into a level: the program's own walk. -/
import Derived.Test.YteplpgknnlehnaaApp
import Derived.Test.YteplpgknnlehnaaMan8
import Derived.BigGuardPart
import Derived.Lib.Overlaps
namespace Go.Proofs.Yteplpgknnlehnaa
set_option linter.unusedSimpArgs false
set_option linter.unusedVariables false
open Go.RowKit

theorem take_front {α : Type} {L M R : List α} {k : Nat} (h : L = M ++ R) (hk : M.length = k) : L.take k = M := by
  subst h hk
  exact List.take_left
theorem drop_front {α : Type} {L M R : List α} {k : Nat} (h : L = M ++ R) (hk : M.length = k) : L.drop k = R := by
  subst h hk
  exact List.drop_left
theorem part_len {f : Table → List Value} {sz : Nat} (hf : ∀ x, (f x).length = sz) (l : List Table) {i : Nat} (hi : i ≤ l.length) : ((l.take i).flatMap f).length = i * sz := by
  rw [length_flatMap' hf, List.length_take, Nat.min_eq_left hi]
/-- what a new row holds behind two copies -/
theorem put_grown {f : Table → List Value} {sz : Nat} (hf : ∀ x, (f x).length = sz) (l : List Table) (t : Table) {i : Nat} (hi : i ≤ l.length) {C C1 C2 R : List Value} (hC : C.take (i * sz) = (l.take i).flatMap f)
    (h1 : C1 = C.take (i * sz) ++ f t ++ C.drop (i * sz + (f t).length)) (h2 : C2 = C1.take ((i + 1) * sz) ++ (l.drop i).flatMap f ++ R) :
    C2.take ((l.length + 1) * sz) = (l.take i ++ t :: l.drop i).flatMap f := by
  have hL := part_len hf l hi
  have e1 : C1.take ((i + 1) * sz) = (l.take i).flatMap f ++ f t := by
    refine take_front (R := C.drop (i * sz + (f t).length)) (by rw [h1, hC]) ?_
    rw [List.length_append, hL, hf, Nat.succ_mul]
  refine take_front (R := R) (by rw [h2, e1]; simp) ?_
  rw [length_flatMap' hf]
  congr 1
  simp
  omega
/-- what a row holds behind two copies in place -/
theorem put_placed {f : Table → List Value} {sz : Nat} (hf : ∀ x, (f x).length = sz) (l : List Table) (t : Table) {i : Nat} (hi : i < l.length) {C C1 C2 R : List Value} (hC : C.take (l.length * sz) = l.flatMap f)
    (h1 : C1 = C.take ((i + 1) * sz) ++ (l.drop i).flatMap f ++ R) (h2 : C2 = C1.take (i * sz) ++ f t ++ C1.drop (i * sz + (f t).length)) :
    C2.take ((l.length + 1) * sz) = (l.take i ++ t :: l.drop i).flatMap f := by
  have hL := part_len hf l (Nat.le_of_lt hi)
  have hL1 := part_len hf l (i := i + 1) (by omega)
  have c1 : C.take ((i + 1) * sz) = (l.take (i + 1)).flatMap f := by
    have : C.take ((i + 1) * sz) = (C.take (l.length * sz)).take ((i + 1) * sz) := by rw [List.take_take, Nat.min_eq_left (Nat.mul_le_mul_right _ (by omega))]
    rw [this, hC]
    refine take_front (R := (l.drop (i + 1)).flatMap f) ?_ hL1
    rw [← List.flatMap_append, List.take_append_drop]
  have e1 : C1.take (i * sz) = (l.take i).flatMap f := by
    rw [h1, c1, List.take_add_one]
    refine take_front (R := (l[i]?.toList).flatMap f ++ (l.drop i).flatMap f ++ R) (by simp) hL
  have e2 : C1.drop (i * sz + (f t).length) = (l.drop i).flatMap f ++ R := by
    refine drop_front (M := (l.take (i + 1)).flatMap f) (by rw [h1, c1]; simp) ?_
    rw [hL1, hf, Nat.succ_mul]
  refine take_front (R := R) (by rw [h2, e1, e2]; simp) ?_
  rw [length_flatMap' hf]
  congr 1
  simp
  omega

set_option maxRecDepth 100000 in
set_option maxHeartbeats 800000 in
theorem insert_end (l : List Table) (hl : l.length ≤ 1099511627776) (t : Table) (A : Option Addr) (c base vb : Nat) (w : World) (hown : Own w base 53 Table.cells 6 A c l) (hbase : base ≤ w.heap.size) (hv : Box w vb 53 t.cells.toArray) :
    Calls Try.prog 62 #[.slice A l.length c, .int .i64 l.length, .slice (some ⟨vb, 0, none⟩) 1 1] w fun e w' => ∃ A' c', e = .returned (.slice A' (l.length + 1) c') ∧ Own w' base 53 Table.cells 6 A' c' (l.take l.length ++ t :: l.drop l.length) ∧ w.grownBy w' (ownBlk A) ∧ (∀ g, ownBlk A' = some g → ownBlk A = some g ∨ w.heap.size ≤ g) := by
  have hc : l.length ≤ c := by
    rcases hown.2 with ⟨h1, h2⟩ | ⟨g, cap, cur, h1, _, _, h4, _⟩
    · omega
    · injection h1 with _ _ h9
      omega
  have hcell := hv.cell
  go_enter Try.func62, Try.ntmps62
  by_cases hck : c = l.length
  all_goals
    go_wp2_with (at_builtin; refine wpList_append_list Try.tablesOf rfl _ _ rfl [t] rfl hown rfl rfl rfl Table.cells_len Table.one (fun j u hj => by rw [Nat.zero_add, hcell]; simpa using hj) (by simp; omega) (by simp; omega) hbase ?_)
    rintro A' c' w' hown' hg hat
    go_wp2
    go_ret
    exact ⟨A', c', rfl, by simpa using hown', hg, hat⟩
end Go.Proofs.Yteplpgknnlehnaa
