/- Parts of this work, one behind the other: SortT. -/
import Derived.Test.YtmmaddmlfofgbaaDoorShelfO
import Derived.Lib.RowBridge
import Derived.Sort.Grow
import Derived.Test.YtmmaddmlfofgbaaDoorPko10
/- A row of texts of the call's own, sorted and bared of doubles by the library (layer 10). -/
namespace Go.Proofs.YtmmaddmlfofgbaaDoor
set_option linter.unusedSimpArgs false
set_option linter.unusedVariables false
open Go.RowKit Res Go.Sort

theorem sV_flat (l : List (List UInt8)) : l.flatMap sV = l.map encStr := by
  induction l with
  | nil => rfl
  | cons x l ih => rw [List.flatMap_cons, ih]; rfl
theorem own_put {w : World} {e : TypeId} {g c n : Nat} {l l' : List (List UInt8)} {os : Array Obj} (h : Own w 0 e sV 1 (some ⟨g, 0, none⟩) c l) (hl : l'.length = l.length) :
    Own (grow (putRow encStr (Sort.ahead w n) g 0 l'.toArray) os) 0 e sV 1 (some ⟨g, 0, none⟩) c l' ∧ Fr (· ≠ g) w (grow (putRow encStr (Sort.ahead w n) g 0 l'.toArray) os) := by
  have hf := sV_flat l'
  rcases h.2 with ⟨h1, _⟩ | ⟨g', cap, cur, h1, h2, h3, h4, h5, h6, h7⟩
  · cases h1
  · injection h1 with e1 e2 e3
    injection e1 with e1
    injection e1 with e1
    subst e1 e3
    have hg : g < w.heap.size := (Array.getElem?_eq_some_iff.1 h3).1
    have hsz : (w.heap.modify g (Sort.onCells (Sort.putCells encStr 0 l'.toArray))).size = w.heap.size := Array.size_modify
    have hblk : ∀ b, b < w.heap.size → (grow (putRow encStr (Sort.ahead w n) g 0 l'.toArray) os).heap[b]? = (w.heap.modify g (Sort.onCells (Sort.putCells encStr 0 l'.toArray)))[b]? := fun b hb => by
      show ((w.heap.modify g (Sort.onCells (Sort.putCells encStr 0 l'.toArray))) ++ os)[b]? = _
      rw [Array.getElem?_append_left (by rw [hsz]; exact hb)]
    refine ⟨⟨by rw [hf, List.length_map, Nat.mul_one], .inr ⟨g, c, Sort.putCells encStr 0 l'.toArray cur, by rw [hl], h2, ?_, by omega, h5, ?_, ?_⟩⟩, rfl, rfl, rfl, ?_, fun b hb hne => ?_⟩
    · rw [hblk g hg, Array.getElem?_modify, if_pos rfl, h3]
      rfl
    · rw [← h6]; simp [Sort.putCells]
    · rw [hf]
      refine List.ext_getElem? fun t => ?_
      rw [Nat.mul_one]
      by_cases ht : t < l'.length
      · have hc : t < cur.size := by rw [h6]; omega
        rw [List.getElem?_take_of_lt ht, Array.getElem?_toList]
        simp [Sort.putCells, ht, hc]
      · rw [List.getElem?_eq_none (by simp; omega), List.getElem?_eq_none (by simp; omega)]
    · show w.heap.size ≤ ((w.heap.modify g (Sort.onCells (Sort.putCells encStr 0 l'.toArray))) ++ os).size
      rw [Array.size_append, hsz]
      omega
    · rw [hblk b hb, Array.getElem?_modify, if_neg (fun e => hne e.symm)]
theorem own_holds1 {w : World} {e : TypeId} {g c : Nat} {l : List (List UInt8)} (h : Own w 0 e sV 1 (some ⟨g, 0, none⟩) c l) : Holds encStr w g 0 l.toArray := by
  intro j hj
  have hj' : j < l.length := by simpa using hj
  have hc := World.ownsRow.cellAt h j (by omega)
  rw [sV_flat, List.getElem?_map, List.getElem?_eq_getElem hj'] at hc
  refine ⟨?_, by rw [Nat.zero_add]; exact World.ownsRow.frozenAt h _⟩
  rw [Nat.zero_add, hc]
  simp [hj']
section
variable {S : Nat → Prop} {w0 w : World} {l : List Res} {F : Res → List Res} {g c : Nat} {xs : List (List UInt8)}
theorem sort_mem (M : Mem S w0 l w) (p : Pick l (ow 9 sV 1 (some ⟨g, 0, none⟩) c xs) F) (hx : xs.length < 4611686018427387904) :
    Calls Tryd.prog 11 #[.slice (some ⟨g, 0, none⟩) xs.length c] w fun e w' => e = .returned (.tuple #[]) ∧ Mem S w0 (F (ow 9 sV 1 (some ⟨g, 0, none⟩) c (xs.mergeSort fun x y => decide (x ≤ y)))) w' := by
  have hO : Own w 0 9 sV 1 (some ⟨g, 0, none⟩) c xs := M.own p
  refine (Tryd.slices_Sort_string g 0 c xs w (own_holds1 hO) (Own.blk hO g rfl).2 hx).mono fun e w' ⟨he, n, os, hw⟩ => ⟨he, ?_⟩
  subst hw
  obtain ⟨h1, h2⟩ := own_put (n := n) (os := os) hO (l' := xs.mergeSort fun x y => decide (x ≤ y)) (List.length_mergeSort _)
  exact M.put p (Fr.mono h2 fun x _ hx e => hx (by rw [e]; rfl)) _ h1 (fun _ h => .inl h)
theorem compact_mem {n : Nat} (M : Mem S w0 l w) (p : Pick l (ow 9 sV 1 (some ⟨g, 0, none⟩) c xs) F) (hx : xs.length ≤ 9223372036854775807) (hn : n = xs.length) :
    Calls Tryd.prog 12 #[.slice (some ⟨g, 0, none⟩) n c] w fun e w' => e = .returned (.slice (some ⟨g, 0, none⟩) (Lib.compact xs).length c) ∧ ∃ zs, Mem S w0 (F (ow 9 sV 1 (some ⟨g, 0, none⟩) c (Lib.compact xs ++ zs))) w' := by
  subst hn
  have hO : Own w 0 9 sV 1 (some ⟨g, 0, none⟩) c xs := M.own p
  refine (Tryd.slices_Compact_string g 0 c xs w (own_holds1 hO) hx (M.cap p)).mono fun e w' ⟨he, q, hw⟩ => ⟨he, List.replicate (xs.length - (Lib.compact xs).length) [], ?_⟩
  subst hw
  have hl : (Lib.compact xs ++ List.replicate (xs.length - (Lib.compact xs).length) []).length = xs.length := by
    have := Lib.compact_length_le xs
    simp
    omega
  obtain ⟨h1, h2⟩ := own_put (n := q) (os := #[]) hO hl
  rw [grow_empty] at h1 h2
  exact M.put p (Fr.mono h2 fun x _ hx e => hx (by rw [e]; rfl)) _ h1 (fun _ h => .inl h)
end
end Go.Proofs.YtmmaddmlfofgbaaDoor
