/- Dues sorted by the library's insertion sort (layer 18), as plain functions, and what the sorted row owns. No program in sight. -/
import Derived.Test.YtjmdbgbkmjlmdaaActs2
import Derived.Test.YtjmdbgbkmjlmdaaFr
import Derived.Test.YtjmdbgbkmjlmdaaBase2
import Derived.Test.YtjmdbgbkmjlmdaaApp
import Derived.Shelf.SlSortCmp.SmallK
namespace Go.Proofs.Ytjmdbgbkmjlmdaa
set_option linter.unusedSimpArgs false
set_option linter.unusedVariables false
open Go.RowKit

instance : Inhabited DueV := ⟨⟨0, 0⟩⟩
def cmpDue (x y : DueV) : Int := if Lib.compareInt x.at_ y.at_ ≠ 0 then Lib.compareInt x.at_ y.at_ else Lib.compareInt x.kind y.kind
theorem ltOf_cmpDue : ltOf cmpDue = dueLt := by
  funext x y
  unfold ltOf cmpDue Lib.compareInt dueLt
  by_cases h1 : x.at_ < y.at_
  · simp [h1]
  · by_cases h2 : y.at_ < x.at_
    · have : ¬ x.at_ = y.at_ := by omega
      simp [h1, h2, this]
    · have : x.at_ = y.at_ := by omega
      by_cases h3 : x.kind < y.kind
      · simp [this, h3]
      · by_cases h4 : y.kind < x.kind <;> simp [this, h3, h4]
theorem dueLt_not {x y : DueV} (h : x.kind ≠ y.kind) : dueLt y x = !dueLt x y := by
  cases h1 : dueLt x y with
  | true => simpa using dueLt_asymm h1
  | false => simpa using dueLt_total h1 h
theorem sort_small {l : List DueV} (h : l.length ≤ 3) (hk : Kinds l) : (Sort.insertionSort dueLt l.toArray 0 l.length).toList = l.foldl putDue [] := by
  match l, h, hk with
  | [], _, _ => simp [Sort.insertionSort, Sort.insOuter]
  | [x], _, _ => simp [Sort.insertionSort, Sort.insOuter, putDue]
  | [x, y], _, hk =>
    simp [Kinds] at hk
    have h1 := dueLt_not hk
    cases h2 : dueLt x y <;> rw [h2] at h1 <;> simp at h1 <;> simp [Sort.insertionSort, Sort.insOuter, Sort.insInner, Sort.swp, putDue, h1, h2]
  | [x, y, z], _, hk =>
    simp [Kinds] at hk
    obtain ⟨⟨k1, k2⟩, k3⟩ := hk
    have h1 := dueLt_not k1
    have h3 := dueLt_not k2
    have h5 := dueLt_not k3
    have t1 : dueLt x y = true → dueLt y z = true → dueLt x z = true := dueLt_trans
    have t2 : dueLt y x = true → dueLt z y = true → dueLt z x = true := fun a b => dueLt_trans b a
    cases h2 : dueLt x y <;> cases h4 : dueLt x z <;> cases h6 : dueLt y z <;> rw [h2] at h1 <;> rw [h4] at h3 <;> rw [h6] at h5 <;> simp at h1 h3 h5 <;> simp [h1, h2, h3, h4, h5, h6] at t1 t2 <;> simp [Sort.insertionSort, Sort.insOuter, Sort.insInner, Sort.swp, putDue, h1, h2, h3, h4, h5, h6]
theorem flatK_eq {α : Type} [Inhabited α] {enc : α → List Value} {k : Nat} (h0 : 0 < k) (hk : ∀ x, (enc x).length = k) (d : Array α) : (Sort.flatK enc k d).toList = d.toList.flatMap enc := by
  have hl := length_flatMap' hk d.toList
  refine List.ext_getElem? fun t => ?_
  by_cases ht : t < d.size * k
  · have h1 : t / k < d.toList.length := by
      rw [Array.length_toList]
      exact Nat.div_lt_of_lt_mul (by rw [Nat.mul_comm]; exact ht)
    have h2 : t % k < k := Nat.mod_lt _ h0
    have h3 := getElem?_flatMap (sz := k) hk d.toList (t / k) (t % k) h2
    rw [show t / k * k + t % k = t by rw [Nat.mul_comm]; exact Nat.div_add_mod t k] at h3
    have h4 := Sort.get_flatK enc k d t ht
    rw [h3, Array.getElem?_toList]
    have h5 : (Sort.flatK enc k d)[t]? = some (Sort.flatK enc k d)[t]! := by
      rw [getElem!_pos _ t (by simpa using ht), Array.getElem?_eq_getElem (by simpa using ht)]
    rw [h5, h4]
    have h6 : d[t / k]! = d[t / k]'(by simpa using h1) := getElem!_pos d _ _
    rw [List.getElem?_eq_getElem h1]
    simp only [Option.bind_some, Array.getElem_toList]
    rw [h6, List.getElem?_eq_getElem (by rw [hk]; exact h2), getElem!_pos]
  · rw [List.getElem?_eq_none (by simpa using Nat.le_of_not_lt ht), List.getElem?_eq_none (by rw [hl, Array.length_toList]; omega)]
theorem own_sorted {w : World} {base : Nat} {e : TypeId} {g c : Nat} {l : List DueV} (h : Own w base e DueV.cells 2 (some ⟨g, 0, none⟩) c l) {n : Nat} {d : Array DueV} {os : Array Obj} {l' : List DueV} (hd : d.toList = l') (hl : l'.length = l.length) :
    Own (sortWorldK DueV.cells 2 w g 0 n d os) base e DueV.cells 2 (some ⟨g, 0, none⟩) c l' ∧ Fr (· ≠ g) w (sortWorldK DueV.cells 2 w g 0 n d os) := by
  have hf := flatK_eq (enc := DueV.cells) (k := 2) (by omega) (fun _ => rfl) d
  rw [hd] at hf
  have hlen := length_flatMap' (f := DueV.cells) (sz := 2) (fun _ => rfl) l'
  rcases h.2 with ⟨h1, _⟩ | ⟨g', cap, cur, h1, h2, h3, h4, h5, h6, h7⟩
  · cases h1
  · injection h1 with e1 e2 e3
    injection e1 with e1
    injection e1 with e1
    subst e1 e3
    have hg : g < w.heap.size := (Array.getElem?_eq_some_iff.1 h3).1
    have hsz : (w.heap.modify g (Sort.onCells (Sort.putCells id 0 (Sort.flatK DueV.cells 2 d)))).size = w.heap.size := Array.size_modify
    have hblk : ∀ b, b < w.heap.size → (sortWorldK DueV.cells 2 w g 0 n d os).heap[b]? = (w.heap.modify g (Sort.onCells (Sort.putCells id 0 (Sort.flatK DueV.cells 2 d))))[b]? := fun b hb => by
      show ((w.heap.modify g (Sort.onCells (Sort.putCells id 0 (Sort.flatK DueV.cells 2 d)))) ++ os)[b]? = _
      rw [Array.getElem?_append_left (by rw [hsz]; exact hb)]
    refine ⟨⟨by rw [hlen], .inr ⟨g, c, Sort.putCells id 0 (Sort.flatK DueV.cells 2 d) cur, by rw [hl], h2, ?_, by omega, h5, ?_, ?_⟩⟩, rfl, rfl, rfl, ?_, fun b hb hne => ?_⟩
    · rw [hblk g hg, Array.getElem?_modify, if_pos rfl, h3]
      rfl
    · rw [← h6]; simp [Sort.putCells]
    · rw [← hf]
      refine List.ext_getElem? fun t => ?_
      have hfs : (Sort.flatK DueV.cells 2 d).size = l'.length * 2 := by rw [← Array.length_toList, hf, hlen]
      by_cases ht : t < l'.length * 2
      · rw [List.getElem?_take_of_lt ht, Array.getElem?_toList, Array.getElem?_toList]
        have hc : t < cur.size := by rw [h6]; have : l.length * 2 ≤ c * 2 := Nat.mul_le_mul_right _ h4; omega
        rw [Array.getElem?_eq_getElem (by simpa [Sort.putCells] using hc), Array.getElem?_eq_getElem (by omega)]
        simp [Sort.putCells, hfs, ht]
      · rw [List.getElem?_eq_none (by simp; omega), List.getElem?_eq_none (by rw [Array.length_toList]; omega)]
    · show w.heap.size ≤ ((w.heap.modify g (Sort.onCells (Sort.putCells id 0 (Sort.flatK DueV.cells 2 d)))) ++ os).size
      rw [Array.size_append, hsz]
      omega
    · rw [hblk b hb, Array.getElem?_modify, if_neg (fun e => hne e.symm)]
theorem own_holds {w : World} {base : Nat} {e : TypeId} {g c : Nat} {l : List DueV} (h : Own w base e DueV.cells 2 (some ⟨g, 0, none⟩) c l) : Sort.HoldsK DueV.cells 2 w g 0 l.toArray := by
  have hf := flatK_eq (enc := DueV.cells) (k := 2) (by omega) (fun _ => rfl) l.toArray
  intro j hj
  have hc := World.ownsRow.cells h (g := g) rfl j (Sort.flatK DueV.cells 2 l.toArray)[j]! (by
    rw [show l.flatMap DueV.cells = (Sort.flatK DueV.cells 2 l.toArray).toList from hf.symm, Array.getElem?_toList, getElem!_pos _ j hj, Array.getElem?_eq_getElem hj])
  rw [add_plain] at hc
  refine ⟨hc, ?_⟩
  rcases h.2 with ⟨h1, _⟩ | ⟨g', cap, cur, h1, h2, h3, h4, h5, h6, h7⟩
  · cases h1
  · injection h1 with e1 e2 e3
    injection e1 with e1
    injection e1 with e1
    subst e1
    simp [World.frozen?, h3]
end Go.Proofs.Ytjmdbgbkmjlmdaa
