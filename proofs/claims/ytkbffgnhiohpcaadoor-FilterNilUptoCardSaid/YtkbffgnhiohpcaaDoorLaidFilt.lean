/- What the rows' list of variables gives, and a world that holds them (layer 21). -/
import Derived.Test.YtkbffgnhiohpcaaDoorFiltW2
import Derived.Test.YtkbffgnhiohpcaaDoorCards
import Derived.Test.YtkbffgnhiohpcaaDoorTie
import Derived.Test.YtkbffgnhiohpcaaDoorChecked
import Derived.ProofKit
import Derived.OpenShut
import Derived.Deep.DeepHandedRow
import Derived.Deep.DeepWitnessRowRef
import Derived.Lib.LaidTab
import Derived.Stop.LaidErr
import Derived.LaidMore
import Derived.Lay
namespace Go.Proofs.YtkbffgnhiohpcaaDoor
set_option linter.unusedSimpArgs false
set_option linter.unusedVariables false
open Go.ChangeShapes Go.WideShapes Go.ChangeAt Go.RowKit

theorem own : ownKnob Tryd.prog.godebug = none := by kernel_rfl
theorem laidOut : laidOutB Tryd.prog = true := by kernel_rfl
theorem starOf : "*" ++ "errors.errorString" = "*errors.errorString" := by decide
theorem errRow (u : TypeId) (h : Tryd.prog.typeName? 3 u = some "*errors.errorString") : u = 156 :=
  typeName_ptr_named (nm := "errors.errorString") (by rw [starOf]; kernel_rfl) (by kernel_rfl) (by decide) u (by rw [starOf]; exact h)
abbrev filtLaid : List (String × DataW Unit) := [("math/bits.deBruijn32tab", Rows.laid_math_bits_deBruijn32tab), ("math/bits.deBruijn64tab", Rows.laid_math_bits_deBruijn64tab), ("internal/strconv.uint64pow10", Rows.laid_internal_strconv_uint64pow10), ("unicode/utf8.acceptRanges", Rows.laid_unicode_utf8_acceptRanges), ("strconv.ErrRange", Rows.laid_strconv_ErrRange), ("strconv.ErrSyntax", Rows.laid_strconv_ErrSyntax), ("unicode.White_Space", Rows.laid_unicode_White_Space), ("strings.asciiSpace", Rows.laid_strings_asciiSpace), ("unicode/utf8.first", Rows.laid_unicode_utf8_first)]
theorem cell_lt {w : World} {b o : Nat} {v : Value} (h : w.cell? ⟨b, o, none⟩ = some v) : b < w.heap.size := by
  rcases Nat.lt_or_ge b w.heap.size with h' | h'
  · exact h'
  · exfalso
    unfold World.cell? at h
    simp [Array.getElem?_eq_none h'] at h
noncomputable abbrev filtWorld (os : Os) : World := World.laidAll Tryd.prog os filtLaid
theorem filt_met (os : Os) (args : Array Value) : laidMet Tryd.prog filtLaid ((filtWorld os).forCall (fun _ _ => 0) ⟨#[], args, []⟩).memory :=
  laidMet_laidAll _ (by kernel_rfl) (by kernel_rfl)
set_option maxRecDepth 100000 in
theorem nv_of {W : World} (h : laidMet Tryd.prog filtLaid W) : Nv W := by
  obtain ⟨a0, s0, h0, -⟩ := laid_sentinel (g := 2) (ti := 53) (tp := 156) (te := 158) (ts := 9) h.tail.tail.tail.tail (by kernel_rfl) (by kernel_rfl) Tryd.underlying53 errRow Tryd.underlying156 Tryd.underlying158 rfl rfl Tryd.underlying9 (by kernel_rfl) (by kernel_rfl)
  obtain ⟨a1, s1, h1, -⟩ := laid_sentinel (g := 1) (ti := 53) (tp := 156) (te := 158) (ts := 9) h.tail.tail.tail.tail.tail (by kernel_rfl) (by kernel_rfl) Tryd.underlying53 errRow Tryd.underlying156 Tryd.underlying158 rfl rfl Tryd.underlying9 (by kernel_rfl) (by kernel_rfl)
  have c0 : W.cell? ⟨2, 0, none⟩ = some (.iface 156 (.pointer (some a0))) := by
    have := World.var?_cell (P := Tryd.prog) (g := 2) (by kernel_rfl) h0 0
    simpa using this
  have c1 : W.cell? ⟨1, 0, none⟩ = some (.iface 156 (.pointer (some a1))) := by
    have := World.var?_cell (P := Tryd.prog) (g := 1) (by kernel_rfl) h1 0
    simpa using this
  exact ⟨⟨_, _, c1⟩, ⟨_, _, c0⟩, ⟨cell_lt c1, cell_lt c0⟩, Lib.tabIs_of_head (g := 0) (t := 140) (e := 22) (by kernel_rfl) (by kernel_rfl) Tryd.underlying140 Tryd.underlying22 (by kernel_rfl) (by kernel_rfl) h.tail.tail,
    Lib.tabIs_of_head (g := 6) (t := 178) (e := 5) (by kernel_rfl) (by kernel_rfl) Tryd.underlying178 Tryd.underlying5 (by kernel_rfl) (by kernel_rfl) h.tail.tail.tail.tail.tail.tail.tail⟩
end Go.Proofs.YtkbffgnhiohpcaaDoor
