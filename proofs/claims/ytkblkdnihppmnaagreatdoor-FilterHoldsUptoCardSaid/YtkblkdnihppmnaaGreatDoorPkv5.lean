/- Parts of this work, one behind the other: LaidFilt. -/
import Derived.Test.YtkblkdnihppmnaaGreatDoorCards
import Derived.Test.YtkblkdnihppmnaaGreatDoorTie
import Derived.Test.YtkblkdnihppmnaaGreatDoorChecked
import Derived.ProofKit
import Derived.OpenShut
import Derived.Deep.DeepHandedRow
import Derived.Deep.DeepWitnessRowRef
import Derived.Lib.LaidTab
import Derived.Stop.LaidErr
import Derived.LaidMore
import Derived.Lay
import Derived.Test.YtkblkdnihppmnaaGreatDoorPkv4
/- What the rows' list of variables gives, and a world that holds them (layer 21). -/
namespace Go.Proofs.YtkblkdnihppmnaaGreatDoor
set_option linter.unusedSimpArgs false
set_option linter.unusedVariables false
open Go.ChangeShapes Go.WideShapes Go.ChangeAt Go.RowKit

theorem own : ownKnob Tryz.prog.godebug = none := by kernel_rfl
theorem laidOut : laidOutB Tryz.prog = true := by kernel_rfl
theorem starOf : "*" ++ "errors.errorString" = "*errors.errorString" := by decide
theorem errRow (u : TypeId) (h : Tryz.prog.typeName? 3 u = some "*errors.errorString") : u = 121 :=
  typeName_ptr_named (nm := "errors.errorString") (by rw [starOf]; kernel_rfl) (by kernel_rfl) (by decide) u (by rw [starOf]; exact h)
abbrev filtLaid : List (String × DataW Unit) := [("math/bits.deBruijn32tab", Rows.laid_math_bits_deBruijn32tab), ("math/bits.deBruijn64tab", Rows.laid_math_bits_deBruijn64tab), ("internal/strconv.uint64pow10", Rows.laid_internal_strconv_uint64pow10), ("unicode/utf8.acceptRanges", Rows.laid_unicode_utf8_acceptRanges), ("strconv.ErrRange", Rows.laid_strconv_ErrRange), ("strconv.ErrSyntax", Rows.laid_strconv_ErrSyntax), ("unicode.White_Space", Rows.laid_unicode_White_Space), ("strings.asciiSpace", Rows.laid_strings_asciiSpace), ("unicode/utf8.first", Rows.laid_unicode_utf8_first)]
theorem cell_lt {w : World} {b o : Nat} {v : Value} (h : w.cell? ⟨b, o, none⟩ = some v) : b < w.heap.size := by
  rcases Nat.lt_or_ge b w.heap.size with h' | h'
  · exact h'
  · exfalso
    unfold World.cell? at h
    simp [Array.getElem?_eq_none h'] at h
noncomputable abbrev filtWorld (os : Os) : World := World.laidAll Tryz.prog os filtLaid
theorem filt_met (os : Os) (args : Array Value) : laidMet Tryz.prog filtLaid ((filtWorld os).forCall (fun _ _ => 0) ⟨#[], args, []⟩).memory :=
  laidMet_laidAll _ (by kernel_rfl) (by kernel_rfl)
set_option maxRecDepth 100000 in
theorem nv_of {W : World} (h : laidMet Tryz.prog filtLaid W) : Nv W := by
  obtain ⟨a0, s0, h0, -⟩ := laid_sentinel (g := 1) (ti := 74) (tp := 121) (te := 123) (ts := 9) h.tail.tail.tail.tail (by kernel_rfl) (by kernel_rfl) Tryz.underlying74 errRow Tryz.underlying121 Tryz.underlying123 rfl rfl Tryz.underlying9 (by kernel_rfl) (by kernel_rfl)
  obtain ⟨a1, s1, h1, -⟩ := laid_sentinel (g := 0) (ti := 74) (tp := 121) (te := 123) (ts := 9) h.tail.tail.tail.tail.tail (by kernel_rfl) (by kernel_rfl) Tryz.underlying74 errRow Tryz.underlying121 Tryz.underlying123 rfl rfl Tryz.underlying9 (by kernel_rfl) (by kernel_rfl)
  have c0 : W.cell? ⟨1, 0, none⟩ = some (.iface 121 (.pointer (some a0))) := by
    have := World.var?_cell (P := Tryz.prog) (g := 1) (by kernel_rfl) h0 0
    simpa using this
  have c1 : W.cell? ⟨0, 0, none⟩ = some (.iface 121 (.pointer (some a1))) := by
    have := World.var?_cell (P := Tryz.prog) (g := 0) (by kernel_rfl) h1 0
    simpa using this
  exact ⟨⟨_, _, c1⟩, ⟨_, _, c0⟩, ⟨cell_lt c1, cell_lt c0⟩, Lib.tabIs_of_head (g := 2) (t := 109) (e := 88) (by kernel_rfl) (by kernel_rfl) Tryz.underlying109 Tryz.underlying88 (by kernel_rfl) (by kernel_rfl) h.tail.tail,
    Lib.tabIs_of_head (g := 6) (t := 135) (e := 5) (by kernel_rfl) (by kernel_rfl) Tryz.underlying135 Tryz.underlying5 (by kernel_rfl) (by kernel_rfl) h.tail.tail.tail.tail.tail.tail.tail⟩
end Go.Proofs.YtkblkdnihppmnaaGreatDoor
