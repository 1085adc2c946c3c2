/- Parts of this work, one behind the other: LaidNames. -/
import Derived.Test.YtmmaddmlfofgbaaDoorCards
import Derived.Test.YtmmaddmlfofgbaaDoorTie
import Derived.Test.YtmmaddmlfofgbaaDoorChecked
import Derived.ProofKit
import Derived.OpenShut
import Derived.Deep.DeepHandedRow
import Derived.Deep.DeepWitnessRowRef
import Derived.Lib.LaidTab
import Derived.Stop.LaidErr
import Derived.LaidMore
import Derived.Test.YtmmaddmlfofgbaaDoorPko9
/- What the row's list of variables gives, and a world that holds them (layers 5 and 10). -/
namespace Go.Proofs.YtmmaddmlfofgbaaDoor
set_option linter.unusedSimpArgs false
set_option linter.unusedVariables false
open Go.ChangeShapes Go.WideShapes Go.ChangeAt Go.RowKit

theorem own : ownKnob Tryd.prog.godebug = none := by kernel_rfl
theorem laidOut : laidOutB Tryd.prog = true := by kernel_rfl
def tzs : List Int := [0, 1, 56, 2, 57, 49, 28, 3, 61, 58, 42, 50, 38, 29, 17, 4, 62, 47, 59, 36, 45, 43, 51, 22, 53, 39, 33, 30, 24, 18, 12, 5, 63, 55, 48, 27, 60, 41, 37, 16, 46, 35, 44, 21, 52, 32, 23, 11, 54, 26, 40, 15, 34, 20, 31, 10, 25, 14, 19, 9, 13, 8, 7, 6]
theorem starOf : "*" ++ "errors.errorString" = "*errors.errorString" := by decide
theorem errRow (u : TypeId) (h : Tryd.prog.typeName? 3 u = some "*errors.errorString") : u = 128 :=
  typeName_ptr_named (nm := "errors.errorString") (by rw [starOf]; kernel_rfl) (by kernel_rfl) (by decide) u (by rw [starOf]; exact h)
abbrev namesLaid : List (String × DataW Unit) := [("math/bits.deBruijn32tab", Rows.laid_math_bits_deBruijn32tab), ("math/bits.deBruijn64tab", Rows.laid_math_bits_deBruijn64tab), ("internal/strconv.uint64pow10", Rows.laid_internal_strconv_uint64pow10), ("strconv.ErrRange", Rows.laid_strconv_ErrRange), ("strconv.ErrSyntax", Rows.laid_strconv_ErrSyntax)]
theorem cell_lt {w : World} {b o : Nat} {v : Value} (h : w.cell? ⟨b, o, none⟩ = some v) : b < w.heap.size := by
  rcases Nat.lt_or_ge b w.heap.size with h' | h'
  · exact h'
  · exfalso
    unfold World.cell? at h
    simp [Array.getElem?_eq_none h'] at h
theorem tz_of {W : World} (h : laidMet Tryd.prog namesLaid W) : Tz W := by
  have ht : Lib.TabIs Tryd.prog W "math/bits.deBruijn64tab" .u8 tzs := Lib.tabIs_of_head (g := 5) (t := 133) (e := 5) (by kernel_rfl) (by kernel_rfl) Tryd.underlying133 Tryd.underlying5 (by kernel_rfl) (by kernel_rfl) h.tail
  have hc : W.cell? ⟨5, 15, none⟩ = some (.int .u8 4) := ht.cell (g := 5) (by kernel_rfl) 15 (by decide)
  exact ⟨hc, cell_lt hc⟩
theorem ev_of {W : World} (h : laidMet Tryd.prog namesLaid W) : Ev W := by
  obtain ⟨a0, s0, h0, -⟩ := laid_sentinel (g := 1) (ti := 57) (tp := 128) (te := 130) (ts := 9) h.tail.tail.tail (by kernel_rfl) (by kernel_rfl) Tryd.underlying57 errRow Tryd.underlying128 Tryd.underlying130 rfl rfl Tryd.underlying9 (by kernel_rfl) (by kernel_rfl)
  obtain ⟨a1, s1, h1, -⟩ := laid_sentinel (g := 0) (ti := 57) (tp := 128) (te := 130) (ts := 9) h.tail.tail.tail.tail (by kernel_rfl) (by kernel_rfl) Tryd.underlying57 errRow Tryd.underlying128 Tryd.underlying130 rfl rfl Tryd.underlying9 (by kernel_rfl) (by kernel_rfl)
  have c0 : W.cell? ⟨1, 0, none⟩ = some (.iface 128 (.pointer (some a0))) := by
    have := World.var?_cell (P := Tryd.prog) (g := 1) (by kernel_rfl) h0 0
    simpa using this
  have c1 : W.cell? ⟨0, 0, none⟩ = some (.iface 128 (.pointer (some a1))) := by
    have := World.var?_cell (P := Tryd.prog) (g := 0) (by kernel_rfl) h1 0
    simpa using this
  exact ⟨⟨_, _, c1⟩, ⟨_, _, c0⟩, cell_lt c1, cell_lt c0⟩
theorem door_met (os : Os) (args : Array Value) : laidMet Tryd.prog namesLaid ((World.doorLaid Tryd.prog 200 os).forCall (fun _ _ => 0) ⟨#[], args, []⟩).memory :=
  laidMet_of_run' 8 (by kernel_rfl) (by kernel_rfl)
end Go.Proofs.YtmmaddmlfofgbaaDoor
