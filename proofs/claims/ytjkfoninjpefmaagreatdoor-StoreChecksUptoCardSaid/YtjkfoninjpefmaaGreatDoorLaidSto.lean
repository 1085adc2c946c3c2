/- A configuration as an argument; what the row's list of variables gives, and a world that holds it (layer 12). -/
import Derived.Test.YtjkfoninjpefmaaGreatDoorSto1
import Derived.Test.YtjkfoninjpefmaaGreatDoorFlds
import Derived.Test.YtjkfoninjpefmaaGreatDoorCards
import Derived.Test.YtjkfoninjpefmaaGreatDoorTie
import Derived.Test.YtjkfoninjpefmaaGreatDoorChecked
import Derived.ProofKit
import Derived.OpenShut
import Derived.Deep.DeepHandedRow
import Derived.Deep.DeepWitnessRowRef
import Derived.LaidMore
import Derived.Lay
namespace Go.Proofs.YtjkfoninjpefmaaGreatDoor
set_option linter.unusedSimpArgs false
set_option linter.unusedVariables false
open Go.ChangeShapes Go.WideShapes Go.ChangeAt Go.RowKit Go.Deep

theorem own : ownKnob Tryz.prog.godebug = none := by kernel_rfl
theorem laidOut : laidOutB Tryz.prog = true := by kernel_rfl
abbrev stoLaid : List (String × DataW Unit) := [("math/bits.deBruijn32tab", Rows.laid_math_bits_deBruijn32tab), ("math/bits.deBruijn64tab", Rows.laid_math_bits_deBruijn64tab), ("internal/strconv.uint64pow10", Rows.laid_internal_strconv_uint64pow10), ("strconv.ErrRange", Rows.laid_strconv_ErrRange), ("strconv.ErrSyntax", Rows.laid_strconv_ErrSyntax)]
noncomputable abbrev stoWorld (os : Os) : World := World.laidAll Tryz.prog os stoLaid
theorem sto_met (os : Os) (args : Array Value) : laidMet Tryz.prog stoLaid ((stoWorld os).forCall (fun _ _ => 0) ⟨#[], args, []⟩).memory :=
  laidMet_laidAll _ (by kernel_rfl) (by kernel_rfl)
theorem shaped_glob {W : World} (h : W.ShapedOpen Tryz.prog) : Tryz.prog.globals.size ≤ W.heap.size := by
  obtain ⟨o, o0, h1, -⟩ := h.2 Tryz.prog.globals.size (Nat.le_refl _) (of_decide_eq_true (by kernel_rfl))
  exact Nat.le_of_lt (Array.getElem?_eq_some_iff.1 h1).1
theorem list8 {α : Type} {xs : List α} (h : xs.length = 8) : ∃ a b c d e f g i, xs = [a, b, c, d, e, f, g, i] := by
  match xs, h with
  | [a, b, c, d, e, f, g, i], _ => exact ⟨a, b, c, d, e, f, g, i, rfl⟩
theorem config_under : Tryz.prog.underlying 24 = some (.struct (Tryz.prog.fieldsOf 24)) := by kernel_rfl
set_option maxRecDepth 100000 in
theorem read_config {H : Type} {enc : TypeId × Value → H} {w : World} {base : Nat} {spare : Nat → Bool} {held : Bool} {fuel : Nat} {cs : List Value} {x : DataW H × List MemPlace} (h : DataW.trod enc Tryz.prog w base spare held fuel 24 cs = some x) :
    ∃ c0 c1 c2 c3 c4 c5 c6 c7 : Int, cs = [fi c0, fi c1, fi c2, fi c3, fi c4, fi c5, fi c6, .int .u64 c7] := by
  have hl := fld_len config_under h
  rw [show Tryz.prog.cellsOf 24 = 8 by kernel_rfl] at hl
  obtain ⟨c0, c1, c2, c3, c4, c5, c6, c7, rfl⟩ := list8 hl
  obtain ⟨n0, rfl⟩ := fld_int config_under h 0 0 (by kernel_rfl) (by kernel_rfl) (by kernel_rfl) (by kernel_rfl) rfl
  obtain ⟨n1, rfl⟩ := fld_int config_under h 1 1 (by kernel_rfl) (by kernel_rfl) (by kernel_rfl) (by kernel_rfl) rfl
  obtain ⟨n2, rfl⟩ := fld_int config_under h 2 2 (by kernel_rfl) (by kernel_rfl) (by kernel_rfl) (by kernel_rfl) rfl
  obtain ⟨n3, rfl⟩ := fld_int config_under h 3 3 (by kernel_rfl) (by kernel_rfl) (by kernel_rfl) (by kernel_rfl) rfl
  obtain ⟨n4, rfl⟩ := fld_int config_under h 4 4 (by kernel_rfl) (by kernel_rfl) (by kernel_rfl) (by kernel_rfl) rfl
  obtain ⟨n5, rfl⟩ := fld_int config_under h 5 5 (by kernel_rfl) (by kernel_rfl) (by kernel_rfl) (by kernel_rfl) rfl
  obtain ⟨n6, rfl⟩ := fld_int config_under h 6 6 (by kernel_rfl) (by kernel_rfl) (by kernel_rfl) (by kernel_rfl) rfl
  obtain ⟨y, n, h1, -⟩ := fld config_under h 7 7 1 (by kernel_rfl) (by kernel_rfl) (by kernel_rfl)
  obtain ⟨n7, h2, -⟩ := read_u64 Tryz.underlying22 h1
  obtain rfl := fld_one_of (off := 7) h2 rfl
  exact ⟨n0, n1, n2, n3, n4, n5, n6, n7, rfl⟩
end Go.Proofs.YtjkfoninjpefmaaGreatDoor
