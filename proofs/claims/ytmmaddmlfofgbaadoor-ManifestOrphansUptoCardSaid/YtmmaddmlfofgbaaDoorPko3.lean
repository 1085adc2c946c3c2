/- Parts of this work, one behind the other: ManEncodes. -/
import Derived.JoinedCond
import Derived.ChangeOld
import Derived.OpenShut
import Derived.Test.YtmmaddmlfofgbaaDoorPko1
import Derived.Test.YtmmaddmlfofgbaaDoorPko2
/- The statement ManifestEncodes: for every edit that holds together at most 2^20 values and letters the law returns true, and the edit reads as it did. -/
namespace Go.Proofs.YtmmaddmlfofgbaaDoor.manifestEncodes
set_option linter.unusedSimpArgs false
set_option linter.unusedVariables false
open Go.ChangeShapes Go.WideShapes Go.ChangeAt Go.RowKit Go.Deep
set_option linter.unusedVariables false

theorem own : ownKnob Tryd.prog.godebug = none := by kernel_rfl
theorem laidOut : laidOutB Tryd.prog = true := by kernel_rfl

theorem read_table {H : Type} {enc : TypeId × Value → H} {w : World} {base : Nat} {spare : Nat → Bool} {held : Bool} (fuel : Nat) (cs : List Value) (x : DataW H × List MemPlace)
    (h : DataW.trod enc Tryd.prog w base spare held fuel 42 cs = some x) : ∃ t : Table, (cs = t.cells ∧ t.num < M64 ∧ I64 t.level ∧ I64 t.size ∧ I64 t.count) ∧ t.least.length + t.great.length + 1 ≤ Rows.uptoBulk x.1 := by
  have ht : Tryd.prog.underlying 42 = some (.struct #[⟨"Number", 24, 0, false, "", "", 0⟩, ⟨"Level", 3, 1, false, "", "", 8⟩, ⟨"Size", 3, 2, false, "", "", 16⟩, ⟨"Count", 3, 3, false, "", "", 24⟩,
    ⟨"Least", 9, 4, false, "", "", 32⟩, ⟨"Greatest", 9, 5, false, "", "", 48⟩]) := by kernel_rfl
  obtain ⟨y0, y1, y2, y3, y4, y5, n, rfl, hl, h0, h1, h2, h3, h4, h5⟩ := trod_struct6 ht h
  have e6 : Tryd.prog.cellsOf 42 = 6 := by kernel_rfl
  have es : Tryd.prog.cellsOf 9 = 1 := by kernel_rfl
  have eu : Tryd.prog.cellsOf 24 = 1 := by kernel_rfl
  have ei : Tryd.prog.cellsOf 3 = 1 := by kernel_rfl
  rw [e6] at hl
  obtain ⟨c0, c1, c2, c3, c4, c5, rfl⟩ := list6 hl
  simp only [es, eu, ei] at h0 h1 h2 h3 h4 h5
  obtain ⟨a0, k0, b0⟩ := read_u64 Tryd.underlying24 h0
  obtain ⟨a1, k1, b1⟩ := read_i64 Tryd.underlying3 h1
  obtain ⟨a2, k2, b2⟩ := read_i64 Tryd.underlying3 h2
  obtain ⟨a3, k3, b3⟩ := read_i64 Tryd.underlying3 h3
  obtain ⟨a4, k4, b4⟩ := read_str Tryd.underlying9 h4
  obtain ⟨a5, k5, b5⟩ := read_str Tryd.underlying9 h5
  simp at k0 k1 k2 k3 k4 k5
  subst k0 k1 k2 k3 k4 k5
  refine ⟨⟨a0, a1, a2, a3, a4, a5⟩, ⟨rfl, b0, b1, b2, b3⟩, ?_⟩
  simp only [Rows.uptoBulk, Rows.uptoBulkAll]
  omega

theorem read_number {H : Type} {enc : TypeId × Value → H} {w : World} {base : Nat} {spare : Nat → Bool} {held : Bool} (fuel : Nat) (cs : List Value) (x : DataW H × List MemPlace)
    (h : DataW.trod enc Tryd.prog w base spare held fuel 24 cs = some x) : ∃ n : Nat, (cs = u64C n ∧ n < M64) ∧ 0 ≤ Rows.uptoBulk x.1 := by
  obtain ⟨a0, k0, b0⟩ := read_u64 Tryd.underlying24 h
  exact ⟨a0, ⟨k0, b0⟩, Nat.zero_le _⟩

theorem rowR_facts {α : Type} {f : α → List Value} {p : α → Prop} {w : World} {lo hi sz : Nat} {A : Option Addr} {l : List α} (h : RowR (fun y cs => cs = f y ∧ p y) w lo hi sz A l) : RowR (fun y cs => cs = f y) w lo hi sz A l ∧ ∀ y ∈ l, p y := by
  obtain ⟨prs, rfl, hp, hr⟩ := h
  refine ⟨⟨prs, rfl, fun q hq => ⟨(hp q hq).1.1, (hp q hq).2⟩, hr⟩, fun y hy => ?_⟩
  obtain ⟨q, hq, rfl⟩ := List.mem_map.1 hy
  exact (hp q hq).1.2

theorem edit_under : Tryd.prog.underlying 39 = some (.struct #[⟨"Next", 24, 0, false, "", "", 0⟩, ⟨"Seq", 24, 1, false, "", "", 8⟩, ⟨"Log", 24, 2, false, "", "", 16⟩, ⟨"Add", 25, 3, false, "", "", 24⟩,
    ⟨"Drop", 37, 4, false, "", "", 48⟩]) := by kernel_rfl
end Go.Proofs.YtmmaddmlfofgbaaDoor.manifestEncodes
namespace Go.Proofs.YtmmaddmlfofgbaaDoor
end Go.Proofs.YtmmaddmlfofgbaaDoor
