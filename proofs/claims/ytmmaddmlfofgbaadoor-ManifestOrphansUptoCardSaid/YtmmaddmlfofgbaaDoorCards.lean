/-
  DERIVED. GIVEN WITH THE SEED: THE CARDS: each row of YtmmaddmlfofgbaaDoorRows.lean that lists a variable, with what it lists TIED to the program's text (the seventh form; the later family's looks); each row that meets fmt, with fmt's text TOLD by the authors' own Lean function (tested against real Go, not proved from fmt's source: count such statements apart). THE CARD IS WHAT COUNTS. Prove the row's statement (the work); the ties are given (YtmmaddmlfofgbaaDoorTie.lean); close each card by the builder's one call (the guide's Derived/Test/ToyasCard.lean, 'card_holds'). Laid BY PROGRAM, IN A SANDBOX (cutbox-door.mjs). By AI agents, Wed Nov 11 2026. No macro, syntax, notation, axiom, sorry.
-/
import Derived.Test.YtmmaddmlfofgbaaDoorRows
import GoSem.ClaimSeven
namespace Go.Proofs.YtmmaddmlfofgbaaDoor
namespace Rows

/-- THE TIED CARD OF 'tapestrylaw10.ManifestOrphans'. -/
def manifestOrphansCard : Claim7 := { stood := { row := manifestOrphansRow, standIns := [], harness := (true, "67dcc7cc416fe49c359cdcdc40dff932993b3f63093a288d833eb9e591a7f5f5"), looks := true }, kinds := [], alts := [], laidByText := true, laidKinds := [.data, .data, .data, .sentinel, .sentinel], laidTests := true, laidLooks := .later }
def ManifestOrphansCardSaid : Prop := Claim7.holds Tryd.pinned (.plain (OpenSpec.ofChange manifestOrphansSpec)) manifestOrphansCard

/-- THE SECOND FORM's CARD OF 'tapestrylaw10.ManifestOrphans'. -/
def manifestOrphansUptoCard : Claim7 := { stood := { row := manifestOrphansUptoRow, standIns := [], harness := (true, "67dcc7cc416fe49c359cdcdc40dff932993b3f63093a288d833eb9e591a7f5f5"), looks := true }, kinds := [], alts := [], laidByText := true, laidKinds := [.data, .data, .data, .sentinel, .sentinel], laidTests := true, laidLooks := .later }
def ManifestOrphansUptoCardSaid : Prop := Claim7.holds Tryd.pinned (.plain (OpenSpec.upto manifestOrphansSpec)) manifestOrphansUptoCard
end Rows
end Go.Proofs.YtmmaddmlfofgbaaDoor
