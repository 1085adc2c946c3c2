/-
  DERIVED. GIVEN WITH THE SEED: THE CARDS: each row of YtkbffgnhiohpcaaDoorRows.lean that lists a variable, with what it lists TIED to the program's text (the seventh form; the later family's looks); each row that meets fmt, with fmt's text TOLD by the authors' own Lean function (tested against real Go, not proved from fmt's source: count such statements apart). THE CARD IS WHAT COUNTS. Prove the row's statement (the work); the ties are given (YtkbffgnhiohpcaaDoorTie.lean); close each card by the builder's one call (the guide's Derived/Test/ToyasCard.lean, 'card_holds'). Laid BY PROGRAM, IN A SANDBOX (cutbox-door.mjs). By AI agents, Wed Nov 11 2026. No macro, syntax, notation, axiom, sorry.
-/
import Derived.Test.YtkbffgnhiohpcaaDoorRows
import GoSem.ClaimSeven
namespace Go.Proofs.YtkbffgnhiohpcaaDoor
namespace Rows

/-- THE TIED CARD OF 'tapestrylaw05.WalNames'. -/
def walNamesCard : Claim7 := { stood := { row := walNamesRow, standIns := [], harness := (true, "f9f6bc26a532d1ba594c3feb5bccaf3fb5eaa622e9a9199e35723fe8897aec70"), looks := true }, kinds := [], alts := [], laidByText := true, laidKinds := [.data, .data, .data, .sentinel, .sentinel], laidTests := true, laidLooks := .later }
def WalNamesCardSaid : Prop := Claim7.holds Tryd.pinned (.plain (OpenSpec.ofChange walNamesSpec)) walNamesCard

/-- THE TIED CARD OF 'tapestrylaw10.ManifestNames'. -/
def manifestNamesCard : Claim7 := { stood := { row := manifestNamesRow, standIns := [], harness := (true, "f9f6bc26a532d1ba594c3feb5bccaf3fb5eaa622e9a9199e35723fe8897aec70"), looks := true }, kinds := [], alts := [], laidByText := true, laidKinds := [.data, .data, .data, .sentinel, .sentinel], laidTests := true, laidLooks := .later }
def ManifestNamesCardSaid : Prop := Claim7.holds Tryd.pinned (.plain (OpenSpec.ofChange manifestNamesSpec)) manifestNamesCard

/-- THE TIED CARD OF 'tapestrylaw10.ManifestOrphans'. -/
def manifestOrphansCard : Claim7 := { stood := { row := manifestOrphansRow, standIns := [], harness := (true, "f9f6bc26a532d1ba594c3feb5bccaf3fb5eaa622e9a9199e35723fe8897aec70"), looks := true }, kinds := [], alts := [], laidByText := true, laidKinds := [.data, .data, .data, .sentinel, .sentinel], laidTests := true, laidLooks := .later }
def ManifestOrphansCardSaid : Prop := Claim7.holds Tryd.pinned (.plain (OpenSpec.ofChange manifestOrphansSpec)) manifestOrphansCard

/-- THE TIED CARD OF 'tapestrylaw21.FilterNil'. -/
def filterNilCard : Claim7 := { stood := { row := filterNilRow, standIns := [], harness := (true, "f9f6bc26a532d1ba594c3feb5bccaf3fb5eaa622e9a9199e35723fe8897aec70"), looks := true }, kinds := [], alts := [], laidByText := true, laidKinds := [.data, .data, .data, .data, .sentinel, .sentinel, .listed, .data, .pinned], laidTests := true, laidLooks := .later }
def FilterNilCardSaid : Prop := Claim7.holds Tryd.pinned (.plain (OpenSpec.ofChange filterNilSpec)) filterNilCard

/-- THE SECOND FORM's CARD OF 'tapestrylaw05.WalNames'. -/
def walNamesUptoCard : Claim7 := { stood := { row := walNamesUptoRow, standIns := [], harness := (true, "f9f6bc26a532d1ba594c3feb5bccaf3fb5eaa622e9a9199e35723fe8897aec70"), looks := true }, kinds := [], alts := [], laidByText := true, laidKinds := [.data, .data, .data, .sentinel, .sentinel], laidTests := true, laidLooks := .later }
def WalNamesUptoCardSaid : Prop := Claim7.holds Tryd.pinned (.plain (OpenSpec.upto walNamesSpec)) walNamesUptoCard

/-- THE SECOND FORM's CARD OF 'tapestrylaw10.ManifestNames'. -/
def manifestNamesUptoCard : Claim7 := { stood := { row := manifestNamesUptoRow, standIns := [], harness := (true, "f9f6bc26a532d1ba594c3feb5bccaf3fb5eaa622e9a9199e35723fe8897aec70"), looks := true }, kinds := [], alts := [], laidByText := true, laidKinds := [.data, .data, .data, .sentinel, .sentinel], laidTests := true, laidLooks := .later }
def ManifestNamesUptoCardSaid : Prop := Claim7.holds Tryd.pinned (.plain (OpenSpec.upto manifestNamesSpec)) manifestNamesUptoCard

/-- THE SECOND FORM's CARD OF 'tapestrylaw10.ManifestOrphans'. -/
def manifestOrphansUptoCard : Claim7 := { stood := { row := manifestOrphansUptoRow, standIns := [], harness := (true, "f9f6bc26a532d1ba594c3feb5bccaf3fb5eaa622e9a9199e35723fe8897aec70"), looks := true }, kinds := [], alts := [], laidByText := true, laidKinds := [.data, .data, .data, .sentinel, .sentinel], laidTests := true, laidLooks := .later }
def ManifestOrphansUptoCardSaid : Prop := Claim7.holds Tryd.pinned (.plain (OpenSpec.upto manifestOrphansSpec)) manifestOrphansUptoCard

/-- THE SECOND FORM's CARD OF 'tapestrylaw21.FilterNil'. -/
def filterNilUptoCard : Claim7 := { stood := { row := filterNilUptoRow, standIns := [], harness := (true, "f9f6bc26a532d1ba594c3feb5bccaf3fb5eaa622e9a9199e35723fe8897aec70"), looks := true }, kinds := [], alts := [], laidByText := true, laidKinds := [.data, .data, .data, .data, .sentinel, .sentinel, .listed, .data, .pinned], laidTests := true, laidLooks := .later }
def FilterNilUptoCardSaid : Prop := Claim7.holds Tryd.pinned (.plain (OpenSpec.upto filterNilSpec)) filterNilUptoCard
end Rows
end Go.Proofs.YtkbffgnhiohpcaaDoor
