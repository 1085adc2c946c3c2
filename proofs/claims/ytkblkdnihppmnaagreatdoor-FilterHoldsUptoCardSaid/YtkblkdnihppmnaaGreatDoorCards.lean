/-
  DERIVED. GIVEN WITH THE SEED: THE CARDS: each row of YtkblkdnihppmnaaGreatDoorRows.lean that lists a variable, with what it lists TIED to the program's text (the seventh form; the later family's looks); each row that meets fmt, with fmt's text TOLD by the authors' own Lean function (tested against real Go, not proved from fmt's source: count such statements apart). THE CARD IS WHAT COUNTS. Prove the row's statement (the work); the ties are given (YtkblkdnihppmnaaGreatDoorTie.lean); close each card by the builder's one call (the guide's Derived/Test/ToyasCard.lean, 'card_holds'). Laid BY PROGRAM, IN A SANDBOX (cutbox-door.mjs). By AI agents, Wed Nov 11 2026. No macro, syntax, notation, axiom, sorry.
-/
import Derived.Test.YtkblkdnihppmnaaGreatDoorRows
import GoSem.ClaimSeven
namespace Go.Proofs.YtkblkdnihppmnaaGreatDoor
namespace Rows

/-- THE TIED CARD OF 'tapestrylaw21.FilterReads'. -/
def filterReadsCard : Claim7 := { stood := { row := filterReadsRow, standIns := [], harness := (true, "d68f102d0672f29c132fa677d498affea81bfa610b9302c77091111f139c674b"), looks := true }, kinds := [], alts := [], laidByText := true, laidKinds := [.data, .data, .data, .data, .sentinel, .sentinel, .listed, .data, .pinned], laidTests := true, laidLooks := .later }
def FilterReadsCardSaid : Prop := Claim7.holds Tryz.pinned (.plain (OpenSpec.ofChange filterReadsSpec)) filterReadsCard

/-- THE TIED CARD OF 'tapestrylaw21.FilterLogic'. -/
def filterLogicCard : Claim7 := { stood := { row := filterLogicRow, standIns := [], harness := (true, "d68f102d0672f29c132fa677d498affea81bfa610b9302c77091111f139c674b"), looks := true }, kinds := [], alts := [], laidByText := true, laidKinds := [.data, .data, .data, .data, .sentinel, .sentinel, .listed, .data, .pinned], laidTests := true, laidLooks := .later }
def FilterLogicCardSaid : Prop := Claim7.holds Tryz.pinned (.plain (OpenSpec.ofChange filterLogicSpec)) filterLogicCard

/-- THE TIED CARD OF 'tapestrylaw21.FilterHolds'. -/
def filterHoldsCard : Claim7 := { stood := { row := filterHoldsRow, standIns := [], harness := (true, "d68f102d0672f29c132fa677d498affea81bfa610b9302c77091111f139c674b"), looks := true }, kinds := [], alts := [], laidByText := true, laidKinds := [.data, .data, .data, .data, .sentinel, .sentinel, .listed, .data, .pinned], laidTests := true, laidLooks := .later }
def FilterHoldsCardSaid : Prop := Claim7.holds Tryz.pinned (.plain (OpenSpec.ofChange filterHoldsSpec)) filterHoldsCard

/-- THE TIED CARD OF 'tapestrylaw21.FilterBack'. -/
def filterBackCard : Claim7 := { stood := { row := filterBackRow, standIns := [], harness := (true, "d68f102d0672f29c132fa677d498affea81bfa610b9302c77091111f139c674b"), looks := true }, kinds := [], alts := [], laidByText := true, laidKinds := [.data, .data, .data, .data, .sentinel, .sentinel, .listed, .data, .pinned], laidTests := true, laidLooks := .later }
def FilterBackCardSaid : Prop := Claim7.holds Tryz.pinned (.plain (OpenSpec.ofChange filterBackSpec)) filterBackCard

/-- THE SECOND FORM's CARD OF 'tapestrylaw21.FilterReads'. -/
def filterReadsUptoCard : Claim7 := { stood := { row := filterReadsUptoRow, standIns := [], harness := (true, "d68f102d0672f29c132fa677d498affea81bfa610b9302c77091111f139c674b"), looks := true }, kinds := [], alts := [], laidByText := true, laidKinds := [.data, .data, .data, .data, .sentinel, .sentinel, .listed, .data, .pinned], laidTests := true, laidLooks := .later }
def FilterReadsUptoCardSaid : Prop := Claim7.holds Tryz.pinned (.plain (OpenSpec.upto filterReadsSpec)) filterReadsUptoCard

/-- THE SECOND FORM's CARD OF 'tapestrylaw21.FilterLogic'. -/
def filterLogicUptoCard : Claim7 := { stood := { row := filterLogicUptoRow, standIns := [], harness := (true, "d68f102d0672f29c132fa677d498affea81bfa610b9302c77091111f139c674b"), looks := true }, kinds := [], alts := [], laidByText := true, laidKinds := [.data, .data, .data, .data, .sentinel, .sentinel, .listed, .data, .pinned], laidTests := true, laidLooks := .later }
def FilterLogicUptoCardSaid : Prop := Claim7.holds Tryz.pinned (.plain (OpenSpec.upto filterLogicSpec)) filterLogicUptoCard

/-- THE SECOND FORM's CARD OF 'tapestrylaw21.FilterHolds'. -/
def filterHoldsUptoCard : Claim7 := { stood := { row := filterHoldsUptoRow, standIns := [], harness := (true, "d68f102d0672f29c132fa677d498affea81bfa610b9302c77091111f139c674b"), looks := true }, kinds := [], alts := [], laidByText := true, laidKinds := [.data, .data, .data, .data, .sentinel, .sentinel, .listed, .data, .pinned], laidTests := true, laidLooks := .later }
def FilterHoldsUptoCardSaid : Prop := Claim7.holds Tryz.pinned (.plain (OpenSpec.upto filterHoldsSpec)) filterHoldsUptoCard

/-- THE SECOND FORM's CARD OF 'tapestrylaw21.FilterBack'. -/
def filterBackUptoCard : Claim7 := { stood := { row := filterBackUptoRow, standIns := [], harness := (true, "d68f102d0672f29c132fa677d498affea81bfa610b9302c77091111f139c674b"), looks := true }, kinds := [], alts := [], laidByText := true, laidKinds := [.data, .data, .data, .data, .sentinel, .sentinel, .listed, .data, .pinned], laidTests := true, laidLooks := .later }
def FilterBackUptoCardSaid : Prop := Claim7.holds Tryz.pinned (.plain (OpenSpec.upto filterBackSpec)) filterBackUptoCard
end Rows
end Go.Proofs.YtkblkdnihppmnaaGreatDoor
