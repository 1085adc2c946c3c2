/-
  No cell of these rows narrows 'for every input' (looked for: loops, veiled, ifaces, maps, wideKeys, modest, calm, conditions, laid).
  DERIVED. THE GIVEN ROWS OF THIS SEAT. 5 by the template 'for every input the law returns true; each argument reads behind the call as it read before'; 0 by the template 'total and deterministic' (their statements: YtjmdbgbkmjlmdaaTotals.lean).
  GIVEN WITH THE SEED: the statements are not yours to turn. If you find one false, say at which input.
  Laid BY PROGRAM, IN A SANDBOX (cutbox-rows.mjs): the forced cells as the released guide's own fill.sh prints them over the translation 71f6cde3e2a1543b… (all of the seat's roots in one cut). By AI agents, Wed Nov 11 2026. No macro, syntax, notation, axiom, sorry.
-/
import Derived.Test.YtjmdbgbkmjlmdaaChecked
import GoSem.Claim
import GoSem.ClaimJoined
import GoSem.ClaimMapViews
import Derived.JoinedTies
import Derived.KernelRfl
namespace Go.Proofs.Ytjmdbgbkmjlmdaa
/- THE CELL 'sum', in the pinned program and in every row, IS THE sha256 OF THE DUMP (.gsa) THAT YtjmdbgbkmjlmdaaProg.lean LOADS. Nothing in Lean hashes anything: it is a label: what it is worth is what the hold of that sum in a sandbox is worth. -/
noncomputable def Try.pinned : Pinned := { name := "ytjmdbgbkmjlmdaa", sum := "71f6cde3e2a1543ba2da34e504b597609a531e14fb246ffc506791847a7fb340", checked := Try.checked }
namespace Rows
def none {H : Type} : Left H := { results := [], args := [] }

/-- 'tapestrylaw20.ItemsQueue': WHATEVER THE INPUT: true; the input reads as it did. -/
def itemsQueueSpec : ChangeSpec := { name := "itemsQueue", fn := fun _ => fun
  | [d1, d2, d3] => { results := [.lit (.bool true)], args := [d1, d2, d3] }
  | _ => none }
def itemsQueueRow : OpenClaim := { program := "ytjmdbgbkmjlmdaa", sum := "71f6cde3e2a1543ba2da34e504b597609a531e14fb246ffc506791847a7fb340", func := "tapestry/tapestrylaw20.ItemsQueue", spec := "itemsQueue", unfollowed := true, recurses := true, apart := false }
def ItemsQueueSaid : Prop := itemsQueueRow.holds Try.pinned (OpenSpec.ofChange itemsQueueSpec)

/-- ITS FALSE NEIGHBOUR: 'it returns false'. Refute it at one input. -/
def itemsQueueWrong : ChangeSpec := { name := "itemsQueue", fn := fun _ => fun
  | [d1, d2, d3] => { results := [.lit (.bool false)], args := [d1, d2, d3] }
  | _ => none }
def ItemsQueueWrongFalsely : Prop := itemsQueueRow.holds Try.pinned (OpenSpec.ofChange itemsQueueWrong)

/-- 'tapestrylaw18.ActsFails': WHATEVER THE INPUT: true; the input reads as it did. -/
def actsFailsSpec : ChangeSpec := { name := "actsFails", fn := fun _ => fun
  | [d1, d2, d3] => { results := [.lit (.bool true)], args := [d1, d2, d3] }
  | _ => none }
def actsFailsRow : OpenClaim := { program := "ytjmdbgbkmjlmdaa", sum := "71f6cde3e2a1543ba2da34e504b597609a531e14fb246ffc506791847a7fb340", func := "tapestry/tapestrylaw18.ActsFails", spec := "actsFails", unfollowed := true, recurses := true, apart := false }
def ActsFailsSaid : Prop := actsFailsRow.holds Try.pinned (OpenSpec.ofChange actsFailsSpec)

/-- ITS FALSE NEIGHBOUR: 'it returns false'. Refute it at one input. -/
def actsFailsWrong : ChangeSpec := { name := "actsFails", fn := fun _ => fun
  | [d1, d2, d3] => { results := [.lit (.bool false)], args := [d1, d2, d3] }
  | _ => none }
def ActsFailsWrongFalsely : Prop := actsFailsRow.holds Try.pinned (OpenSpec.ofChange actsFailsWrong)

/-- 'tapestrylaw18.ActsDoes': WHATEVER THE INPUT: true; the input reads as it did. -/
def actsDoesSpec : ChangeSpec := { name := "actsDoes", fn := fun _ => fun
  | [d1, d2, d3] => { results := [.lit (.bool true)], args := [d1, d2, d3] }
  | _ => none }
def actsDoesRow : OpenClaim := { program := "ytjmdbgbkmjlmdaa", sum := "71f6cde3e2a1543ba2da34e504b597609a531e14fb246ffc506791847a7fb340", func := "tapestry/tapestrylaw18.ActsDoes", spec := "actsDoes", unfollowed := true, recurses := true, apart := false }
def ActsDoesSaid : Prop := actsDoesRow.holds Try.pinned (OpenSpec.ofChange actsDoesSpec)

/-- ITS FALSE NEIGHBOUR: 'it returns false'. Refute it at one input. -/
def actsDoesWrong : ChangeSpec := { name := "actsDoes", fn := fun _ => fun
  | [d1, d2, d3] => { results := [.lit (.bool false)], args := [d1, d2, d3] }
  | _ => none }
def ActsDoesWrongFalsely : Prop := actsDoesRow.holds Try.pinned (OpenSpec.ofChange actsDoesWrong)

/-- 'tapestrylaw18.ActsLives': WHATEVER THE INPUT: true; the input reads as it did. -/
def actsLivesSpec : ChangeSpec := { name := "actsLives", fn := fun _ => fun
  | [d1, d2] => { results := [.lit (.bool true)], args := [d1, d2] }
  | _ => none }
def actsLivesRow : OpenClaim := { program := "ytjmdbgbkmjlmdaa", sum := "71f6cde3e2a1543ba2da34e504b597609a531e14fb246ffc506791847a7fb340", func := "tapestry/tapestrylaw18.ActsLives", spec := "actsLives", unfollowed := true, recurses := true, apart := false }
def ActsLivesSaid : Prop := actsLivesRow.holds Try.pinned (OpenSpec.ofChange actsLivesSpec)

/-- ITS FALSE NEIGHBOUR: 'it returns false'. Refute it at one input. -/
def actsLivesWrong : ChangeSpec := { name := "actsLives", fn := fun _ => fun
  | [d1, d2] => { results := [.lit (.bool false)], args := [d1, d2] }
  | _ => none }
def ActsLivesWrongFalsely : Prop := actsLivesRow.holds Try.pinned (OpenSpec.ofChange actsLivesWrong)

/-- 'tapestrylaw20.ItemsFinds': WHATEVER THE INPUT: true; the input reads as it did. -/
def itemsFindsSpec : ChangeSpec := { name := "itemsFinds", fn := fun _ => fun
  | [d1, d2, d3] => { results := [.lit (.bool true)], args := [d1, d2, d3] }
  | _ => none }
def itemsFindsRow : OpenClaim := { program := "ytjmdbgbkmjlmdaa", sum := "71f6cde3e2a1543ba2da34e504b597609a531e14fb246ffc506791847a7fb340", func := "tapestry/tapestrylaw20.ItemsFinds", spec := "itemsFinds", unfollowed := true, recurses := true, apart := false }
def ItemsFindsSaid : Prop := itemsFindsRow.holds Try.pinned (OpenSpec.ofChange itemsFindsSpec)

/-- ITS FALSE NEIGHBOUR: 'it returns false'. Refute it at one input. -/
def itemsFindsWrong : ChangeSpec := { name := "itemsFinds", fn := fun _ => fun
  | [d1, d2, d3] => { results := [.lit (.bool false)], args := [d1, d2, d3] }
  | _ => none }
def ItemsFindsWrongFalsely : Prop := itemsFindsRow.holds Try.pinned (OpenSpec.ofChange itemsFindsWrong)

/- THE SECOND FORM. 'bulk': how many values and letters a reading holds, each counted each time it is reached (what is shared counts as often as it is met; a slice's spare places count too). A statement '..UptoSaid' is the law's where the arguments, and the package variables that the reading takes, are together of bulk at most 1048576: NARROWER than '..Said'. Prove '..Said' where nothing that the law and all that it calls make is longer than what came in: it says more and counts as full. Else prove '..UptoSaid'. A law counts once. -/
mutual
def uptoBulk {H : Type} : DataW H → Nat
  | .lit (.string bytes) => bytes.length + 1
  | .lit _ => 1
  | .nil => 1
  | .ptr d => uptoBulk d + 1
  | .slice elems spare => uptoBulkAll elems + uptoBulkAll spare + 1
  | .agg parts => uptoBulkAll parts + 1
  | .iface _ d => uptoBulk d + 1
  | .map entries => uptoBulkEntries entries + 1
  | .held _ => 1
def uptoBulkAll {H : Type} : List (DataW H) → Nat
  | [] => 0
  | d :: r => uptoBulk d + uptoBulkAll r
def uptoBulkEntries {H : Type} : List (Lit × DataW H) → Nat
  | [] => 0
  | x :: r => uptoBulkEntry x + uptoBulkEntries r
def uptoBulkEntry {H : Type} : Lit × DataW H → Nat
  | (.string bytes, d) => bytes.length + uptoBulk d + 1
  | (_, d) => uptoBulk d + 1
 end
def uptoSmall : (H : Type) → List (DataW H) → Bool := fun _ ds => decide (uptoBulkAll ds ≤ 1048576)
def OpenSpec.upto (s : _root_.Go.ChangeSpec) : _root_.Go.OpenSpec := { _root_.Go.OpenSpec.ofChange s with cond := some uptoSmall }

/-- 'tapestrylaw20.ItemsQueue', WHERE WHAT IT READS IS OF BULK AT MOST 1048576: true; the input reads as it did. -/
def itemsQueueUptoRow : OpenClaim := { program := "ytjmdbgbkmjlmdaa", sum := "71f6cde3e2a1543ba2da34e504b597609a531e14fb246ffc506791847a7fb340", func := "tapestry/tapestrylaw20.ItemsQueue", spec := "itemsQueue", unfollowed := true, recurses := true, apart := false, narrowed := true }
def ItemsQueueUptoSaid : Prop := itemsQueueUptoRow.holds Try.pinned (OpenSpec.upto itemsQueueSpec)

/-- 'tapestrylaw18.ActsFails', WHERE WHAT IT READS IS OF BULK AT MOST 1048576: true; the input reads as it did. -/
def actsFailsUptoRow : OpenClaim := { program := "ytjmdbgbkmjlmdaa", sum := "71f6cde3e2a1543ba2da34e504b597609a531e14fb246ffc506791847a7fb340", func := "tapestry/tapestrylaw18.ActsFails", spec := "actsFails", unfollowed := true, recurses := true, apart := false, narrowed := true }
def ActsFailsUptoSaid : Prop := actsFailsUptoRow.holds Try.pinned (OpenSpec.upto actsFailsSpec)

/-- 'tapestrylaw18.ActsDoes', WHERE WHAT IT READS IS OF BULK AT MOST 1048576: true; the input reads as it did. -/
def actsDoesUptoRow : OpenClaim := { program := "ytjmdbgbkmjlmdaa", sum := "71f6cde3e2a1543ba2da34e504b597609a531e14fb246ffc506791847a7fb340", func := "tapestry/tapestrylaw18.ActsDoes", spec := "actsDoes", unfollowed := true, recurses := true, apart := false, narrowed := true }
def ActsDoesUptoSaid : Prop := actsDoesUptoRow.holds Try.pinned (OpenSpec.upto actsDoesSpec)

/-- 'tapestrylaw18.ActsLives', WHERE WHAT IT READS IS OF BULK AT MOST 1048576: true; the input reads as it did. -/
def actsLivesUptoRow : OpenClaim := { program := "ytjmdbgbkmjlmdaa", sum := "71f6cde3e2a1543ba2da34e504b597609a531e14fb246ffc506791847a7fb340", func := "tapestry/tapestrylaw18.ActsLives", spec := "actsLives", unfollowed := true, recurses := true, apart := false, narrowed := true }
def ActsLivesUptoSaid : Prop := actsLivesUptoRow.holds Try.pinned (OpenSpec.upto actsLivesSpec)

/-- 'tapestrylaw20.ItemsFinds', WHERE WHAT IT READS IS OF BULK AT MOST 1048576: true; the input reads as it did. -/
def itemsFindsUptoRow : OpenClaim := { program := "ytjmdbgbkmjlmdaa", sum := "71f6cde3e2a1543ba2da34e504b597609a531e14fb246ffc506791847a7fb340", func := "tapestry/tapestrylaw20.ItemsFinds", spec := "itemsFinds", unfollowed := true, recurses := true, apart := false, narrowed := true }
def ItemsFindsUptoSaid : Prop := itemsFindsUptoRow.holds Try.pinned (OpenSpec.upto itemsFindsSpec)

end Rows
end Go.Proofs.Ytjmdbgbkmjlmdaa
