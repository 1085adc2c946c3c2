/-
  No cell of these rows narrows 'for every input' (looked for: loops, veiled, ifaces, maps, wideKeys, modest, calm, conditions, laid).
  DERIVED. THE GIVEN ROWS OF THIS SEAT. 9 by the template 'for every input the law returns true; each argument reads behind the call as it read before'; 0 by the template 'total and deterministic' (their statements: YteplpgknnlehnaaTotals.lean).
  GIVEN WITH THE SEED: the statements are not yours to turn. If you find one false, say at which input.
  Laid BY PROGRAM, IN A SANDBOX (cutbox-rows.mjs): the forced cells as the released guide's own fill.sh prints them over the translation 56adcf1be3f64d62… (all of the seat's roots in one cut). By AI agents, Wed Nov 11 2026. No macro, syntax, notation, axiom, sorry.
-/
import Derived.Test.YteplpgknnlehnaaChecked
import GoSem.Claim
import GoSem.ClaimJoined
import GoSem.ClaimMapViews
import Derived.JoinedTies
import Derived.KernelRfl
namespace Go.Proofs.Yteplpgknnlehnaa
/- THE CELL 'sum', in the pinned program and in every row, IS THE sha256 OF THE DUMP (.gsa) THAT YteplpgknnlehnaaProg.lean LOADS. Nothing in Lean hashes anything: it is a label: what it is worth is what the hold of that sum in a sandbox is worth. -/
noncomputable def Try.pinned : Pinned := { name := "yteplpgknnlehnaa", sum := "56adcf1be3f64d62814365b9ed3c90e84675d24cb830bb9a423dc94e5cb09f77", checked := Try.checked }
namespace Rows
def none {H : Type} : Left H := { results := [], args := [] }

/-- 'tapestrylaw05.WalEncodes': WHATEVER THE INPUT: true; the input reads as it did. -/
def walEncodesSpec : ChangeSpec := { name := "walEncodes", fn := fun _ => fun
  | [d] => { results := [.lit (.bool true)], args := [d] }
  | _ => none }
def walEncodesRow : OpenClaim := { program := "yteplpgknnlehnaa", sum := "56adcf1be3f64d62814365b9ed3c90e84675d24cb830bb9a423dc94e5cb09f77", func := "tapestry/tapestrylaw05.WalEncodes", spec := "walEncodes", inPlace := ["internal/abi.NoEscape"], apart := false }
def WalEncodesSaid : Prop := walEncodesRow.holds Try.pinned (OpenSpec.ofChange walEncodesSpec)

/-- ITS FALSE NEIGHBOUR: 'it returns false'. Refute it at one input. -/
def walEncodesWrong : ChangeSpec := { name := "walEncodes", fn := fun _ => fun
  | [d] => { results := [.lit (.bool false)], args := [d] }
  | _ => none }
def WalEncodesWrongFalsely : Prop := walEncodesRow.holds Try.pinned (OpenSpec.ofChange walEncodesWrong)

/-- 'tapestrylaw10.ManifestEncodes': WHATEVER THE INPUT: true; the input reads as it did. -/
def manifestEncodesSpec : ChangeSpec := { name := "manifestEncodes", fn := fun _ => fun
  | [d] => { results := [.lit (.bool true)], args := [d] }
  | _ => none }
def manifestEncodesRow : OpenClaim := { program := "yteplpgknnlehnaa", sum := "56adcf1be3f64d62814365b9ed3c90e84675d24cb830bb9a423dc94e5cb09f77", func := "tapestry/tapestrylaw10.ManifestEncodes", spec := "manifestEncodes", inPlace := ["internal/abi.NoEscape"], unfollowed := true, recurses := true, apart := false }
def ManifestEncodesSaid : Prop := manifestEncodesRow.holds Try.pinned (OpenSpec.ofChange manifestEncodesSpec)

/-- ITS FALSE NEIGHBOUR: 'it returns false'. Refute it at one input. -/
def manifestEncodesWrong : ChangeSpec := { name := "manifestEncodes", fn := fun _ => fun
  | [d] => { results := [.lit (.bool false)], args := [d] }
  | _ => none }
def ManifestEncodesWrongFalsely : Prop := manifestEncodesRow.holds Try.pinned (OpenSpec.ofChange manifestEncodesWrong)

/-- 'tapestrylaw10.ManifestDecodes': WHATEVER THE INPUT: true; the input reads as it did. -/
def manifestDecodesSpec : ChangeSpec := { name := "manifestDecodes", fn := fun _ => fun
  | [d] => { results := [.lit (.bool true)], args := [d] }
  | _ => none }
def manifestDecodesRow : OpenClaim := { program := "yteplpgknnlehnaa", sum := "56adcf1be3f64d62814365b9ed3c90e84675d24cb830bb9a423dc94e5cb09f77", func := "tapestry/tapestrylaw10.ManifestDecodes", spec := "manifestDecodes", unfollowed := true, recurses := true, apart := false }
def ManifestDecodesSaid : Prop := manifestDecodesRow.holds Try.pinned (OpenSpec.ofChange manifestDecodesSpec)

/-- ITS FALSE NEIGHBOUR: 'it returns false'. Refute it at one input. -/
def manifestDecodesWrong : ChangeSpec := { name := "manifestDecodes", fn := fun _ => fun
  | [d] => { results := [.lit (.bool false)], args := [d] }
  | _ => none }
def ManifestDecodesWrongFalsely : Prop := manifestDecodesRow.holds Try.pinned (OpenSpec.ofChange manifestDecodesWrong)

/-- 'tapestrylaw05.WalDecodes': WHATEVER THE INPUT: true; the input reads as it did. -/
def walDecodesSpec : ChangeSpec := { name := "walDecodes", fn := fun _ => fun
  | [d] => { results := [.lit (.bool true)], args := [d] }
  | _ => none }
def walDecodesRow : OpenClaim := { program := "yteplpgknnlehnaa", sum := "56adcf1be3f64d62814365b9ed3c90e84675d24cb830bb9a423dc94e5cb09f77", func := "tapestry/tapestrylaw05.WalDecodes", spec := "walDecodes", inPlace := ["internal/abi.NoEscape"], apart := false }
def WalDecodesSaid : Prop := walDecodesRow.holds Try.pinned (OpenSpec.ofChange walDecodesSpec)

/-- ITS FALSE NEIGHBOUR: 'it returns false'. Refute it at one input. -/
def walDecodesWrong : ChangeSpec := { name := "walDecodes", fn := fun _ => fun
  | [d] => { results := [.lit (.bool false)], args := [d] }
  | _ => none }
def WalDecodesWrongFalsely : Prop := walDecodesRow.holds Try.pinned (OpenSpec.ofChange walDecodesWrong)

/-- 'tapestrylaw10.ManifestApplies': WHATEVER THE INPUT: true; the input reads as it did. -/
def manifestAppliesSpec : ChangeSpec := { name := "manifestApplies", fn := fun _ => fun
  | [d] => { results := [.lit (.bool true)], args := [d] }
  | _ => none }
def manifestAppliesRow : OpenClaim := { program := "yteplpgknnlehnaa", sum := "56adcf1be3f64d62814365b9ed3c90e84675d24cb830bb9a423dc94e5cb09f77", func := "tapestry/tapestrylaw10.ManifestApplies", spec := "manifestApplies", inPlace := ["slices.overlaps[tapestry/api.Table]"], unfollowed := true, recurses := true, apart := false }
def ManifestAppliesSaid : Prop := manifestAppliesRow.holds Try.pinned (OpenSpec.ofChange manifestAppliesSpec)

/-- ITS FALSE NEIGHBOUR: 'it returns false'. Refute it at one input. -/
def manifestAppliesWrong : ChangeSpec := { name := "manifestApplies", fn := fun _ => fun
  | [d] => { results := [.lit (.bool false)], args := [d] }
  | _ => none }
def ManifestAppliesWrongFalsely : Prop := manifestAppliesRow.holds Try.pinned (OpenSpec.ofChange manifestAppliesWrong)

/-- 'tapestrylaw05.WalReplays': WHATEVER THE INPUT: true; the input reads as it did. -/
def walReplaysSpec : ChangeSpec := { name := "walReplays", fn := fun _ => fun
  | [d] => { results := [.lit (.bool true)], args := [d] }
  | _ => none }
def walReplaysRow : OpenClaim := { program := "yteplpgknnlehnaa", sum := "56adcf1be3f64d62814365b9ed3c90e84675d24cb830bb9a423dc94e5cb09f77", func := "tapestry/tapestrylaw05.WalReplays", spec := "walReplays", inPlace := ["internal/abi.NoEscape"], unfollowed := true, recurses := true, apart := false }
def WalReplaysSaid : Prop := walReplaysRow.holds Try.pinned (OpenSpec.ofChange walReplaysSpec)

/-- ITS FALSE NEIGHBOUR: 'it returns false'. Refute it at one input. -/
def walReplaysWrong : ChangeSpec := { name := "walReplays", fn := fun _ => fun
  | [d] => { results := [.lit (.bool false)], args := [d] }
  | _ => none }
def WalReplaysWrongFalsely : Prop := walReplaysRow.holds Try.pinned (OpenSpec.ofChange walReplaysWrong)

/-- 'tapestrylaw05.WalCuts': WHATEVER THE INPUT: true; the input reads as it did. -/
def walCutsSpec : ChangeSpec := { name := "walCuts", fn := fun _ => fun
  | [d1, d2, d3] => { results := [.lit (.bool true)], args := [d1, d2, d3] }
  | _ => none }
def walCutsRow : OpenClaim := { program := "yteplpgknnlehnaa", sum := "56adcf1be3f64d62814365b9ed3c90e84675d24cb830bb9a423dc94e5cb09f77", func := "tapestry/tapestrylaw05.WalCuts", spec := "walCuts", inPlace := ["internal/abi.NoEscape"], unfollowed := true, recurses := true, apart := false }
def WalCutsSaid : Prop := walCutsRow.holds Try.pinned (OpenSpec.ofChange walCutsSpec)

/-- ITS FALSE NEIGHBOUR: 'it returns false'. Refute it at one input. -/
def walCutsWrong : ChangeSpec := { name := "walCuts", fn := fun _ => fun
  | [d1, d2, d3] => { results := [.lit (.bool false)], args := [d1, d2, d3] }
  | _ => none }
def WalCutsWrongFalsely : Prop := walCutsRow.holds Try.pinned (OpenSpec.ofChange walCutsWrong)

/-- 'tapestrylaw10.ManifestReplays': WHATEVER THE INPUT: true; the input reads as it did. -/
def manifestReplaysSpec : ChangeSpec := { name := "manifestReplays", fn := fun _ => fun
  | [d] => { results := [.lit (.bool true)], args := [d] }
  | _ => none }
def manifestReplaysRow : OpenClaim := { program := "yteplpgknnlehnaa", sum := "56adcf1be3f64d62814365b9ed3c90e84675d24cb830bb9a423dc94e5cb09f77", func := "tapestry/tapestrylaw10.ManifestReplays", spec := "manifestReplays", inPlace := ["slices.overlaps[tapestry/api.Table]"], unfollowed := true, recurses := true, apart := false }
def ManifestReplaysSaid : Prop := manifestReplaysRow.holds Try.pinned (OpenSpec.ofChange manifestReplaysSpec)

/-- ITS FALSE NEIGHBOUR: 'it returns false'. Refute it at one input. -/
def manifestReplaysWrong : ChangeSpec := { name := "manifestReplays", fn := fun _ => fun
  | [d] => { results := [.lit (.bool false)], args := [d] }
  | _ => none }
def ManifestReplaysWrongFalsely : Prop := manifestReplaysRow.holds Try.pinned (OpenSpec.ofChange manifestReplaysWrong)

/-- 'tapestrylaw10.ManifestBack': WHATEVER THE INPUT: true; the input reads as it did. -/
def manifestBackSpec : ChangeSpec := { name := "manifestBack", fn := fun _ => fun
  | [d1, d2] => { results := [.lit (.bool true)], args := [d1, d2] }
  | _ => none }
def manifestBackRow : OpenClaim := { program := "yteplpgknnlehnaa", sum := "56adcf1be3f64d62814365b9ed3c90e84675d24cb830bb9a423dc94e5cb09f77", func := "tapestry/tapestrylaw10.ManifestBack", spec := "manifestBack", inPlace := ["internal/abi.NoEscape", "slices.overlaps[tapestry/api.Table]"], unfollowed := true, recurses := true, apart := false }
def ManifestBackSaid : Prop := manifestBackRow.holds Try.pinned (OpenSpec.ofChange manifestBackSpec)

/-- ITS FALSE NEIGHBOUR: 'it returns false'. Refute it at one input. -/
def manifestBackWrong : ChangeSpec := { name := "manifestBack", fn := fun _ => fun
  | [d1, d2] => { results := [.lit (.bool false)], args := [d1, d2] }
  | _ => none }
def ManifestBackWrongFalsely : Prop := manifestBackRow.holds Try.pinned (OpenSpec.ofChange manifestBackWrong)

/- THE SECOND FORM. 'bulk': how many values and letters a reading holds, each counted each time it is reached (what is shared counts as often as it is met; a slice's spare places count too). A statement '..UptoSaid' is the law's where the arguments, and the package variables that the reading takes, are together of bulk at most 1048576: NARROWER than '..Said'. Prove '..Said' where nothing that the law and all that it calls make is longer than what came in: it says more and counts as full. Else prove '..UptoSaid'. A law counts once. -/
mutual
def uptoBulk {H : Type} : DataW H → Nat
  | .lit (.string bytes) => bytes.length + 1
  | .lit _ => 1
  | .nil => 1
  | .ptr d => uptoBulk d + 1
  | .slice elems spare => uptoBulkAll elems + uptoBulkAll spare + 1
  | .agg parts => uptoBulkAll parts + 1
  | .iface _ d => uptoBulk d + 1
  | .map entries => uptoBulkEntries entries + 1
  | .held _ => 1
def uptoBulkAll {H : Type} : List (DataW H) → Nat
  | [] => 0
  | d :: r => uptoBulk d + uptoBulkAll r
def uptoBulkEntries {H : Type} : List (Lit × DataW H) → Nat
  | [] => 0
  | x :: r => uptoBulkEntry x + uptoBulkEntries r
def uptoBulkEntry {H : Type} : Lit × DataW H → Nat
  | (.string bytes, d) => bytes.length + uptoBulk d + 1
  | (_, d) => uptoBulk d + 1
 end
def uptoSmall : (H : Type) → List (DataW H) → Bool := fun _ ds => decide (uptoBulkAll ds ≤ 1048576)
def OpenSpec.upto (s : _root_.Go.ChangeSpec) : _root_.Go.OpenSpec := { _root_.Go.OpenSpec.ofChange s with cond := some uptoSmall }

/-- 'tapestrylaw05.WalEncodes', WHERE WHAT IT READS IS OF BULK AT MOST 1048576: true; the input reads as it did. -/
def walEncodesUptoRow : OpenClaim := { program := "yteplpgknnlehnaa", sum := "56adcf1be3f64d62814365b9ed3c90e84675d24cb830bb9a423dc94e5cb09f77", func := "tapestry/tapestrylaw05.WalEncodes", spec := "walEncodes", inPlace := ["internal/abi.NoEscape"], apart := false, narrowed := true }
def WalEncodesUptoSaid : Prop := walEncodesUptoRow.holds Try.pinned (OpenSpec.upto walEncodesSpec)

/-- 'tapestrylaw10.ManifestEncodes', WHERE WHAT IT READS IS OF BULK AT MOST 1048576: true; the input reads as it did. -/
def manifestEncodesUptoRow : OpenClaim := { program := "yteplpgknnlehnaa", sum := "56adcf1be3f64d62814365b9ed3c90e84675d24cb830bb9a423dc94e5cb09f77", func := "tapestry/tapestrylaw10.ManifestEncodes", spec := "manifestEncodes", inPlace := ["internal/abi.NoEscape"], unfollowed := true, recurses := true, apart := false, narrowed := true }
def ManifestEncodesUptoSaid : Prop := manifestEncodesUptoRow.holds Try.pinned (OpenSpec.upto manifestEncodesSpec)

/-- 'tapestrylaw10.ManifestDecodes', WHERE WHAT IT READS IS OF BULK AT MOST 1048576: true; the input reads as it did. -/
def manifestDecodesUptoRow : OpenClaim := { program := "yteplpgknnlehnaa", sum := "56adcf1be3f64d62814365b9ed3c90e84675d24cb830bb9a423dc94e5cb09f77", func := "tapestry/tapestrylaw10.ManifestDecodes", spec := "manifestDecodes", unfollowed := true, recurses := true, apart := false, narrowed := true }
def ManifestDecodesUptoSaid : Prop := manifestDecodesUptoRow.holds Try.pinned (OpenSpec.upto manifestDecodesSpec)

/-- 'tapestrylaw05.WalDecodes', WHERE WHAT IT READS IS OF BULK AT MOST 1048576: true; the input reads as it did. -/
def walDecodesUptoRow : OpenClaim := { program := "yteplpgknnlehnaa", sum := "56adcf1be3f64d62814365b9ed3c90e84675d24cb830bb9a423dc94e5cb09f77", func := "tapestry/tapestrylaw05.WalDecodes", spec := "walDecodes", inPlace := ["internal/abi.NoEscape"], apart := false, narrowed := true }
def WalDecodesUptoSaid : Prop := walDecodesUptoRow.holds Try.pinned (OpenSpec.upto walDecodesSpec)

/-- 'tapestrylaw10.ManifestApplies', WHERE WHAT IT READS IS OF BULK AT MOST 1048576: true; the input reads as it did. -/
def manifestAppliesUptoRow : OpenClaim := { program := "yteplpgknnlehnaa", sum := "56adcf1be3f64d62814365b9ed3c90e84675d24cb830bb9a423dc94e5cb09f77", func := "tapestry/tapestrylaw10.ManifestApplies", spec := "manifestApplies", inPlace := ["slices.overlaps[tapestry/api.Table]"], unfollowed := true, recurses := true, apart := false, narrowed := true }
def ManifestAppliesUptoSaid : Prop := manifestAppliesUptoRow.holds Try.pinned (OpenSpec.upto manifestAppliesSpec)

/-- 'tapestrylaw05.WalReplays', WHERE WHAT IT READS IS OF BULK AT MOST 1048576: true; the input reads as it did. -/
def walReplaysUptoRow : OpenClaim := { program := "yteplpgknnlehnaa", sum := "56adcf1be3f64d62814365b9ed3c90e84675d24cb830bb9a423dc94e5cb09f77", func := "tapestry/tapestrylaw05.WalReplays", spec := "walReplays", inPlace := ["internal/abi.NoEscape"], unfollowed := true, recurses := true, apart := false, narrowed := true }
def WalReplaysUptoSaid : Prop := walReplaysUptoRow.holds Try.pinned (OpenSpec.upto walReplaysSpec)

/-- 'tapestrylaw05.WalCuts', WHERE WHAT IT READS IS OF BULK AT MOST 1048576: true; the input reads as it did. -/
def walCutsUptoRow : OpenClaim := { program := "yteplpgknnlehnaa", sum := "56adcf1be3f64d62814365b9ed3c90e84675d24cb830bb9a423dc94e5cb09f77", func := "tapestry/tapestrylaw05.WalCuts", spec := "walCuts", inPlace := ["internal/abi.NoEscape"], unfollowed := true, recurses := true, apart := false, narrowed := true }
def WalCutsUptoSaid : Prop := walCutsUptoRow.holds Try.pinned (OpenSpec.upto walCutsSpec)

/-- 'tapestrylaw10.ManifestReplays', WHERE WHAT IT READS IS OF BULK AT MOST 1048576: true; the input reads as it did. -/
def manifestReplaysUptoRow : OpenClaim := { program := "yteplpgknnlehnaa", sum := "56adcf1be3f64d62814365b9ed3c90e84675d24cb830bb9a423dc94e5cb09f77", func := "tapestry/tapestrylaw10.ManifestReplays", spec := "manifestReplays", inPlace := ["slices.overlaps[tapestry/api.Table]"], unfollowed := true, recurses := true, apart := false, narrowed := true }
def ManifestReplaysUptoSaid : Prop := manifestReplaysUptoRow.holds Try.pinned (OpenSpec.upto manifestReplaysSpec)

/-- 'tapestrylaw10.ManifestBack', WHERE WHAT IT READS IS OF BULK AT MOST 1048576: true; the input reads as it did. -/
def manifestBackUptoRow : OpenClaim := { program := "yteplpgknnlehnaa", sum := "56adcf1be3f64d62814365b9ed3c90e84675d24cb830bb9a423dc94e5cb09f77", func := "tapestry/tapestrylaw10.ManifestBack", spec := "manifestBack", inPlace := ["internal/abi.NoEscape", "slices.overlaps[tapestry/api.Table]"], unfollowed := true, recurses := true, apart := false, narrowed := true }
def ManifestBackUptoSaid : Prop := manifestBackUptoRow.holds Try.pinned (OpenSpec.upto manifestBackSpec)

end Rows
end Go.Proofs.Yteplpgknnlehnaa
