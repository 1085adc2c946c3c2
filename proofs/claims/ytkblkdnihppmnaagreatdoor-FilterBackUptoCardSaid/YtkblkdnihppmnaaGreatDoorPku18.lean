/- Parts of this work, one behind the other: Rfk. -/
import Derived.Test.YtkblkdnihppmnaaGreatDoorPku17
/- Filters (layer 21): a token, cell by cell. -/
namespace Go.Proofs.YtkblkdnihppmnaaGreatDoor
set_option linter.unusedSimpArgs false
set_option linter.unusedVariables false
open Go.RowKit Res Filt
theorem tk_eq {k a b b' : Int} {t t' : List UInt8} (hb : b = b') (ht : t = t') : Ending.returned (.agg [fi k, fi a, fi b, str t].toArray) = Ending.returned (.agg #[fi k, fi a, fi b', str t']) := by subst hb ht; rfl
end Go.Proofs.YtkblkdnihppmnaaGreatDoor
