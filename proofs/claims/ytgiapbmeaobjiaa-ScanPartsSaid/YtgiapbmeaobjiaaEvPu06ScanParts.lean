/- EvPu06ScanParts: a part of the proof. -/
import Derived.Test.YtgiapbmeaobjiaaEvIr06
set_option linter.unusedSimpArgs false
set_option linter.unusedVariables false
namespace Go.Proofs.YtgiapbmeaobjiaaR.scanParts
open Go Go.Proofs.YtgiapbmeaobjiaaEv Go.Proofs Go.Proofs.YtgiapbmeaobjiaaR
/-- What comes in; the sentence. -/
def Pure : Prop := ∀ a0 : ByteArray, (a0).size ≤ maxLen → ∀ a1 : Int, (Lit.int .i64 a1).wf = true → ∀ a2 : UInt8, True → ev env 7 [.str a0, .int .i64 a1, .int .u8 a2.toNat] [] = some (.bool true, [])
end Go.Proofs.YtgiapbmeaobjiaaR.scanParts
