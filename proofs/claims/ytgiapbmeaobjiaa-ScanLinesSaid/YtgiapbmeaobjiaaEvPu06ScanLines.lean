/- EvPu06ScanLines: a part of the proof. -/
import Derived.Test.YtgiapbmeaobjiaaEvIr06
set_option linter.unusedSimpArgs false
set_option linter.unusedVariables false
namespace Go.Proofs.YtgiapbmeaobjiaaR.scanLines
open Go Go.Proofs.YtgiapbmeaobjiaaEv Go.Proofs Go.Proofs.YtgiapbmeaobjiaaR
/-- What comes in; the sentence. -/
def Pure : Prop := ∀ a0 : ByteArray, (a0).size ≤ maxLen → ev env 4 [.str a0] [] = some (.bool true, [])
end Go.Proofs.YtgiapbmeaobjiaaR.scanLines
