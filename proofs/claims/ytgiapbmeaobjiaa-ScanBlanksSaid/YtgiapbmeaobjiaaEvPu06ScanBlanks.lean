/- EvPu06ScanBlanks: a part of the proof. -/
import Derived.Test.YtgiapbmeaobjiaaEvIr06
set_option linter.unusedSimpArgs false
set_option linter.unusedVariables false
namespace Go.Proofs.YtgiapbmeaobjiaaR.scanBlanks
open Go Go.Proofs.YtgiapbmeaobjiaaEv Go.Proofs Go.Proofs.YtgiapbmeaobjiaaR
/-- What comes in; the sentence. -/
theorem opens1 : OpensE Try.prog 27 (1) (fun a : List (UInt8) => [.sl (a).length false (flat (fun x => encU8 x) a)]) (fun a => ((a).length ≤ maxLen ∧ ∀ x ∈ (a), True)) := OpensE.slice Try.underlying27 (by kernel_rfl) (by decide) (OpensE.byte Try.underlying5)
def Pure : Prop := ∀ a0 : ByteArray, (a0).size ≤ maxLen → ∀ a1 : List (UInt8), ((a1).length ≤ maxLen ∧ ∀ x ∈ (a1), True) → ∀ a2 : ByteArray, (a2).size ≤ maxLen → ev env 5 [.str a0, .sl (a1).length false (flat (fun x => encU8 x) a1), .str a2] [] = some (.bool true, [])
end Go.Proofs.YtgiapbmeaobjiaaR.scanBlanks
