/- EvPu23ScriptGood: a part of the proof. -/
import Derived.Test.YthmfjkakpefkeaaEvIr23
set_option linter.unusedSimpArgs false
set_option linter.unusedVariables false
namespace Go.Proofs.YthmfjkakpefkeaaR.scriptGood
open Go Go.Proofs.YthmfjkakpefkeaaEv Go.Proofs Go.Proofs.YthmfjkakpefkeaaR
/-- What comes in; the sentence. -/
theorem opens0 : OpensE Try.prog 27 1 (fun a : List (UInt8) => [.sl (a).length false (flat (fun x => encU8 x) a)]) (fun a => ((a).length ≤ maxLen ∧ ∀ x ∈ (a), True)) := OpensE.slice Try.underlying27 (by kernel_rfl) (by decide) (OpensE.byte Try.underlying5)
def Pure : Prop := ∀ a0 : List (UInt8), ((a0).length ≤ maxLen ∧ ∀ x ∈ (a0), True) → ∀ a1 : UInt8, True → ev env 5 [.sl (a0).length false (flat (fun x => encU8 x) a0), .int .u8 a1.toNat] [] = some (.bool true, [])
end Go.Proofs.YthmfjkakpefkeaaR.scriptGood
