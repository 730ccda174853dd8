/- EvPu08FlowWhole: a part of the proof. -/
import Derived.Test.YtcphpiboamlanaaEvIr08
set_option linter.unusedSimpArgs false
set_option linter.unusedVariables false
namespace Go.Proofs.YtcphpiboamlanaaR.flowWhole
open Go Go.Proofs.YtcphpiboamlanaaEv Go.Proofs Go.Proofs.YtcphpiboamlanaaR
/-- What comes in; the sentence. -/
theorem opens0 : OpensE Try.prog 24 (1) (fun a : List (ByteArray) => [.sl (a).length false (flat (fun x => [.str x]) a)]) (fun a => ((a).length ≤ maxLen ∧ ∀ x ∈ (a), (x).size ≤ maxLen)) := OpensE.slice Try.underlying24 (by kernel_rfl) (by decide) (OpensE.string Try.underlying9)
theorem opens1 : OpensE Try.prog 22 (1) (fun a : List (Int) => [.sl (a).length false (flat (fun x => [.int .i64 x]) a)]) (fun a => ((a).length ≤ maxLen ∧ ∀ x ∈ (a), (Lit.int .i64 x).wf = true)) := OpensE.slice Try.underlying22 (by kernel_rfl) (by decide) (OpensE.int Try.underlying3)
def Pure : Prop := ∀ a0 : List (ByteArray), ((a0).length ≤ maxLen ∧ ∀ x ∈ (a0), (x).size ≤ maxLen) → ∀ a1 : List (Int), ((a1).length ≤ maxLen ∧ ∀ x ∈ (a1), (Lit.int .i64 x).wf = true) → ev env 7 [.sl (a0).length false (flat (fun x => [.str x]) a0), .sl (a1).length false (flat (fun x => [.int .i64 x]) a1)] [] = some (.bool true, [])
end Go.Proofs.YtcphpiboamlanaaR.flowWhole
