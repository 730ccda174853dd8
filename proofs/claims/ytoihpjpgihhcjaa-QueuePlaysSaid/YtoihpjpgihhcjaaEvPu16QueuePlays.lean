/- EvPu16QueuePlays: a part of the proof. -/
import Derived.Test.YtoihpjpgihhcjaaEvIr16
set_option linter.unusedSimpArgs false
set_option linter.unusedVariables false
namespace Go.Proofs.YtoihpjpgihhcjaaR.queuePlays
open Go Go.Proofs.YtoihpjpgihhcjaaEv Go.Proofs Go.Proofs.YtoihpjpgihhcjaaR
/-- What comes in; the sentence. -/
theorem opens0 : OpensE Try.prog 39 (1) (fun a : List (Int) => [.sl (a).length false (flat (fun x => [.int .i64 x]) a)]) (fun a => ((a).length ≤ maxLen ∧ ∀ x ∈ (a), (Lit.int .i64 x).wf = true)) := OpensE.slice Try.underlying39 (by kernel_rfl) (by decide) (OpensE.int Try.underlying3)
def Pure : Prop := ∀ a0 : List (Int), ((a0).length ≤ maxLen ∧ ∀ x ∈ (a0), (Lit.int .i64 x).wf = true) → ev env 7 [.sl (a0).length false (flat (fun x => [.int .i64 x]) a0)] [] = some (.bool true, [])
end Go.Proofs.YtoihpjpgihhcjaaR.queuePlays
