/- EvPu17TimerWakes: a part of the proof. -/
import Derived.Test.YtppnijapeepbnaaEvIr17
set_option linter.unusedSimpArgs false
set_option linter.unusedVariables false
namespace Go.Proofs.YtppnijapeepbnaaR.timerWakes
open Go Go.Proofs.YtppnijapeepbnaaEv Go.Proofs Go.Proofs.YtppnijapeepbnaaR
/-- What comes in; the sentence. -/
theorem opens0 : OpensE Try.prog 22 (1) (fun a : List (Int) => [.sl (a).length false (flat (fun x => [.int .i64 x]) a)]) (fun a => ((a).length ≤ maxLen ∧ ∀ x ∈ (a), (Lit.int .i64 x).wf = true)) := OpensE.slice Try.underlying22 (by kernel_rfl) (by decide) (OpensE.int Try.underlying3)
def Pure : Prop := ∀ a0 : List (Int), ((a0).length ≤ maxLen ∧ ∀ x ∈ (a0), (Lit.int .i64 x).wf = true) → ∀ a1 : Int, (Lit.int .i64 a1).wf = true → ev env 3 [.sl (a0).length false (flat (fun x => [.int .i64 x]) a0), .int .i64 a1] [] = some (.bool true, [])
end Go.Proofs.YtppnijapeepbnaaR.timerWakes
