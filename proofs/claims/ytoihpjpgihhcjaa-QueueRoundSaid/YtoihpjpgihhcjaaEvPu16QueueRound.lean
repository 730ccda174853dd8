/- EvPu16QueueRound: a part of the proof. -/
import Derived.Test.YtoihpjpgihhcjaaEvIr16
set_option linter.unusedSimpArgs false
set_option linter.unusedVariables false
namespace Go.Proofs.YtoihpjpgihhcjaaR.queueRound
open Go Go.Proofs.YtoihpjpgihhcjaaEv Go.Proofs Go.Proofs.YtoihpjpgihhcjaaR
/-- What comes in; the sentence. -/
def Pure : Prop := ∀ a0 : Int, (Lit.int .i64 a0).wf = true → ∀ a1 : Int, (Lit.int .i64 a1).wf = true → ∀ a2 : Int, (Lit.int .i64 a2).wf = true → ev env 4 [.int .i64 a0, .int .i64 a1, .int .i64 a2] [] = some (.bool true, [])
end Go.Proofs.YtoihpjpgihhcjaaR.queueRound
