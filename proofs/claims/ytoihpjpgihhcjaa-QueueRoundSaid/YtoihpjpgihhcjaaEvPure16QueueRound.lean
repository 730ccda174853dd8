/- QueueRound's sentence: what the evaluator answers is true. -/
import Derived.Test.YtoihpjpgihhcjaaEvPu16QueueRound
import Derived.Test.YtoihpjpgihhcjaaEvf16F3
set_option linter.unusedVariables false
set_option linter.unusedSimpArgs false
namespace Go.Proofs.YtoihpjpgihhcjaaR.queueRound
open Go Go.Proofs.YtoihpjpgihhcjaaEv Go.Proofs Go.Proofs.YtoihpjpgihhcjaaR
theorem pure : Pure := fun a0 _ a1 _ a2 _ => (s4 rfl a0 a1 a2).ok [.int .i64 a0, .int .i64 a1, .int .i64 a2] rfl rfl
end Go.Proofs.YtoihpjpgihhcjaaR.queueRound
