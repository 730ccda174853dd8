/- QueueIs's sentence: what the evaluator answers is true. -/
import Derived.Test.YtoihpjpgihhcjaaEvPu16QueueIs
import Derived.Test.YtoihpjpgihhcjaaEvf16G3
set_option linter.unusedVariables false
set_option linter.unusedSimpArgs false
namespace Go.Proofs.YtoihpjpgihhcjaaR.queueIs
open Go Go.Proofs.YtoihpjpgihhcjaaEv Go.Proofs Go.Proofs.YtoihpjpgihhcjaaR
theorem pure : Pure := fun a0 _ a1 _ a2 _ => (s6 rfl a0 a1 a2).ok [encQ a0, .int .i64 a1, .int .i64 a2] rfl rfl
end Go.Proofs.YtoihpjpgihhcjaaR.queueIs
