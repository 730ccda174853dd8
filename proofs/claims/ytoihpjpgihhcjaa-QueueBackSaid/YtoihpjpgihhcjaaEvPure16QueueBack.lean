/- QueueBack's sentence: what the evaluator answers is true. -/
import Derived.Test.YtoihpjpgihhcjaaEvPu16QueueBack
import Derived.Test.YtoihpjpgihhcjaaEvf16F2
set_option linter.unusedVariables false
set_option linter.unusedSimpArgs false
namespace Go.Proofs.YtoihpjpgihhcjaaR.queueBack
open Go Go.Proofs.YtoihpjpgihhcjaaEv Go.Proofs Go.Proofs.YtoihpjpgihhcjaaR
theorem pure : Pure := fun a0 _ a1 _ a2 _ a3 _ => (s5 rfl a0 a1 a2 a3).ok [encQ a0, .int .i64 a1, .int .i64 a2, .int .i64 a3] rfl rfl
end Go.Proofs.YtoihpjpgihhcjaaR.queueBack
