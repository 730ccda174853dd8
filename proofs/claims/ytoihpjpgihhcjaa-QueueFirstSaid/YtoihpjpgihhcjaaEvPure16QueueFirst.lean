/- QueueFirst's sentence: what the evaluator answers is true. -/
import Derived.Test.YtoihpjpgihhcjaaEvPu16QueueFirst
import Derived.Test.YtoihpjpgihhcjaaEvf16F1
set_option linter.unusedVariables false
set_option linter.unusedSimpArgs false
namespace Go.Proofs.YtoihpjpgihhcjaaR.queueFirst
open Go Go.Proofs.YtoihpjpgihhcjaaEv Go.Proofs Go.Proofs.YtoihpjpgihhcjaaR
theorem pure : Pure := fun a0 _ => (s3 rfl a0).ok [encQ a0] rfl rfl
end Go.Proofs.YtoihpjpgihhcjaaR.queueFirst
