/- QueuePlays's sentence: what the evaluator answers is true. -/
import Derived.Test.YtoihpjpgihhcjaaEvPu16QueuePlays
import Derived.Test.YtoihpjpgihhcjaaEvf16F4
set_option linter.unusedVariables false
set_option linter.unusedSimpArgs false
namespace Go.Proofs.YtoihpjpgihhcjaaR.queuePlays
open Go Go.Proofs.YtoihpjpgihhcjaaEv Go.Proofs Go.Proofs.YtoihpjpgihhcjaaR
theorem pure : Pure := fun a0 h0 => (s7 rfl a0 (Nat.le_trans h0.1 (by decide))).ok [slI a0] rfl rfl
end Go.Proofs.YtoihpjpgihhcjaaR.queuePlays
