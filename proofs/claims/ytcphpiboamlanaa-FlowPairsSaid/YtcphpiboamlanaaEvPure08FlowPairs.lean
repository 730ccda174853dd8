/- FlowPairs's sentence: what the evaluator answers is true. -/
import Derived.Test.YtcphpiboamlanaaEvPu08FlowPairs
import Derived.Test.YtcphpiboamlanaaEvf08YC
set_option linter.unusedVariables false
set_option linter.unusedSimpArgs false
namespace Go.Proofs.YtcphpiboamlanaaR.flowPairs
open Go Go.Proofs.YtcphpiboamlanaaEv Go.Proofs Go.Proofs.YtcphpiboamlanaaR
theorem pure : Pure := fun a0 _ => (s3 rfl a0).ok _ rfl rfl
end Go.Proofs.YtcphpiboamlanaaR.flowPairs
