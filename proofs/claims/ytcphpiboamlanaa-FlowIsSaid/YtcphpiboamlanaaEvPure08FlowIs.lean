/- FlowIs's sentence: what the evaluator answers is true. -/
import Derived.Test.YtcphpiboamlanaaEvPu08FlowIs
import Derived.Test.YtcphpiboamlanaaEvf08X
set_option linter.unusedVariables false
set_option linter.unusedSimpArgs false
namespace Go.Proofs.YtcphpiboamlanaaR.flowIs
open Go Go.Proofs.YtcphpiboamlanaaEv Go.Proofs Go.Proofs.YtcphpiboamlanaaR
theorem pure : Pure := fun a0 _ a1 _ a2 _ => (s6 rfl ⟨a0.1, a0.2.1, a0.2.2⟩ a1 a2).ok _ rfl rfl
end Go.Proofs.YtcphpiboamlanaaR.flowIs
