/- DictIs's sentence: what the evaluator answers is true. -/
import Derived.Test.YtbgihgkobojfaaaEvPu11DictIs
import Derived.Test.YtbgihgkobojfaaaEvf11I1
set_option linter.unusedVariables false
set_option linter.unusedSimpArgs false
namespace Go.Proofs.YtbgihgkobojfaaaR.dictIs
open Go Go.Proofs.YtbgihgkobojfaaaEv Go.Proofs Go.Proofs.YtbgihgkobojfaaaR
theorem pure : Pure := fun a0 h0 a1 _ a2 _ a3 _ a4 _ => (s6 rfl a0 a1 a2 a3 a4.1 a4.2 h0.1).ok [slE a0, .agg (encE a1), .str a2, .int .i64 a3, .agg [.int .i64 a4.1, .int .i64 a4.2]] rfl rfl
end Go.Proofs.YtbgihgkobojfaaaR.dictIs
