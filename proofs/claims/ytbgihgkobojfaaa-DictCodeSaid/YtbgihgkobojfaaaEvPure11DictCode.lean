/- DictCode's sentence: what the evaluator answers is true. -/
import Derived.Test.YtbgihgkobojfaaaEvPu11DictCode
import Derived.Test.YtbgihgkobojfaaaEvf11J1
set_option linter.unusedVariables false
set_option linter.unusedSimpArgs false
namespace Go.Proofs.YtbgihgkobojfaaaR.dictCode
open Go Go.Proofs.YtbgihgkobojfaaaEv Go.Proofs Go.Proofs.YtbgihgkobojfaaaR
theorem pure : Pure := fun a0 h0 a1 _ a2 _ => (s8 rfl a0 a1 a2 h0.1).ok [slE a0, .agg (encE a1), .int .i64 a2] rfl rfl
end Go.Proofs.YtbgihgkobojfaaaR.dictCode
