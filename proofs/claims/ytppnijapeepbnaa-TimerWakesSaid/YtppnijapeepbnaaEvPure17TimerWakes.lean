/- TimerWakes's sentence: what the evaluator answers is true. -/
import Derived.Test.YtppnijapeepbnaaEvPu17TimerWakes
import Derived.Test.YtppnijapeepbnaaEvf17F8
set_option linter.unusedVariables false
set_option linter.unusedSimpArgs false
namespace Go.Proofs.YtppnijapeepbnaaR.timerWakes
open Go Go.Proofs.YtppnijapeepbnaaEv Go.Proofs Go.Proofs.YtppnijapeepbnaaR
theorem pure : Pure := fun a0 _ a1 _ => (s3 rfl a0 a1).ok [slI a0, .int .i64 a1] rfl rfl
end Go.Proofs.YtppnijapeepbnaaR.timerWakes
