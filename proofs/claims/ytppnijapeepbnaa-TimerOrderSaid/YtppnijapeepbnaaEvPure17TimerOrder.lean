/- TimerOrder's sentence: what the evaluator answers is true. -/
import Derived.Test.YtppnijapeepbnaaEvPu17TimerOrder
import Derived.Test.YtppnijapeepbnaaEvf17F6
set_option linter.unusedVariables false
set_option linter.unusedSimpArgs false
namespace Go.Proofs.YtppnijapeepbnaaR.timerOrder
open Go Go.Proofs.YtppnijapeepbnaaEv Go.Proofs Go.Proofs.YtppnijapeepbnaaR
theorem pure : Pure := fun a0 _ a1 _ a2 _ => (s6 rfl a0 a1 a2).ok [slN a0, .int .i64 a1, .int .i64 a2] rfl rfl
end Go.Proofs.YtppnijapeepbnaaR.timerOrder
