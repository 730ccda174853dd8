/- TimerParts's sentence: what the evaluator answers is true. -/
import Derived.Test.YtppnijapeepbnaaEvPu17TimerParts
import Derived.Test.YtppnijapeepbnaaEvf17F7
set_option linter.unusedVariables false
set_option linter.unusedSimpArgs false
namespace Go.Proofs.YtppnijapeepbnaaR.timerParts
open Go Go.Proofs.YtppnijapeepbnaaEv Go.Proofs Go.Proofs.YtppnijapeepbnaaR
theorem pure : Pure := fun a0 _ a1 h1 a2 _ => (s4 rfl a0 a1 a2 h1).ok [slN a0, .int .i64 a1, .int .i64 a2] rfl rfl
end Go.Proofs.YtppnijapeepbnaaR.timerParts
