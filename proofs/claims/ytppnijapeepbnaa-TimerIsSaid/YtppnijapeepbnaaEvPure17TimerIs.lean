/- TimerIs's sentence: what the evaluator answers is true. -/
import Derived.Test.YtppnijapeepbnaaEvPu17TimerIs
import Derived.Test.YtppnijapeepbnaaEvf17F5
set_option linter.unusedVariables false
set_option linter.unusedSimpArgs false
namespace Go.Proofs.YtppnijapeepbnaaR.timerIs
open Go Go.Proofs.YtppnijapeepbnaaEv Go.Proofs Go.Proofs.YtppnijapeepbnaaR
theorem pure : Pure := fun a0 _ a1 _ a2 _ => (s5 rfl a0 a1 a2).ok [slN a0, .int .i64 a1, .int .i64 a2] rfl rfl
end Go.Proofs.YtppnijapeepbnaaR.timerIs
