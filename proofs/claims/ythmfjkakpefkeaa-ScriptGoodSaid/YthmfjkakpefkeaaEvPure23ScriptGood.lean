/- ScriptGood's sentence: what the evaluator answers is true. -/
import Derived.Test.YthmfjkakpefkeaaEvPu23ScriptGood
import Derived.Test.YthmfjkakpefkeaaEvs23H
set_option linter.unusedVariables false
set_option linter.unusedSimpArgs false
namespace Go.Proofs.YthmfjkakpefkeaaR.scriptGood
open Go Go.Proofs.YthmfjkakpefkeaaEv Go.Proofs Go.Proofs.YthmfjkakpefkeaaR
theorem pure : Pure := fun a0 _ a1 _ => s5 rfl a0 false a1
end Go.Proofs.YthmfjkakpefkeaaR.scriptGood
