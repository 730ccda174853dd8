/- RetRounds's sentence: what the evaluator answers is true. -/
import Derived.Test.YtklanpanmndakaaEvPu13RetRounds
import Derived.Test.YtklanpanmndakaaEvr13K
set_option linter.unusedVariables false
set_option linter.unusedSimpArgs false
namespace Go.Proofs.YtklanpanmndakaaR.retRounds
open Go Go.Proofs.YtklanpanmndakaaEv Go.Proofs Go.Proofs.YtklanpanmndakaaR
theorem pure : Pure := fun a0 h0 a1 _ a2 _ => (s6 rfl a0 a1 a2 (wf_i64 h0)).ok _ rfl rfl
end Go.Proofs.YtklanpanmndakaaR.retRounds
