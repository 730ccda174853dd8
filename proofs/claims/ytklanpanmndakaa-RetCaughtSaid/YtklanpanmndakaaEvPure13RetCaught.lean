/- RetCaught's sentence: what the evaluator answers is true. -/
import Derived.Test.YtklanpanmndakaaEvPu13RetCaught
import Derived.Test.YtklanpanmndakaaEvs13Q
set_option linter.unusedVariables false
set_option linter.unusedSimpArgs false
namespace Go.Proofs.YtklanpanmndakaaR.retCaught
open Go Go.Proofs.YtklanpanmndakaaEv Go.Proofs Go.Proofs.YtklanpanmndakaaR
theorem pure : Pure := fun a0 _ a1 h1 a2 _ a3 _ => by
  obtain ⟨d, r, ⟨th, pl⟩, hh⟩ := a0
  exact s8 rfl ⟨d, r, th, pl, hh⟩ a1 a2 a3 (wf_i64 h1)
end Go.Proofs.YtklanpanmndakaaR.retCaught
