/- RetNests's sentence: what the evaluator answers is true. -/
import Derived.Test.YtklanpanmndakaaEvPu13RetNests
import Derived.Test.YtklanpanmndakaaEvs13O
set_option linter.unusedVariables false
set_option linter.unusedSimpArgs false
namespace Go.Proofs.YtklanpanmndakaaR.retNests
open Go Go.Proofs.YtklanpanmndakaaEv Go.Proofs Go.Proofs.YtklanpanmndakaaR
theorem pure : Pure := fun a0 _ a1 _ a2 _ a3 _ a4 _ => by
  obtain ⟨d, r, ⟨th, pl⟩, hh⟩ := a0
  exact s7 rfl ⟨d, r, th, pl, hh⟩ a1 a2 a3 a4
end Go.Proofs.YtklanpanmndakaaR.retNests
