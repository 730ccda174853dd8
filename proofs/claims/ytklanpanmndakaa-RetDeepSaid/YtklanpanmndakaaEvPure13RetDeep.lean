/- RetDeep's sentence: what the evaluator answers is true. -/
import Derived.Test.YtklanpanmndakaaEvPu13RetDeep
import Derived.Test.YtklanpanmndakaaEvs13K
set_option linter.unusedVariables false
set_option linter.unusedSimpArgs false
namespace Go.Proofs.YtklanpanmndakaaR.retDeep
open Go Go.Proofs.YtklanpanmndakaaEv Go.Proofs Go.Proofs.YtklanpanmndakaaR
theorem pure : Pure := fun a0 h a1 h1 => by
  obtain ⟨d, r, ⟨th, pl⟩, hh⟩ := a0
  have h2 := h1.1
  have h3 : maxLen ≤ 9223372036854775807 := by decide
  exact s3 rfl ⟨d, r, th, pl, hh⟩ a1 (by omega)
end Go.Proofs.YtklanpanmndakaaR.retDeep
