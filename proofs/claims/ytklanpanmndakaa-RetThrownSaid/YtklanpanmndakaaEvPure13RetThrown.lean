/- RetThrown's sentence: what the evaluator answers is true. -/
import Derived.Test.YtklanpanmndakaaEvPu13RetThrown
import Derived.Test.YtklanpanmndakaaEvs13M
set_option linter.unusedVariables false
set_option linter.unusedSimpArgs false
namespace Go.Proofs.YtklanpanmndakaaR.retThrown
open Go Go.Proofs.YtklanpanmndakaaEv Go.Proofs Go.Proofs.YtklanpanmndakaaR
theorem pure : Pure := fun a0 h a1 _ => by
  obtain ⟨d, r, ⟨th, pl⟩, hh⟩ := a0
  exact s5 rfl ⟨d, r, th, pl, hh⟩ a1 (fun x hx => wf_i64 (h.2.1.2 x hx))
end Go.Proofs.YtklanpanmndakaaR.retThrown
