/- RetIs's sentence: what the evaluator answers is true. -/
import Derived.Test.YtklanpanmndakaaEvPu13RetIs
import Derived.Test.YtklanpanmndakaaEvr13J
set_option linter.unusedVariables false
set_option linter.unusedSimpArgs false
namespace Go.Proofs.YtklanpanmndakaaR.retIs
open Go Go.Proofs.YtklanpanmndakaaEv Go.Proofs Go.Proofs.YtklanpanmndakaaR
theorem pure : Pure := fun a0 h0 a1 h1 a2 _ => by
  obtain ⟨d, r, ⟨th, pl⟩, hh⟩ := a0
  refine (s9 rfl ⟨d, r, th, pl, hh⟩ a1 a2 (wf_i64 h1) ?_).ok _ rfl rfl
  intro x hx
  unfold saneT at hx
  split at hx
  · exact (wf_i64 (h0.2.1.2 x hx)).2
  · simp only [new0, List.mem_singleton] at hx
    subst hx
    decide
end Go.Proofs.YtklanpanmndakaaR.retIs
