/- ScriptIs's sentence: what the evaluator answers is true. -/
import Derived.Test.YthmfjkakpefkeaaEvPu23ScriptIs
import Derived.Test.YthmfjkakpefkeaaEvs23P
import Derived.Test.YthmfjkakpefkeaaEvPure23ScriptBack
set_option linter.unusedVariables false
set_option linter.unusedSimpArgs false
namespace Go.Proofs.YthmfjkakpefkeaaR.scriptIs
open Go Go.Proofs.YthmfjkakpefkeaaEv Go.Proofs Go.Proofs.YthmfjkakpefkeaaR
theorem pure : Pure := fun a0 h a1 _ => by
  obtain ⟨x, o, k, n, c⟩ := a0
  have h2 := h.2.2.1.1
  have h3 : maxLen ≤ 9223372036854775807 := by decide
  exact s3 rfl ⟨x, o, k, n, c⟩ a1 false (scriptBack.wf64 h.2.2.2.1) (by simp only at h2 ⊢; omega)
end Go.Proofs.YthmfjkakpefkeaaR.scriptIs
