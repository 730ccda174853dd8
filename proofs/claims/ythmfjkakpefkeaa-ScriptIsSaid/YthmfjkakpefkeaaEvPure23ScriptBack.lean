/- ScriptBack's sentence: what the evaluator answers is true. -/
import Derived.Test.YthmfjkakpefkeaaEvPu23ScriptBack
import Derived.Test.YthmfjkakpefkeaaEvs23P
set_option linter.unusedVariables false
set_option linter.unusedSimpArgs false
namespace Go.Proofs.YthmfjkakpefkeaaR.scriptBack
open Go Go.Proofs.YthmfjkakpefkeaaEv Go.Proofs Go.Proofs.YthmfjkakpefkeaaR
theorem wf64 {n : Int} (h : (Lit.int .i64 n).wf = true) : -9223372036854775808 ≤ n ∧ n ≤ 9223372036854775807 := by
  simp only [Lit.wf, Bool.and_eq_true, decide_eq_true_eq] at h
  have e1 : IntKind.i64.min = -9223372036854775808 := by decide
  have e2 : IntKind.i64.max = 9223372036854775807 := by decide
  omega
theorem pure : Pure := fun a0 h => by
  obtain ⟨x, o, k, n, c⟩ := a0
  have h2 := h.2.2.1.1
  have h3 : maxLen ≤ 9223372036854775807 := by decide
  exact s4 rfl ⟨x, o, k, n, c⟩ (wf64 h.2.2.2.1) (by simp only at h2 ⊢; omega)
end Go.Proofs.YthmfjkakpefkeaaR.scriptBack
