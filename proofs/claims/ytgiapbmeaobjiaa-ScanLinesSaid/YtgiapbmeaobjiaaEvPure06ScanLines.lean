/- ScanLines's sentence: what the evaluator answers is true. -/
import Derived.Test.YtgiapbmeaobjiaaEvPu06ScanLines
import Derived.Test.YtgiapbmeaobjiaaEvf06J1
set_option linter.unusedVariables false
set_option linter.unusedSimpArgs false
namespace Go.Proofs.YtgiapbmeaobjiaaR.scanLines
open Go Go.Proofs.YtgiapbmeaobjiaaEv Go.Proofs Go.Proofs.YtgiapbmeaobjiaaR
theorem pure : Pure := fun a0 _ => by
  have h := (s4 rfl a0.toList).ok [sB a0.toList] rfl rfl
  rw [← strB] at h
  exact h
end Go.Proofs.YtgiapbmeaobjiaaR.scanLines
