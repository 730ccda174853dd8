/- ScanIs's sentence: what the evaluator answers is true. -/
import Derived.Test.YtgiapbmeaobjiaaEvPu06ScanIs
import Derived.Test.YtgiapbmeaobjiaaEvf06I1
set_option linter.unusedVariables false
set_option linter.unusedSimpArgs false
namespace Go.Proofs.YtgiapbmeaobjiaaR.scanIs
open Go Go.Proofs.YtgiapbmeaobjiaaEv Go.Proofs Go.Proofs.YtgiapbmeaobjiaaR
theorem pure : Pure := fun a0 _ a1 _ => by
  have h := (s6 rfl a0.1.toList a0.2 a1).ok [.agg [sB a0.1.toList, .int .i64 a0.2], .int .i64 a1] rfl rfl
  rw [← strB] at h
  exact h
end Go.Proofs.YtgiapbmeaobjiaaR.scanIs
