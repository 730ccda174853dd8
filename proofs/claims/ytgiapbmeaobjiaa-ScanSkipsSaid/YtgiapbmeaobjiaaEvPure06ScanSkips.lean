/- ScanSkips's sentence: what the evaluator answers is true. -/
import Derived.Test.YtgiapbmeaobjiaaEvPu06ScanSkips
import Derived.Test.YtgiapbmeaobjiaaEvf06I1
set_option linter.unusedVariables false
set_option linter.unusedSimpArgs false
namespace Go.Proofs.YtgiapbmeaobjiaaR.scanSkips
open Go Go.Proofs.YtgiapbmeaobjiaaEv Go.Proofs Go.Proofs.YtgiapbmeaobjiaaR
theorem pure : Pure := fun a0 _ a1 _ => by
  have h := (s8 rfl a0.toList a1).ok [sB a0.toList, .int .i64 a1] rfl rfl
  rw [← strB] at h
  exact h
end Go.Proofs.YtgiapbmeaobjiaaR.scanSkips
