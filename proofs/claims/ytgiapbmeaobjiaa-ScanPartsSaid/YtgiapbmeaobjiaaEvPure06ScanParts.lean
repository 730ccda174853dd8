/- ScanParts's sentence: what the evaluator answers is true. -/
import Derived.Test.YtgiapbmeaobjiaaEvPu06ScanParts
import Derived.Test.YtgiapbmeaobjiaaEvf06L1
set_option linter.unusedVariables false
set_option linter.unusedSimpArgs false
namespace Go.Proofs.YtgiapbmeaobjiaaR.scanParts
open Go Go.Proofs.YtgiapbmeaobjiaaEv Go.Proofs Go.Proofs.YtgiapbmeaobjiaaR
theorem pure : Pure := fun a0 _ a1 _ a2 _ => by
  have h := (s7 rfl a0.toList a1 a2).ok [sB a0.toList, .int .i64 a1, .int .u8 (a2.toNat : Nat)] rfl rfl
  rw [← strB] at h
  exact h
end Go.Proofs.YtgiapbmeaobjiaaR.scanParts
