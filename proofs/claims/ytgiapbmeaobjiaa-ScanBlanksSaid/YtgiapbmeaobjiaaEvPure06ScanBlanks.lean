/- ScanBlanks's sentence: what the evaluator answers is true. -/
import Derived.Test.YtgiapbmeaobjiaaEvPu06ScanBlanks
import Derived.Test.YtgiapbmeaobjiaaEvf06M1
set_option linter.unusedVariables false
set_option linter.unusedSimpArgs false
namespace Go.Proofs.YtgiapbmeaobjiaaR.scanBlanks
open Go Go.Proofs.YtgiapbmeaobjiaaEv Go.Proofs Go.Proofs.YtgiapbmeaobjiaaR
theorem pure : Pure := fun a0 _ a1 _ a2 _ => by
  have h := (s5 rfl a0.toList a1 a2.toList).ok [sB a0.toList, .sl a1.length false (flat encU8 a1), sB a2.toList] rfl rfl
  rw [← strB, ← strB] at h
  exact h
end Go.Proofs.YtgiapbmeaobjiaaR.scanBlanks
