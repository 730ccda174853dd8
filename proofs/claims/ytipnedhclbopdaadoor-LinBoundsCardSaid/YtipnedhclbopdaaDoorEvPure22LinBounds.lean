/- LinBounds's sentence: what the evaluator answers is true. -/
import Derived.Test.YtipnedhclbopdaaDoorEvPu22LinBounds
import Derived.Test.YtipnedhclbopdaaDoorEvf22F1
set_option linter.unusedVariables false
set_option linter.unusedSimpArgs false
namespace Go.Proofs.YtipnedhclbopdaaDoorR.linBounds
open Go Go.Proofs.YtipnedhclbopdaaDoorEv Go.Proofs Go.Proofs.YtipnedhclbopdaaDoorR
theorem pure : Pure := fun a0 _ a1 _ a2 _ => (s8 rfl a0 a1 a2).ok [slI a0, .agg (encT a1), .int .i64 a2] rfl rfl
end Go.Proofs.YtipnedhclbopdaaDoorR.linBounds
