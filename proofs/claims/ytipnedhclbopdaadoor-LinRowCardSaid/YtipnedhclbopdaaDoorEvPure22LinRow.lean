/- LinRow's sentence: what the evaluator answers is true. -/
import Derived.Test.YtipnedhclbopdaaDoorEvPu22LinRow
import Derived.Test.YtipnedhclbopdaaDoorEvf22J1
import Derived.Test.YtipnedhclbopdaaDoorEvf22J2
set_option linter.unusedVariables false
set_option linter.unusedSimpArgs false
namespace Go.Proofs.YtipnedhclbopdaaDoorR.linRow
open Go Go.Proofs.YtipnedhclbopdaaDoorEv Go.Proofs Go.Proofs.YtipnedhclbopdaaDoorR
theorem pure : Pure := fun a0 _ a1 _ a2 _ a3 _ => by
  cases a2 with
  | true => exact (s4t rfl a0 a1 a3).ok [slI a0, .int .i64 a1, .bool true, .int .i64 a3] rfl rfl
  | false => exact (s4f rfl a0 a1 a3).ok [slI a0, .int .i64 a1, .bool false, .int .i64 a3] rfl rfl
end Go.Proofs.YtipnedhclbopdaaDoorR.linRow
