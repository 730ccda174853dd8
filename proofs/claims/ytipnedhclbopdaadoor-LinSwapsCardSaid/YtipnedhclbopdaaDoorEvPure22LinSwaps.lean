/- LinSwaps's sentence: what the evaluator answers is true. -/
import Derived.Test.YtipnedhclbopdaaDoorEvPu22LinSwaps
import Derived.Test.YtipnedhclbopdaaDoorEvf22H1
set_option linter.unusedVariables false
set_option linter.unusedSimpArgs false
namespace Go.Proofs.YtipnedhclbopdaaDoorR.linSwaps
open Go Go.Proofs.YtipnedhclbopdaaDoorEv Go.Proofs Go.Proofs.YtipnedhclbopdaaDoorR
theorem pure : Pure := fun a0 h0 a1 _ a2 _ a3 _ => (s7 rfl a0 a1 a2 a3 (fun x hx => inI_wf (h0.2 x hx).2.2.1) (fun a b ha hb h8 => lin_swap ha hb h8)).ok [slT a0, .int .i64 a1, .int .i64 a2, .int .i64 a3] rfl rfl
end Go.Proofs.YtipnedhclbopdaaDoorR.linSwaps
