/- LinWider's sentence: what the evaluator answers is true. -/
import Derived.Test.YtipnedhclbopdaaDoorEvPu22LinWider
import Derived.Test.YtipnedhclbopdaaDoorEvf22H2
set_option linter.unusedVariables false
set_option linter.unusedSimpArgs false
namespace Go.Proofs.YtipnedhclbopdaaDoorR.linWider
open Go Go.Proofs.YtipnedhclbopdaaDoorEv Go.Proofs Go.Proofs.YtipnedhclbopdaaDoorR
theorem pure : Pure := fun a0 h0 a1 _ a2 _ a3 _ => (s6 rfl a0 a1 a2 a3 (fun x hx => inI_wf (h0.2 x hx).2.2.1) (fun a d ha h8 h1 => lin_wide ha h8 h1)).ok [slT a0, .int .i64 a1, .int .i64 a2, .int .i64 a3] rfl rfl
end Go.Proofs.YtipnedhclbopdaaDoorR.linWider
