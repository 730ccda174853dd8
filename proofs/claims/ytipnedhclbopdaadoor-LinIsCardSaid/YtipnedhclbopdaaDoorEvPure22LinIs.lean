/- LinIs's sentence: what the evaluator answers is true. -/
import Derived.Test.YtipnedhclbopdaaDoorEvPu22LinIs
import Derived.Test.YtipnedhclbopdaaDoorEvf22I3
import Derived.Test.YtipnedhclbopdaaDoorEvf22H1
set_option linter.unusedVariables false
set_option linter.unusedSimpArgs false
namespace Go.Proofs.YtipnedhclbopdaaDoorR.linIs
open Go Go.Proofs.YtipnedhclbopdaaDoorEv Go.Proofs Go.Proofs.YtipnedhclbopdaaDoorR
theorem pure : Pure := fun a0 h0 a1 _ a2 _ a3 _ a4 _ => (s3 rfl a0 a1 a2 a3 a4 (fun x hx => inI_wf (h0.2 x hx).2.2.1)).ok [slT a0, .int .i64 a1, slI a2, slB a3, .int .i64 a4] rfl rfl
end Go.Proofs.YtipnedhclbopdaaDoorR.linIs
