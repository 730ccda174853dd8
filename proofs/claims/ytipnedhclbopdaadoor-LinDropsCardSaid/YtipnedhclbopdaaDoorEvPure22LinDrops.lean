/- LinDrops's sentence: what the evaluator answers is true. -/
import Derived.Test.YtipnedhclbopdaaDoorEvPu22LinDrops
import Derived.Test.YtipnedhclbopdaaDoorEvf22H3
set_option linter.unusedVariables false
set_option linter.unusedSimpArgs false
namespace Go.Proofs.YtipnedhclbopdaaDoorR.linDrops
open Go Go.Proofs.YtipnedhclbopdaaDoorEv Go.Proofs Go.Proofs.YtipnedhclbopdaaDoorR
theorem pure : Pure := fun a0 h0 a1 _ a2 h2 => (s5 rfl a0 a1 a2 (fun x hx => inI_wf (h0.2 x hx).2.2.1) (inI_wf h2.2.2.1) (fun h7 h1 => lin_add h7 h1) (fun h7 h0 h1 hb => lin_drop h7 h0 h1 hb)).ok [slT a0, .int .i64 a1, .agg (encT a2)] rfl rfl
end Go.Proofs.YtipnedhclbopdaaDoorR.linDrops
