/- EvPu22LinRow: a part of the proof. -/
import Derived.Test.YtipnedhclbopdaaDoorEvIr22
set_option linter.unusedSimpArgs false
set_option linter.unusedVariables false
namespace Go.Proofs.YtipnedhclbopdaaDoorR.linRow
open Go Go.Proofs.YtipnedhclbopdaaDoorEv Go.Proofs Go.Proofs.YtipnedhclbopdaaDoorR
/-- What comes in; the sentence. -/
theorem opens0 : OpensE Tryd.prog 23 (1) (fun a : List (Int) => [.sl (a).length false (flat (fun x => [.int .i64 x]) a)]) (fun a => ((a).length ≤ maxLen ∧ ∀ x ∈ (a), (Lit.int .i64 x).wf = true)) := OpensE.slice Tryd.underlying23 (by kernel_rfl) (by decide) (OpensE.int Tryd.underlying3)
def Pure : Prop := ∀ a0 : List (Int), ((a0).length ≤ maxLen ∧ ∀ x ∈ (a0), (Lit.int .i64 x).wf = true) → ∀ a1 : Int, (Lit.int .i64 a1).wf = true → ∀ a2 : Bool, True → ∀ a3 : Int, (Lit.int .i64 a3).wf = true → ev env 4 [.sl (a0).length false (flat (fun x => [.int .i64 x]) a0), .int .i64 a1, .bool a2, .int .i64 a3] [] = some (.bool true, [])
end Go.Proofs.YtipnedhclbopdaaDoorR.linRow
