/- EvPu17TimerParts: a part of the proof. -/
import Derived.Test.YtppnijapeepbnaaEvIr17
set_option linter.unusedSimpArgs false
set_option linter.unusedVariables false
namespace Go.Proofs.YtppnijapeepbnaaR.timerParts
open Go Go.Proofs.YtppnijapeepbnaaEv Go.Proofs Go.Proofs.YtppnijapeepbnaaR
/-- What comes in; the sentence. -/
theorem opens0 : OpensE Try.prog 31 (1) (fun a : List ((Int) × (Int)) => [.sl (a).length false (flat (fun x => ([.int .i64 x.1]) ++ (([.int .i64 x.2]))) a)]) (fun a => ((a).length ≤ maxLen ∧ ∀ x ∈ (a), (((Lit.int .i64 x.1).wf = true) ∧ ((Lit.int .i64 x.2).wf = true)))) := OpensE.slice Try.underlying31 (by kernel_rfl) (by decide) (OpensE.struct Try.underlying61 (by kernel_rfl) (OpensFE.cons (OpensE.int Try.underlying3) rfl (by kernel_rfl) (OpensFE.one (OpensE.int Try.underlying3) rfl (by kernel_rfl))))
def Pure : Prop := ∀ a0 : List ((Int) × (Int)), ((a0).length ≤ maxLen ∧ ∀ x ∈ (a0), (((Lit.int .i64 x.1).wf = true) ∧ ((Lit.int .i64 x.2).wf = true))) → ∀ a1 : Int, (Lit.int .i64 a1).wf = true → ∀ a2 : Int, (Lit.int .i64 a2).wf = true → ev env 4 [.sl (a0).length false (flat (fun x => ([.int .i64 x.1]) ++ (([.int .i64 x.2]))) a0), .int .i64 a1, .int .i64 a2] [] = some (.bool true, [])
end Go.Proofs.YtppnijapeepbnaaR.timerParts
