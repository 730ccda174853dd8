/- EvPu08FlowRows: a part of the proof. -/
import Derived.Test.YtcphpiboamlanaaEvIr08
set_option linter.unusedSimpArgs false
set_option linter.unusedVariables false
namespace Go.Proofs.YtcphpiboamlanaaR.flowRows
open Go Go.Proofs.YtcphpiboamlanaaEv Go.Proofs Go.Proofs.YtcphpiboamlanaaR
/-- What comes in; the sentence. -/
theorem opens0 : OpensE Try.prog 25 (1) (fun a : List ((Int) × (Int)) => [.sl (a).length false (flat (fun x => ([.int .i64 x.1]) ++ (([.int .i64 x.2]))) a)]) (fun a => ((a).length ≤ maxLen ∧ ∀ x ∈ (a), (((Lit.int .i64 x.1).wf = true) ∧ ((Lit.int .i64 x.2).wf = true)))) := OpensE.slice Try.underlying25 (by kernel_rfl) (by decide) (OpensE.struct Try.underlying49 (by kernel_rfl) (OpensFE.cons (OpensE.int Try.underlying3) rfl (by kernel_rfl) (OpensFE.one (OpensE.int Try.underlying3) rfl (by kernel_rfl))))
theorem opens1 : OpensE Try.prog 25 (1) (fun a : List ((Int) × (Int)) => [.sl (a).length false (flat (fun x => ([.int .i64 x.1]) ++ (([.int .i64 x.2]))) a)]) (fun a => ((a).length ≤ maxLen ∧ ∀ x ∈ (a), (((Lit.int .i64 x.1).wf = true) ∧ ((Lit.int .i64 x.2).wf = true)))) := OpensE.slice Try.underlying25 (by kernel_rfl) (by decide) (OpensE.struct Try.underlying49 (by kernel_rfl) (OpensFE.cons (OpensE.int Try.underlying3) rfl (by kernel_rfl) (OpensFE.one (OpensE.int Try.underlying3) rfl (by kernel_rfl))))
def Pure : Prop := ∀ a0 : List ((Int) × (Int)), ((a0).length ≤ maxLen ∧ ∀ x ∈ (a0), (((Lit.int .i64 x.1).wf = true) ∧ ((Lit.int .i64 x.2).wf = true))) → ∀ a1 : List ((Int) × (Int)), ((a1).length ≤ maxLen ∧ ∀ x ∈ (a1), (((Lit.int .i64 x.1).wf = true) ∧ ((Lit.int .i64 x.2).wf = true))) → ev env 8 [.sl (a0).length false (flat (fun x => ([.int .i64 x.1]) ++ (([.int .i64 x.2]))) a0), .sl (a1).length false (flat (fun x => ([.int .i64 x.1]) ++ (([.int .i64 x.2]))) a1)] [] = some (.bool true, [])
end Go.Proofs.YtcphpiboamlanaaR.flowRows
