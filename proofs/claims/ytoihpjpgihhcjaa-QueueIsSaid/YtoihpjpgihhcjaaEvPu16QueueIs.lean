/- EvPu16QueueIs: a part of the proof. -/
import Derived.Test.YtoihpjpgihhcjaaEvIr16
set_option linter.unusedSimpArgs false
set_option linter.unusedVariables false
namespace Go.Proofs.YtoihpjpgihhcjaaR.queueIs
open Go Go.Proofs.YtoihpjpgihhcjaaEv Go.Proofs Go.Proofs.YtoihpjpgihhcjaaR
/-- What comes in; the sentence. -/
theorem opens0 : OpensE Try.prog 24 ((1) + ((1))) (fun a : (Int) × (List ((Int) × (Int) × (Int))) => ([.int .i64 a.1]) ++ (([.sl (a.2).length false (flat (fun x => ([.int .i64 x.1]) ++ (([.int .i64 x.2.1]) ++ (([.int .i64 x.2.2])))) a.2)]))) (fun a => (((Lit.int .i64 a.1).wf = true) ∧ (((a.2).length ≤ maxLen ∧ ∀ x ∈ (a.2), (((Lit.int .i64 x.1).wf = true) ∧ ((Lit.int .i64 x.2.1).wf = true) ∧ ((Lit.int .i64 x.2.2).wf = true)))))) := OpensE.struct Try.underlying24 (by kernel_rfl) (OpensFE.cons (OpensE.int Try.underlying3) rfl (by kernel_rfl) (OpensFE.one (OpensE.slice Try.underlying22 (by kernel_rfl) (by decide) (OpensE.struct Try.underlying34 (by kernel_rfl) (OpensFE.cons (OpensE.int Try.underlying3) rfl (by kernel_rfl) (OpensFE.cons (OpensE.int Try.underlying3) rfl (by kernel_rfl) (OpensFE.one (OpensE.int Try.underlying3) rfl (by kernel_rfl)))))) rfl (by kernel_rfl)))
def Pure : Prop := ∀ a0 : (Int) × (List ((Int) × (Int) × (Int))), (((Lit.int .i64 a0.1).wf = true) ∧ (((a0.2).length ≤ maxLen ∧ ∀ x ∈ (a0.2), (((Lit.int .i64 x.1).wf = true) ∧ ((Lit.int .i64 x.2.1).wf = true) ∧ ((Lit.int .i64 x.2.2).wf = true))))) → ∀ a1 : Int, (Lit.int .i64 a1).wf = true → ∀ a2 : Int, (Lit.int .i64 a2).wf = true → ev env 6 [(.agg (([.int .i64 a0.1]) ++ (([.sl (a0.2).length false (flat (fun x => ([.int .i64 x.1]) ++ (([.int .i64 x.2.1]) ++ (([.int .i64 x.2.2])))) a0.2)])))), .int .i64 a1, .int .i64 a2] [] = some (.bool true, [])
end Go.Proofs.YtoihpjpgihhcjaaR.queueIs
