/- EvPu06ScanIs: a part of the proof. -/
import Derived.Test.YtgiapbmeaobjiaaEvIr06
set_option linter.unusedSimpArgs false
set_option linter.unusedVariables false
namespace Go.Proofs.YtgiapbmeaobjiaaR.scanIs
open Go Go.Proofs.YtgiapbmeaobjiaaEv Go.Proofs Go.Proofs.YtgiapbmeaobjiaaR
/-- What comes in; the sentence. -/
theorem opens0 : OpensE Try.prog 34 ((1) + ((1))) (fun a : (ByteArray) × (Int) => ([.str a.1]) ++ (([.int .i64 a.2]))) (fun a => (((a.1).size ≤ maxLen) ∧ ((Lit.int .i64 a.2).wf = true))) := OpensE.struct Try.underlying34 (by kernel_rfl) (OpensFE.cons (OpensE.string Try.underlying9) rfl (by kernel_rfl) (OpensFE.one (OpensE.int Try.underlying3) rfl (by kernel_rfl)))
def Pure : Prop := ∀ a0 : (ByteArray) × (Int), (((a0.1).size ≤ maxLen) ∧ ((Lit.int .i64 a0.2).wf = true)) → ∀ a1 : Int, (Lit.int .i64 a1).wf = true → ev env 6 [(.agg (([.str a0.1]) ++ (([.int .i64 a0.2])))), .int .i64 a1] [] = some (.bool true, [])
end Go.Proofs.YtgiapbmeaobjiaaR.scanIs
