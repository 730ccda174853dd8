/- EvPu13RetRounds: a part of the proof. -/
import Derived.Test.YtklanpanmndakaaEvIr13
set_option linter.unusedSimpArgs false
set_option linter.unusedVariables false
namespace Go.Proofs.YtklanpanmndakaaR.retRounds
open Go Go.Proofs.YtklanpanmndakaaEv Go.Proofs Go.Proofs.YtklanpanmndakaaR
/-- What comes in; the sentence. -/
def Pure : Prop := ∀ a0 : Int, (Lit.int .i64 a0).wf = true → ∀ a1 : Int, (Lit.int .i64 a1).wf = true → ∀ a2 : Int, (Lit.int .i64 a2).wf = true → ev env 6 [.int .i64 a0, .int .i64 a1, .int .i64 a2] [] = some (.bool true, [])
end Go.Proofs.YtklanpanmndakaaR.retRounds
