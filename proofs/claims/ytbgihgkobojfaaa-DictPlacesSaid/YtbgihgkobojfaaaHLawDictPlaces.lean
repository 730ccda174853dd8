-- Written by this session's wip/mklaw.py.
import Derived.Test.YtbgihgkobojfaaaPDictPlacesx6
import Derived.Test.YtbgihgkobojfaaaHOpen
set_option linter.unusedVariables false
namespace Go.Proofs.Ytbgihgkobojfaaa.PDictPlaces
open Go.RowKit Go.Proofs.YtbgihgkobojfaaaO Go.Proofs.YtbgihgkobojfaaaW.PrintWords Go.Proofs.YtbgihgkobojfaaaW.PrintLast Go.Proofs.YtbgihgkobojfaaaW.PrintMore
/-- The law's kinds, opened; the sentence. -/
def ok33 (x : S33) : Prop := ((Lit.int .i64 x.f0).wf = true) ∧ ((Lit.int .i64 x.f1).wf = true)
theorem open33 : Opens Try.prog 33 k33 ok33 := Opens.iso (Opens.struct Try.underlying33 (by kernel_rfl) (OpensF.cons (Opens.int Try.underlying3) rfl (by kernel_rfl) (OpensF.one (Opens.int Try.underlying3) rfl (by kernel_rfl)))) _ (fun p => ⟨p.1, p.2⟩) (fun _ => rfl)
def tenterhooklaw11_DictPlaces.Pure : Prop := ∀ (x0 : S33), ok33 x0 → ∀ (x1 : S33), ok33 x1 → ∀ (a2 : Int), (Lit.int .i64 a2).wf = true → ∃ k, tenterhooklaw11_DictPlaces.f k (x0.f0) (x0.f1) (x1.f0) (x1.f1) a2 = some true
end Go.Proofs.Ytbgihgkobojfaaa.PDictPlaces
