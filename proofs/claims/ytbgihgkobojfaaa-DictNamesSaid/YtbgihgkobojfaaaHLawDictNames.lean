-- Written by this session's wip/mklaw.py.
import Derived.Test.YtbgihgkobojfaaaPDictNamesx7
import Derived.Test.YtbgihgkobojfaaaHOpen
set_option linter.unusedVariables false
namespace Go.Proofs.Ytbgihgkobojfaaa.PDictNames
open Go.RowKit Go.Proofs.YtbgihgkobojfaaaO Go.Proofs.YtbgihgkobojfaaaW.PrintWords Go.Proofs.YtbgihgkobojfaaaW.PrintLast Go.Proofs.YtbgihgkobojfaaaW.PrintMore
/-- The law's kinds, opened; the sentence. -/
def ok33 (x : S33) : Prop := ((Lit.int .i64 x.f0).wf = true) ∧ ((Lit.int .i64 x.f1).wf = true)
theorem open33 : Opens Try.prog 33 k33 ok33 := Opens.iso (Opens.struct Try.underlying33 (by kernel_rfl) (OpensF.cons (Opens.int Try.underlying3) rfl (by kernel_rfl) (OpensF.one (Opens.int Try.underlying3) rfl (by kernel_rfl)))) _ (fun p => ⟨p.1, p.2⟩) (fun _ => rfl)
def ok40 (x : S40) : Prop := ((x.f0).size ≤ maxLen) ∧ (True) ∧ ((Lit.int .i64 x.f2).wf = true) ∧ ((Lit.int .i64 x.f3).wf = true) ∧ (ok33 x.f4)
theorem open40 : Opens Try.prog 40 k40 ok40 := Opens.iso (Opens.struct Try.underlying40 (by kernel_rfl) (OpensF.cons (Opens.string Try.underlying9) rfl (by kernel_rfl) (OpensF.cons (Opens.bool Try.underlying4) rfl (by kernel_rfl) (OpensF.cons (Opens.int Try.underlying3) rfl (by kernel_rfl) (OpensF.cons (Opens.int Try.underlying3) rfl (by kernel_rfl) (OpensF.one open33 rfl (by kernel_rfl))))))) _ (fun p => ⟨p.1, p.2.1, p.2.2.1, p.2.2.2.1, p.2.2.2.2⟩) (fun _ => rfl)
def tenterhooklaw11_DictNames.Pure : Prop := ∀ (l0 : List (S40)), ((l0).length ≤ maxLen ∧ ∀ x ∈ (l0), ok40 x) → ∀ (x1 : S40), ok40 x1 → ∃ k, tenterhooklaw11_DictNames.f k l0 (x1.f0) (x1.f1) (x1.f2) (x1.f3) (x1.f4.f0) (x1.f4.f1) = some true
end Go.Proofs.Ytbgihgkobojfaaa.PDictNames
