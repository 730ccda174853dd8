-- Written by this session's wip/mklaw.py.
import Derived.Test.YtbgihgkobojfaaaRows
import Derived.Test.YtbgihgkobojfaaaHLawDictNames
import Derived.Test.YtbgihgkobojfaaaPureDictNames
import Derived.WalkKit
import Derived.ProofKit
import Derived.OpenShut
import Derived.ShutString
import Derived.ChangeOld
import Derived.Below
import Derived.SizedLaws
namespace Go.Proofs.Ytbgihgkobojfaaa.dictNames
open Go.ChangeShapes Go.WideShapes Go.ChangeAt Go.RowKit
open Go.ChangeMaps (open_string shut_string)
open Go.Proofs.YtbgihgkobojfaaaO Go.Proofs.Ytbgihgkobojfaaa.PDictNames
set_option linter.unusedVariables false
theorem own : ownKnob Try.prog.godebug = none := by kernel_rfl
theorem laidOut : laidOutB Try.prog = true := by kernel_rfl
set_option maxRecDepth 100000 in
theorem lifted (os : Os) (started : os.Started) (H : Type) (enc : TypeId × Value → H) :
    ReturnsInHanded {} Try.checked os 5 .any (Rows.dictNamesSpec.pre6 enc Try.prog Try.f5 Rows.dictNamesRow.domain false) (Rows.dictNamesSpec.post enc Try.prog Try.f5 false true false false) := by
  refine returnsInHanded_of_change_sized (C := Try.checked) own started (by kernel_rfl) Try.func5
    (ChangeSpec.witness6 (enc := enc) (C := Try.checked) false ⟨#[], #[.slice none 0 0, .agg #[.string ⟨#[]⟩, .bool false, .int .i64 0, .int .i64 0, .int .i64 0, .int .i64 0]], []⟩ 8 (by kernel_rfl) (by kernel_rfl) (by kernel_rfl) (by kernel_rfl)) ?_
  intro W base args ds gs before hval0 hW hcnd hsz0 _
  have hval : ∀ (j : Nat) t v, Try.f5.params[j]? = some t → args[j]? = some v → Value.okWide Try.prog W .any base t v := hval0
  have hW' := hW
  obtain ⟨p, q, hA0, hV, rfl, hfz, hnd⟩ := hW
  have hA : DataW.TrodAll enc Try.prog W 0 (fun _ => true) true Try.f5.params.toList args.toList ds p := hA0
  rw [Try.params5] at hA hval
  obtain ⟨v0, vs0, d0, ds0, p0, q0, hargs, rfl, rfl, h0, r0⟩ := trodAll_cons hA
  obtain ⟨v1, vs1, d1, ds1, p1, q1, rfl, rfl, rfl, h1, r1⟩ := trodAll_cons r0
  obtain ⟨rfl, rfl, rfl⟩ := trodAll_nil r1
  obtain rfl : args = #[v0, v1] := by cases args; simp_all
  obtain ⟨rfl, rfl⟩ := trodVars_none hV
  obtain ⟨A0, len0, c0, rfl⟩ := okWide_slice Try.underlying39 (hval 0 39 v0 rfl rfl)
  have k0 := h0
  have lt0 : ∀ x ∈ p0, x.block < W.heap.size := by obtain ⟨m, hm⟩ := k0; exact DataW.trod_lt m _ _ _ hm
  obtain ⟨l0, ⟨A_, c_, hcs0, hle0, hC0⟩, ok0⟩ := (Opens.slice 40 Try.underlying39 (by kernel_rfl) open40 : Opens Try.prog 39 _ _).value h0
  have hcs0_ : [Value.slice A0 len0 c0] = [Value.slice A_ l0.length c_] := hcs0
  simp only [List.cons.injEq, Value.slice.injEq, and_true] at hcs0_
  obtain ⟨rfl, rfl, rfl⟩ := hcs0_
  clear hcs0
  obtain ⟨cs1, rfl, hz1⟩ := okWide_struct Try.underlying40 (hval 1 40 v1 rfl rfl)
  have k1 := h1
  have lt1 : ∀ x ∈ p1, x.block < W.heap.size := by obtain ⟨m, hm⟩ := k1; exact DataW.trod_lt m _ _ _ hm
  obtain ⟨x1, hK1, ok1⟩ := open40.value h1
  have hcs1 : cs1.toList = _ := k40_open hK1
  obtain ⟨l_⟩ := cs1
  replace hcs1 : l_ = _ := hcs1
  subst hcs1
  clear hK1 hz1
  clear hA0 hval0 hsz0
  obtain ⟨k, hk⟩ := Pure.DictNames l0 ok0 x1 ok1
  refine (PDictNames.tenterhooklaw11_DictNames.calls k A0 c0 l0 (x1.f0) (x1.f1) (x1.f2) (x1.f3) (x1.f4.f0) (x1.f4.f1) true W hC0 hle0 hk rfl).mono fun e W' ⟨he, bel⟩ => ?_
  subst he
  exact ⟨_, rfl, _, _, _, [], _, [], hW', trodAll_mk1 (shut_bool Try.underlying4 _), (trodAll_cons_mk (Below.trod laidOut (by kernel_rfl) (of_decide_eq_true (by kernel_rfl)) k0 bel lt0) (trodAll_cons_mk (Below.trod laidOut (by kernel_rfl) (of_decide_eq_true (by kernel_rfl)) k1 bel lt1) trodAll_mk0)), rfl, bel.frame _, fun h => by cases h⟩
theorem over : Rows.dictNamesRow.holds Try.pinned (OpenSpec.ofChange Rows.dictNamesSpec) :=
  OpenClaim.holds_of_wide 5 Try.f5 rfl rfl rfl rfl rfl rfl rfl ⟨rfl, rfl, rfl, rfl, rfl⟩ rfl rfl rfl rfl rfl (by kernel_rfl) Try.func5 (by kernel_rfl)
    (of_decide_eq_true (by kernel_rfl)) (by unfold Func.isWrapper; first | (rw [if_pos (by decide +kernel)]; kernel_rfl) | (rw [if_neg (by decide +kernel)]; exact ⟨rfl, rfl⟩))
    (fun os started H enc _ => lifted os started H enc)
theorem proved : Rows.DictNamesSaid := over
#print axioms proved
end Go.Proofs.Ytbgihgkobojfaaa.dictNames
namespace Go.Proofs.Ytbgihgkobojfaaa
/-- The row, under a short name, for the claim. -/
theorem dictNames_holds : Rows.DictNamesSaid := dictNames.proved
end Go.Proofs.Ytbgihgkobojfaaa
