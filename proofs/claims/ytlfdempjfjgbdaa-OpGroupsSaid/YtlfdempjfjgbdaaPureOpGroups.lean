/- OpGroups: each operation is of a group and needs few (P7.1): the law answers true for every input. -/
import Derived.Test.YtlfdempjfjgbdaaPOpGroupsx2
import Derived.OpenShut
set_option linter.unusedVariables false
set_option linter.unusedSimpArgs false
namespace Go.Proofs.Ytlfdempjfjgbdaa.Pure
open Go.RowKit Go.Proofs.Ytlfdempjfjgbdaa.POpGroups Go.Proofs.YtlfdempjfjgbdaaW.PrintWords Go.Proofs.YtlfdempjfjgbdaaW.PrintLast

/-- As Option.bind_some, but no equation by sight: the kernel is not asked to compare great terms. -/
theorem bsome {α β : Type} (a : α) (f : α → Option β) : (some a).bind f = f a := by
  generalize hx : some a = o
  cases o with
  | none => cases hx
  | some b => cases hx; rfl
theorem wr_id {x : Int} (h0 : -9223372036854775808 ≤ x) (h1 : x ≤ 9223372036854775807) : wrap64 x = x := by unfold wrap64; omega

theorem awake200 : tenterhooklaw07_awake.f 200 = some true := by decide +kernel
theorem groups_in : ∀ n : Fin 111, tenterhooklaw07_OpGroups.f 200 (n.val : Int) = some true := by decide +kernel
theorem in_no (n : Int) (h : n < 0 ∨ 111 ≤ n) : op_in.f n = some false := by
  unfold op_in.f
  rcases h with h | h
  · rw [if_neg (by omega)]
  · rw [if_pos (by omega), decide_eq_false (by omega)]
theorem of_no (n : Int) (h : n < 0 ∨ 111 ≤ n) : op_of.f n = some (0, -1, -1, false) := by
  unfold op_of.f
  rw [in_no n h, bsome, if_neg (by decide)]
theorem name_no (n : Int) (h : n < 0 ∨ 111 ≤ n) : op_Name.f n = some (⟨#[]⟩ : ByteArray) := by
  unfold op_Name.f
  rw [in_no n h, bsome, if_neg (by decide)]
theorem leaves_no (n : Int) (h : n < 0 ∨ 111 ≤ n) : op_Leaves.f n = some (0, false) := by
  unfold op_Leaves.f
  rw [of_no n h, bsome]
  decide
theorem needs_no (n : Int) (h : n < 0 ∨ 111 ≤ n) : op_Needs.f n = some 0 := by
  unfold op_Needs.f
  rw [of_no n h, bsome]
theorem group_no (n : Int) (h : n < 0 ∨ 111 ≤ n) : op_Group.f n = some (-1) := by
  unfold op_Group.f
  rw [of_no n h, bsome]
theorem hidden_no (n : Int) (h : n < 0 ∨ 111 ≤ n) : op_Hidden.f n = some false := by
  unfold op_Hidden.f
  rw [name_no n h, bsome]
  decide +kernel
theorem nil_list : (⟨#[]⟩ : ByteArray).toList = ([] : List UInt8) := by decide +kernel
theorem OpGroups : tenterhooklaw07_OpGroups.Pure := by
  intro n hn
  refine ⟨200, ?_⟩
  by_cases h : n < 0 ∨ 111 ≤ n
  · unfold tenterhooklaw07_OpGroups.f
    rw [awake200, bsome, leaves_no n h, bsome]
    have end_ : tenterhooklaw07_OpGroups.j0 200 n true 0 false true = some true := by
      simp only [tenterhooklaw07_OpGroups.j0, if_true]
      rw [name_no n h, bsome, nil_list, if_pos rfl, needs_no n h, bsome, if_pos rfl, if_neg (by decide), group_no n h, bsome, if_pos rfl, hidden_no n h, bsome]
      rfl
    by_cases c : n < 0
    · rw [if_pos c]; exact end_
    · rw [if_neg c, show decide (n ≥ 111) = true from decide_eq_true (by omega)]; exact end_
  · have := groups_in ⟨n.toNat, by omega⟩
    rwa [show ((n.toNat : Nat) : Int) = n by omega] at this


end Go.Proofs.Ytlfdempjfjgbdaa.Pure
