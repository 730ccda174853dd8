-- Written by this session's wip/gen.py (it drives the kit's print over a plain variation's bodies of some functions; their contracts are proved by hand).
import Derived.Test.YtlfdempjfjgbdaaPOpFindsx0
import Derived.Test.YtlfdempjfjgbdaaPOpFindsx1
namespace Go.Proofs.Ytlfdempjfjgbdaa.POpFinds
open Go.RowKit Go.Proofs.YtlfdempjfjgbdaaW.PrintWords Go.Proofs.YtlfdempjfjgbdaaW.PrintLast Go.Proofs.YtlfdempjfjgbdaaW.PrintMore
attribute [local go_sem] max2_int min2_int max_two min_two max_three min_three max_four min_four   -- for this text's walks alone
set_option linter.unusedVariables false
set_option linter.unusedSimpArgs false

/-! ### tenterhooklaw07_awake: function 6 -/
def tenterhooklaw07_awake.f (k : Nat)  : Option (Bool) := (op_Find.f k (⟨#[100, 117, 112]⟩ : ByteArray)).bind fun bt142 => ((op_Leaves.f 18).bind fun bt144 => (if bt142.2 = true then (if bt142.1 = 18 then ((op_Needs.f 18).bind fun t146 => (if t146 = 1 then (if bt144.1 = 2 then (if bt144.2 = true then ((op_Group.f 18).bind fun t147 => (if t147 = 1 then ((op_Name.f 18).bind fun t148 => (some (t148.toList == ([68, 85, 80] : List UInt8)))) else (some false))) else (some false)) else (some false)) else (some false))) else (some false)) else (some false)))
theorem tenterhooklaw07_awake.mono : ∀ k, LeO (tenterhooklaw07_awake.f k ) (tenterhooklaw07_awake.f (k + 1) ) := by
  intro  k
  unfold tenterhooklaw07_awake.f
  repeat' first
      | (with_reducible exact op_Find.mono _ _)
      | (with_reducible exact LeO.refl _)
      | (with_reducible exact LeO.none _)
      | (with_reducible refine LeO.ite ?_ ?_)
      | (with_reducible refine LeO.bind ?_ (fun _ => ?_))
      | exact op_Find.mono _ _
      | exact LeO.none _
      | refine LeO.ite ?_ ?_
      | refine LeO.bind ?_ (fun _ => ?_)
set_option maxHeartbeats 8000000 in
set_option maxRecDepth 100000 in
theorem tenterhooklaw07_awake.calls (k : Nat)  (r : Bool) (w : World) (h : tenterhooklaw07_awake.f k  = some r) :
    Calls Try.prog 6 #[] w fun e w' => e = .returned (.bool r) ∧ Below w.heap.size w w' := by
  have HB := Aside0.mk (Below.refl w.heap.size w)
  have H : ((op_Find.f k (⟨#[100, 117, 112]⟩ : ByteArray)).bind fun bt142 => ((op_Leaves.f 18).bind fun bt144 => (if bt142.2 = true then (if bt142.1 = 18 then ((op_Needs.f 18).bind fun t146 => (if t146 = 1 then (if bt144.1 = 2 then (if bt144.2 = true then ((op_Group.f 18).bind fun t147 => (if t147 = 1 then ((op_Name.f 18).bind fun t148 => (some (t148.toList == ([68, 85, 80] : List UInt8)))) else (some false))) else (some false)) else (some false)) else (some false))) else (some false)) else (some false)))) = some r := h
  clear h
  replace H := Option.bind_eq_some_iff.mp H
  obtain ⟨⟨t142, t143⟩, A10, H⟩ := H
  replace H : ((op_Leaves.f 18).bind fun bt144 => (if t143 = true then (if t142 = 18 then ((op_Needs.f 18).bind fun t146 => (if t146 = 1 then (if bt144.1 = 2 then (if bt144.2 = true then ((op_Group.f 18).bind fun t147 => (if t147 = 1 then ((op_Name.f 18).bind fun t148 => (some (t148.toList == ([68, 85, 80] : List UInt8)))) else (some false))) else (some false)) else (some false)) else (some false))) else (some false)) else (some false))) = some r := H
  have A1 := Aside0.mk A10
  clear A10
  replace H := Option.bind_eq_some_iff.mp H
  obtain ⟨⟨t144, t145⟩, A20, H⟩ := H
  replace H : (if t143 = true then (if t142 = 18 then ((op_Needs.f 18).bind fun t146 => (if t146 = 1 then (if t144 = 2 then (if t145 = true then ((op_Group.f 18).bind fun t147 => (if t147 = 1 then ((op_Name.f 18).bind fun t148 => (some (t148.toList == ([68, 85, 80] : List UInt8)))) else (some false))) else (some false)) else (some false)) else (some false))) else (some false)) else (some false)) = some r := H
  have A2 := Aside0.mk A20
  clear A20
  by_cases c3 : t143 = true
  · subst c3
    have H1 : (if t142 = 18 then ((op_Needs.f 18).bind fun t146 => (if t146 = 1 then (if t144 = 2 then (if t145 = true then ((op_Group.f 18).bind fun t147 => (if t147 = 1 then ((op_Name.f 18).bind fun t148 => (some (t148.toList == ([68, 85, 80] : List UInt8)))) else (some false))) else (some false)) else (some false)) else (some false))) else (some false)) = some r := by rw [if_pos rfl] at H; exact H
    clear H
    have H := H1
    clear H1
    by_cases c4 : t142 = 18
    · rw [if_pos c4] at H
      have c4b0 : (t142 == 18) = true := beq_iff_eq.mpr c4
      have c4b1 : (t142 != 18) = false := bne_eq_false_iff_eq.mpr c4
      clear c4
      replace H := Option.bind_eq_some_iff.mp H
      obtain ⟨t146, A50, H⟩ := H
      replace H : (if t146 = 1 then (if t144 = 2 then (if t145 = true then ((op_Group.f 18).bind fun t147 => (if t147 = 1 then ((op_Name.f 18).bind fun t148 => (some (t148.toList == ([68, 85, 80] : List UInt8)))) else (some false))) else (some false)) else (some false)) else (some false)) = some r := H
      have A5 := Aside0.mk A50
      clear A50
      by_cases c6 : t146 = 1
      · rw [if_pos c6] at H
        have c6b0 : (t146 == 1) = true := beq_iff_eq.mpr c6
        have c6b1 : (t146 != 1) = false := bne_eq_false_iff_eq.mpr c6
        clear c6
        by_cases c7 : t144 = 2
        · rw [if_pos c7] at H
          have c7b0 : (t144 == 2) = true := beq_iff_eq.mpr c7
          have c7b1 : (t144 != 2) = false := bne_eq_false_iff_eq.mpr c7
          clear c7
          by_cases c8 : t145 = true
          · subst c8
            have H1 : ((op_Group.f 18).bind fun t147 => (if t147 = 1 then ((op_Name.f 18).bind fun t148 => (some (t148.toList == ([68, 85, 80] : List UInt8)))) else (some false))) = some r := by rw [if_pos rfl] at H; exact H
            clear H
            have H := H1
            clear H1
            replace H := Option.bind_eq_some_iff.mp H
            obtain ⟨t147, A90, H⟩ := H
            replace H : (if t147 = 1 then ((op_Name.f 18).bind fun t148 => (some (t148.toList == ([68, 85, 80] : List UInt8)))) else (some false)) = some r := H
            have A9 := Aside0.mk A90
            clear A90
            by_cases c10 : t147 = 1
            · rw [if_pos c10] at H
              have c10b0 : (t147 == 1) = true := beq_iff_eq.mpr c10
              have c10b1 : (t147 != 1) = false := bne_eq_false_iff_eq.mpr c10
              clear c10
              replace H := Option.bind_eq_some_iff.mp H
              obtain ⟨t148, A110, H⟩ := H
              replace H : (some (t148.toList == ([68, 85, 80] : List UInt8))) = some r := H
              have A11 := Aside0.mk A110
              clear A110
              obtain rfl := Option.some.inj H
              go_enter Try.func6, Try.ntmps6
              go_wp2_with (first | ((with_reducible refine gate_callee (f := 7) rfl ?_); refine goesL_ (some 6) rfl rfl Try.func7 (by kernel_rfl) rfl #[.string (⟨#[100, 117, 112]⟩ : ByteArray)] rfl (by (try simp only [List.map_toArray, List.map_cons, List.map_nil]); first | done | rfl | (simp only [List.length_drop, List.length_take]; rfl)) ?_; (with_reducible refine (op_Find.calls k (⟨#[100, 117, 112]⟩ : ByteArray) t142 true _ A1.out).mono ?_); rintro e w12 ⟨rfl, hb⟩; refine ⟨_, rfl, ?_⟩; have n0_ := Aside0.mk (below_step (by repeat (first | (with_reducible first | exact HB.out | apply below_alloc | apply pw_below_drewN | apply below_drew1) | exact HB.out)) hb); clear HB; have HB := n0_; clear n0_; (try clear hb); (try clear hb2); (try clear hk); (try clear hi)) | ((with_reducible refine gate_callee (f := 9) rfl ?_); refine goesL_ (some 10) rfl rfl Try.func9 (by kernel_rfl) rfl #[.int .i64 18] rfl (by (try simp only [List.map_toArray, List.map_cons, List.map_nil]); first | done | rfl | (simp only [List.length_drop, List.length_take]; rfl)) ?_; (with_reducible refine (op_Leaves.calls 18 t144 true _ A2.out).mono ?_); rintro e w13 ⟨rfl, hb⟩; refine ⟨_, rfl, ?_⟩; have n0_ := Aside0.mk (below_step (by repeat (first | (with_reducible first | exact HB.out | apply below_alloc | apply pw_below_drewN | apply below_drew1) | exact HB.out)) hb); clear HB; have HB := n0_; clear n0_; (try clear hb); (try clear hb2); (try clear hk); (try clear hi)) | (go_at_call 13; (with_reducible refine (op_Needs.calls 18 t146 _ A5.out).mono ?_); rintro e w14 ⟨rfl, hb⟩; have n0_ := Aside0.mk (below_step (by repeat (first | (with_reducible first | exact HB.out | apply below_alloc | apply pw_below_drewN | apply below_drew1) | exact HB.out)) hb); clear HB; have HB := n0_; clear n0_; (try clear hb); (try clear hb2); (try clear hk); (try clear hi)) | (go_at_call 15; (with_reducible refine (op_Group.calls 18 t147 _ A9.out).mono ?_); rintro e w15 ⟨rfl, hb⟩; have n0_ := Aside0.mk (below_step (by repeat (first | (with_reducible first | exact HB.out | apply below_alloc | apply pw_below_drewN | apply below_drew1) | exact HB.out)) hb); clear HB; have HB := n0_; clear n0_; (try clear hb); (try clear hb2); (try clear hk); (try clear hi)) | (go_at_call 11; (with_reducible refine (op_Name.calls 18 t148 _ A11.out).mono ?_); rintro e w16 ⟨rfl, hb⟩; have n0_ := Aside0.mk (below_step (by repeat (first | (with_reducible first | exact HB.out | apply below_alloc | apply pw_below_drewN | apply below_drew1) | exact HB.out)) hb); clear HB; have HB := n0_; clear n0_; (try clear hb); (try clear hb2); (try clear hk); (try clear hi)))
              go_ret
              exact ⟨by first | rfl | (simp [errW_none, errW_some] <;> rfl) | (simp [*, errW_none, errW_some] <;> rfl), by repeat (first | (with_reducible first | exact HB.out | apply below_alloc | apply pw_below_drewN | apply below_drew1) | exact HB.out)⟩
            · rw [if_neg c10] at H
              have c10b0 : (t147 == 1) = false := beq_eq_false_iff_ne.mpr c10
              have c10b1 : (t147 != 1) = true := bne_iff_ne.mpr c10
              obtain rfl := Option.some.inj H
              go_enter Try.func6, Try.ntmps6
              go_wp2_with (first | ((with_reducible refine gate_callee (f := 7) rfl ?_); refine goesL_ (some 6) rfl rfl Try.func7 (by kernel_rfl) rfl #[.string (⟨#[100, 117, 112]⟩ : ByteArray)] rfl (by (try simp only [List.map_toArray, List.map_cons, List.map_nil]); first | done | rfl | (simp only [List.length_drop, List.length_take]; rfl)) ?_; (with_reducible refine (op_Find.calls k (⟨#[100, 117, 112]⟩ : ByteArray) t142 true _ A1.out).mono ?_); rintro e w17 ⟨rfl, hb⟩; refine ⟨_, rfl, ?_⟩; have n0_ := Aside0.mk (below_step (by repeat (first | (with_reducible first | exact HB.out | apply below_alloc | apply pw_below_drewN | apply below_drew1) | exact HB.out)) hb); clear HB; have HB := n0_; clear n0_; (try clear hb); (try clear hb2); (try clear hk); (try clear hi)) | ((with_reducible refine gate_callee (f := 9) rfl ?_); refine goesL_ (some 10) rfl rfl Try.func9 (by kernel_rfl) rfl #[.int .i64 18] rfl (by (try simp only [List.map_toArray, List.map_cons, List.map_nil]); first | done | rfl | (simp only [List.length_drop, List.length_take]; rfl)) ?_; (with_reducible refine (op_Leaves.calls 18 t144 true _ A2.out).mono ?_); rintro e w18 ⟨rfl, hb⟩; refine ⟨_, rfl, ?_⟩; have n0_ := Aside0.mk (below_step (by repeat (first | (with_reducible first | exact HB.out | apply below_alloc | apply pw_below_drewN | apply below_drew1) | exact HB.out)) hb); clear HB; have HB := n0_; clear n0_; (try clear hb); (try clear hb2); (try clear hk); (try clear hi)) | (go_at_call 13; (with_reducible refine (op_Needs.calls 18 t146 _ A5.out).mono ?_); rintro e w19 ⟨rfl, hb⟩; have n0_ := Aside0.mk (below_step (by repeat (first | (with_reducible first | exact HB.out | apply below_alloc | apply pw_below_drewN | apply below_drew1) | exact HB.out)) hb); clear HB; have HB := n0_; clear n0_; (try clear hb); (try clear hb2); (try clear hk); (try clear hi)) | (go_at_call 15; (with_reducible refine (op_Group.calls 18 t147 _ A9.out).mono ?_); rintro e w20 ⟨rfl, hb⟩; have n0_ := Aside0.mk (below_step (by repeat (first | (with_reducible first | exact HB.out | apply below_alloc | apply pw_below_drewN | apply below_drew1) | exact HB.out)) hb); clear HB; have HB := n0_; clear n0_; (try clear hb); (try clear hb2); (try clear hk); (try clear hi)))
              go_ret
              exact ⟨by first | rfl | (simp [errW_none, errW_some] <;> rfl) | (simp [*, errW_none, errW_some] <;> rfl), by repeat (first | (with_reducible first | exact HB.out | apply below_alloc | apply pw_below_drewN | apply below_drew1) | exact HB.out)⟩
          · replace c8 := Bool.eq_false_iff.mpr c8
            subst c8
            have H1 : (some false) = some r := by rw [if_neg (show ¬ (false = true) by decide)] at H; exact H
            clear H
            have H := H1
            clear H1
            obtain rfl := Option.some.inj H
            go_enter Try.func6, Try.ntmps6
            go_wp2_with (first | ((with_reducible refine gate_callee (f := 7) rfl ?_); refine goesL_ (some 6) rfl rfl Try.func7 (by kernel_rfl) rfl #[.string (⟨#[100, 117, 112]⟩ : ByteArray)] rfl (by (try simp only [List.map_toArray, List.map_cons, List.map_nil]); first | done | rfl | (simp only [List.length_drop, List.length_take]; rfl)) ?_; (with_reducible refine (op_Find.calls k (⟨#[100, 117, 112]⟩ : ByteArray) t142 true _ A1.out).mono ?_); rintro e w21 ⟨rfl, hb⟩; refine ⟨_, rfl, ?_⟩; have n0_ := Aside0.mk (below_step (by repeat (first | (with_reducible first | exact HB.out | apply below_alloc | apply pw_below_drewN | apply below_drew1) | exact HB.out)) hb); clear HB; have HB := n0_; clear n0_; (try clear hb); (try clear hb2); (try clear hk); (try clear hi)) | ((with_reducible refine gate_callee (f := 9) rfl ?_); refine goesL_ (some 10) rfl rfl Try.func9 (by kernel_rfl) rfl #[.int .i64 18] rfl (by (try simp only [List.map_toArray, List.map_cons, List.map_nil]); first | done | rfl | (simp only [List.length_drop, List.length_take]; rfl)) ?_; (with_reducible refine (op_Leaves.calls 18 t144 false _ A2.out).mono ?_); rintro e w22 ⟨rfl, hb⟩; refine ⟨_, rfl, ?_⟩; have n0_ := Aside0.mk (below_step (by repeat (first | (with_reducible first | exact HB.out | apply below_alloc | apply pw_below_drewN | apply below_drew1) | exact HB.out)) hb); clear HB; have HB := n0_; clear n0_; (try clear hb); (try clear hb2); (try clear hk); (try clear hi)) | (go_at_call 13; (with_reducible refine (op_Needs.calls 18 t146 _ A5.out).mono ?_); rintro e w23 ⟨rfl, hb⟩; have n0_ := Aside0.mk (below_step (by repeat (first | (with_reducible first | exact HB.out | apply below_alloc | apply pw_below_drewN | apply below_drew1) | exact HB.out)) hb); clear HB; have HB := n0_; clear n0_; (try clear hb); (try clear hb2); (try clear hk); (try clear hi)))
            go_ret
            exact ⟨by first | rfl | (simp [errW_none, errW_some] <;> rfl) | (simp [*, errW_none, errW_some] <;> rfl), by repeat (first | (with_reducible first | exact HB.out | apply below_alloc | apply pw_below_drewN | apply below_drew1) | exact HB.out)⟩
        · rw [if_neg c7] at H
          have c7b0 : (t144 == 2) = false := beq_eq_false_iff_ne.mpr c7
          have c7b1 : (t144 != 2) = true := bne_iff_ne.mpr c7
          obtain rfl := Option.some.inj H
          go_enter Try.func6, Try.ntmps6
          go_wp2_with (first | ((with_reducible refine gate_callee (f := 7) rfl ?_); refine goesL_ (some 6) rfl rfl Try.func7 (by kernel_rfl) rfl #[.string (⟨#[100, 117, 112]⟩ : ByteArray)] rfl (by (try simp only [List.map_toArray, List.map_cons, List.map_nil]); first | done | rfl | (simp only [List.length_drop, List.length_take]; rfl)) ?_; (with_reducible refine (op_Find.calls k (⟨#[100, 117, 112]⟩ : ByteArray) t142 true _ A1.out).mono ?_); rintro e w24 ⟨rfl, hb⟩; refine ⟨_, rfl, ?_⟩; have n0_ := Aside0.mk (below_step (by repeat (first | (with_reducible first | exact HB.out | apply below_alloc | apply pw_below_drewN | apply below_drew1) | exact HB.out)) hb); clear HB; have HB := n0_; clear n0_; (try clear hb); (try clear hb2); (try clear hk); (try clear hi)) | ((with_reducible refine gate_callee (f := 9) rfl ?_); refine goesL_ (some 10) rfl rfl Try.func9 (by kernel_rfl) rfl #[.int .i64 18] rfl (by (try simp only [List.map_toArray, List.map_cons, List.map_nil]); first | done | rfl | (simp only [List.length_drop, List.length_take]; rfl)) ?_; (with_reducible refine (op_Leaves.calls 18 t144 t145 _ A2.out).mono ?_); rintro e w25 ⟨rfl, hb⟩; refine ⟨_, rfl, ?_⟩; have n0_ := Aside0.mk (below_step (by repeat (first | (with_reducible first | exact HB.out | apply below_alloc | apply pw_below_drewN | apply below_drew1) | exact HB.out)) hb); clear HB; have HB := n0_; clear n0_; (try clear hb); (try clear hb2); (try clear hk); (try clear hi)) | (go_at_call 13; (with_reducible refine (op_Needs.calls 18 t146 _ A5.out).mono ?_); rintro e w26 ⟨rfl, hb⟩; have n0_ := Aside0.mk (below_step (by repeat (first | (with_reducible first | exact HB.out | apply below_alloc | apply pw_below_drewN | apply below_drew1) | exact HB.out)) hb); clear HB; have HB := n0_; clear n0_; (try clear hb); (try clear hb2); (try clear hk); (try clear hi)))
          go_ret
          exact ⟨by first | rfl | (simp [errW_none, errW_some] <;> rfl) | (simp [*, errW_none, errW_some] <;> rfl), by repeat (first | (with_reducible first | exact HB.out | apply below_alloc | apply pw_below_drewN | apply below_drew1) | exact HB.out)⟩
      · rw [if_neg c6] at H
        have c6b0 : (t146 == 1) = false := beq_eq_false_iff_ne.mpr c6
        have c6b1 : (t146 != 1) = true := bne_iff_ne.mpr c6
        obtain rfl := Option.some.inj H
        go_enter Try.func6, Try.ntmps6
        go_wp2_with (first | ((with_reducible refine gate_callee (f := 7) rfl ?_); refine goesL_ (some 6) rfl rfl Try.func7 (by kernel_rfl) rfl #[.string (⟨#[100, 117, 112]⟩ : ByteArray)] rfl (by (try simp only [List.map_toArray, List.map_cons, List.map_nil]); first | done | rfl | (simp only [List.length_drop, List.length_take]; rfl)) ?_; (with_reducible refine (op_Find.calls k (⟨#[100, 117, 112]⟩ : ByteArray) t142 true _ A1.out).mono ?_); rintro e w27 ⟨rfl, hb⟩; refine ⟨_, rfl, ?_⟩; have n0_ := Aside0.mk (below_step (by repeat (first | (with_reducible first | exact HB.out | apply below_alloc | apply pw_below_drewN | apply below_drew1) | exact HB.out)) hb); clear HB; have HB := n0_; clear n0_; (try clear hb); (try clear hb2); (try clear hk); (try clear hi)) | ((with_reducible refine gate_callee (f := 9) rfl ?_); refine goesL_ (some 10) rfl rfl Try.func9 (by kernel_rfl) rfl #[.int .i64 18] rfl (by (try simp only [List.map_toArray, List.map_cons, List.map_nil]); first | done | rfl | (simp only [List.length_drop, List.length_take]; rfl)) ?_; (with_reducible refine (op_Leaves.calls 18 t144 t145 _ A2.out).mono ?_); rintro e w28 ⟨rfl, hb⟩; refine ⟨_, rfl, ?_⟩; have n0_ := Aside0.mk (below_step (by repeat (first | (with_reducible first | exact HB.out | apply below_alloc | apply pw_below_drewN | apply below_drew1) | exact HB.out)) hb); clear HB; have HB := n0_; clear n0_; (try clear hb); (try clear hb2); (try clear hk); (try clear hi)) | (go_at_call 13; (with_reducible refine (op_Needs.calls 18 t146 _ A5.out).mono ?_); rintro e w29 ⟨rfl, hb⟩; have n0_ := Aside0.mk (below_step (by repeat (first | (with_reducible first | exact HB.out | apply below_alloc | apply pw_below_drewN | apply below_drew1) | exact HB.out)) hb); clear HB; have HB := n0_; clear n0_; (try clear hb); (try clear hb2); (try clear hk); (try clear hi)))
        go_ret
        exact ⟨by first | rfl | (simp [errW_none, errW_some] <;> rfl) | (simp [*, errW_none, errW_some] <;> rfl), by repeat (first | (with_reducible first | exact HB.out | apply below_alloc | apply pw_below_drewN | apply below_drew1) | exact HB.out)⟩
    · rw [if_neg c4] at H
      have c4b0 : (t142 == 18) = false := beq_eq_false_iff_ne.mpr c4
      have c4b1 : (t142 != 18) = true := bne_iff_ne.mpr c4
      obtain rfl := Option.some.inj H
      go_enter Try.func6, Try.ntmps6
      go_wp2_with (first | ((with_reducible refine gate_callee (f := 7) rfl ?_); refine goesL_ (some 6) rfl rfl Try.func7 (by kernel_rfl) rfl #[.string (⟨#[100, 117, 112]⟩ : ByteArray)] rfl (by (try simp only [List.map_toArray, List.map_cons, List.map_nil]); first | done | rfl | (simp only [List.length_drop, List.length_take]; rfl)) ?_; (with_reducible refine (op_Find.calls k (⟨#[100, 117, 112]⟩ : ByteArray) t142 true _ A1.out).mono ?_); rintro e w30 ⟨rfl, hb⟩; refine ⟨_, rfl, ?_⟩; have n0_ := Aside0.mk (below_step (by repeat (first | (with_reducible first | exact HB.out | apply below_alloc | apply pw_below_drewN | apply below_drew1) | exact HB.out)) hb); clear HB; have HB := n0_; clear n0_; (try clear hb); (try clear hb2); (try clear hk); (try clear hi)) | ((with_reducible refine gate_callee (f := 9) rfl ?_); refine goesL_ (some 10) rfl rfl Try.func9 (by kernel_rfl) rfl #[.int .i64 18] rfl (by (try simp only [List.map_toArray, List.map_cons, List.map_nil]); first | done | rfl | (simp only [List.length_drop, List.length_take]; rfl)) ?_; (with_reducible refine (op_Leaves.calls 18 t144 t145 _ A2.out).mono ?_); rintro e w31 ⟨rfl, hb⟩; refine ⟨_, rfl, ?_⟩; have n0_ := Aside0.mk (below_step (by repeat (first | (with_reducible first | exact HB.out | apply below_alloc | apply pw_below_drewN | apply below_drew1) | exact HB.out)) hb); clear HB; have HB := n0_; clear n0_; (try clear hb); (try clear hb2); (try clear hk); (try clear hi)))
      go_ret
      exact ⟨by first | rfl | (simp [errW_none, errW_some] <;> rfl) | (simp [*, errW_none, errW_some] <;> rfl), by repeat (first | (with_reducible first | exact HB.out | apply below_alloc | apply pw_below_drewN | apply below_drew1) | exact HB.out)⟩
  · replace c3 := Bool.eq_false_iff.mpr c3
    subst c3
    have H1 : (some false) = some r := by rw [if_neg (show ¬ (false = true) by decide)] at H; exact H
    clear H
    have H := H1
    clear H1
    obtain rfl := Option.some.inj H
    go_enter Try.func6, Try.ntmps6
    go_wp2_with (first | ((with_reducible refine gate_callee (f := 7) rfl ?_); refine goesL_ (some 6) rfl rfl Try.func7 (by kernel_rfl) rfl #[.string (⟨#[100, 117, 112]⟩ : ByteArray)] rfl (by (try simp only [List.map_toArray, List.map_cons, List.map_nil]); first | done | rfl | (simp only [List.length_drop, List.length_take]; rfl)) ?_; (with_reducible refine (op_Find.calls k (⟨#[100, 117, 112]⟩ : ByteArray) t142 false _ A1.out).mono ?_); rintro e w32 ⟨rfl, hb⟩; refine ⟨_, rfl, ?_⟩; have n0_ := Aside0.mk (below_step (by repeat (first | (with_reducible first | exact HB.out | apply below_alloc | apply pw_below_drewN | apply below_drew1) | exact HB.out)) hb); clear HB; have HB := n0_; clear n0_; (try clear hb); (try clear hb2); (try clear hk); (try clear hi)) | ((with_reducible refine gate_callee (f := 9) rfl ?_); refine goesL_ (some 10) rfl rfl Try.func9 (by kernel_rfl) rfl #[.int .i64 18] rfl (by (try simp only [List.map_toArray, List.map_cons, List.map_nil]); first | done | rfl | (simp only [List.length_drop, List.length_take]; rfl)) ?_; (with_reducible refine (op_Leaves.calls 18 t144 t145 _ A2.out).mono ?_); rintro e w33 ⟨rfl, hb⟩; refine ⟨_, rfl, ?_⟩; have n0_ := Aside0.mk (below_step (by repeat (first | (with_reducible first | exact HB.out | apply below_alloc | apply pw_below_drewN | apply below_drew1) | exact HB.out)) hb); clear HB; have HB := n0_; clear n0_; (try clear hb); (try clear hb2); (try clear hk); (try clear hi)))
    go_ret
    exact ⟨by first | rfl | (simp [errW_none, errW_some] <;> rfl) | (simp [*, errW_none, errW_some] <;> rfl), by repeat (first | (with_reducible first | exact HB.out | apply below_alloc | apply pw_below_drewN | apply below_drew1) | exact HB.out)⟩

/-! ### tenterhooklaw07_OpFinds: function 4 -/
def tenterhooklaw07_OpFinds.j0 : Nat → ByteArray → Bool → Int → Int → Bool → Bool → Option (Bool)
  | 0, _, _, _, _, _, _ => none
  | k + 1, x2, x7, x8, x12, x13, x64 => if x64 = true then (some false) else (if x7 = true then (if x13 = true then ((op_Name.f x12).bind fun t164 => ((scan_Upper.f k x2).bind fun t165 => (if t164.toList = t165.toList then ((op_Hidden.f x12).bind fun t166 => (if t166 = true then (some false) else ((op_Name.f x8).bind fun t167 => ((scan_Upper.f k t167).bind fun t168 => ((op_Name.f x8).bind fun t169 => (some (t168.toList == t169.toList))))))) else (some false)))) else ((op_Name.f x8).bind fun t170 => ((scan_Upper.f k t170).bind fun t171 => ((op_Name.f x8).bind fun t172 => (some (t171.toList == t172.toList)))))) else (some false))
def tenterhooklaw07_OpFinds.f (k : Nat) (a0 : Int) (a1 : Int) (a2 : ByteArray) : Option (Bool) := (tenterhooklaw07_awake.f k).bind fun t149 => (if (a2.size : Int) > 200 then (some t149) else ((op_Name.f (Int.tmod (Go.bits .and .i64 a0 65535) 111)).bind fun t150 => ((op_Find.f k t150).bind fun bt151 => ((op_Find.f k a2).bind fun bt153 => ((op_Hidden.f (Int.tmod (Go.bits .and .i64 a0 65535) 111)).bind fun t155 => (if (bt151.2 == t155) = true then (tenterhooklaw07_OpFinds.j0 k a2 t149 (Int.tmod (Go.bits .and .i64 a0 65535) 111) bt153.1 bt153.2 true) else (if bt151.2 = true then (if bt151.1 = (Int.tmod (Go.bits .and .i64 a0 65535) 111) then (if (Int.tmod (Go.bits .and .i64 a0 65535) 111) = (Int.tmod (Go.bits .and .i64 a1 65535) 111) then ((op_Name.f (Int.tmod (Go.bits .and .i64 a0 65535) 111)).bind fun t156 => (tenterhooklaw07_OpFinds.j0 k a2 t149 (Int.tmod (Go.bits .and .i64 a0 65535) 111) bt153.1 bt153.2 (t156.toList == ([] : List UInt8)))) else ((op_Name.f (Int.tmod (Go.bits .and .i64 a0 65535) 111)).bind fun t157 => ((op_Name.f (Int.tmod (Go.bits .and .i64 a1 65535) 111)).bind fun t158 => (if t157.toList = t158.toList then (tenterhooklaw07_OpFinds.j0 k a2 t149 (Int.tmod (Go.bits .and .i64 a0 65535) 111) bt153.1 bt153.2 true) else ((op_Name.f (Int.tmod (Go.bits .and .i64 a0 65535) 111)).bind fun t159 => (tenterhooklaw07_OpFinds.j0 k a2 t149 (Int.tmod (Go.bits .and .i64 a0 65535) 111) bt153.1 bt153.2 (t159.toList == ([] : List UInt8)))))))) else (tenterhooklaw07_OpFinds.j0 k a2 t149 (Int.tmod (Go.bits .and .i64 a0 65535) 111) bt153.1 bt153.2 true)) else (if (Int.tmod (Go.bits .and .i64 a0 65535) 111) = (Int.tmod (Go.bits .and .i64 a1 65535) 111) then ((op_Name.f (Int.tmod (Go.bits .and .i64 a0 65535) 111)).bind fun t160 => (tenterhooklaw07_OpFinds.j0 k a2 t149 (Int.tmod (Go.bits .and .i64 a0 65535) 111) bt153.1 bt153.2 (t160.toList == ([] : List UInt8)))) else ((op_Name.f (Int.tmod (Go.bits .and .i64 a0 65535) 111)).bind fun t161 => ((op_Name.f (Int.tmod (Go.bits .and .i64 a1 65535) 111)).bind fun t162 => (if t161.toList = t162.toList then (tenterhooklaw07_OpFinds.j0 k a2 t149 (Int.tmod (Go.bits .and .i64 a0 65535) 111) bt153.1 bt153.2 true) else ((op_Name.f (Int.tmod (Go.bits .and .i64 a0 65535) 111)).bind fun t163 => (tenterhooklaw07_OpFinds.j0 k a2 t149 (Int.tmod (Go.bits .and .i64 a0 65535) 111) bt153.1 bt153.2 (t163.toList == ([] : List UInt8)))))))))))))))
theorem tenterhooklaw07_OpFinds.mono_l : ∀ k, (∀ y0 y1 y2 y3 y4 y5, LeO (tenterhooklaw07_OpFinds.j0 k y0 y1 y2 y3 y4 y5) (tenterhooklaw07_OpFinds.j0 (k + 1) y0 y1 y2 y3 y4 y5))
  | 0 => fun _ _ _ _ _ _ r h => by simp [tenterhooklaw07_OpFinds.j0] at h
  | k + 1 => by
    have ih0 := tenterhooklaw07_OpFinds.mono_l k
    · intro y0 y1 y2 y3 y4 y5
      unfold tenterhooklaw07_OpFinds.j0
      repeat' first
      | (with_reducible exact ih0 _ _ _ _ _ _)
      | (with_reducible exact op_Find.mono _ _)
      | (with_reducible exact scan_Upper.mono _ _)
      | (with_reducible exact tenterhooklaw07_awake.mono _)
      | (with_reducible exact LeO.refl _)
      | (with_reducible exact LeO.none _)
      | (with_reducible refine LeO.ite ?_ ?_)
      | (with_reducible refine LeO.bind ?_ (fun _ => ?_))
      | exact ih0 _ _ _ _ _ _
      | exact op_Find.mono _ _
      | exact scan_Upper.mono _ _
      | exact tenterhooklaw07_awake.mono _
      | exact LeO.none _
      | refine LeO.ite ?_ ?_
      | refine LeO.bind ?_ (fun _ => ?_)
theorem tenterhooklaw07_OpFinds.mono : ∀ a0 a1 a2 k, LeO (tenterhooklaw07_OpFinds.f k a0 a1 a2) (tenterhooklaw07_OpFinds.f (k + 1) a0 a1 a2) := by
  intro a0 a1 a2 k
  have ih0 := tenterhooklaw07_OpFinds.mono_l k
  unfold tenterhooklaw07_OpFinds.f
  repeat' first
      | (with_reducible exact ih0 _ _ _ _ _ _)
      | (with_reducible exact op_Find.mono _ _)
      | (with_reducible exact scan_Upper.mono _ _)
      | (with_reducible exact tenterhooklaw07_awake.mono _)
      | (with_reducible exact LeO.refl _)
      | (with_reducible exact LeO.none _)
      | (with_reducible refine LeO.ite ?_ ?_)
      | (with_reducible refine LeO.bind ?_ (fun _ => ?_))
      | exact ih0 _ _ _ _ _ _
      | exact op_Find.mono _ _
      | exact scan_Upper.mono _ _
      | exact tenterhooklaw07_awake.mono _
      | exact LeO.none _
      | refine LeO.ite ?_ ?_
      | refine LeO.bind ?_ (fun _ => ?_)
set_option maxHeartbeats 8000000 in
set_option maxRecDepth 100000 in
theorem tenterhooklaw07_OpFinds.calls (k : Nat) (a0 : Int) (a1 : Int) (a2 : ByteArray) (r : Bool) (w : World) (h : tenterhooklaw07_OpFinds.f k a0 a1 a2 = some r) :
    Calls Try.prog 4 #[.int .i64 a0, .int .i64 a1, .string a2] w fun e w' => e = .returned (.bool r) ∧ Below w.heap.size w w' := by
  have HB := Aside0.mk (Below.refl w.heap.size w)
  have H : ((tenterhooklaw07_awake.f k).bind fun t149 => (if (a2.size : Int) > 200 then (some t149) else ((op_Name.f (Int.tmod (Go.bits .and .i64 a0 65535) 111)).bind fun t150 => ((op_Find.f k t150).bind fun bt151 => ((op_Find.f k a2).bind fun bt153 => ((op_Hidden.f (Int.tmod (Go.bits .and .i64 a0 65535) 111)).bind fun t155 => (if (bt151.2 == t155) = true then (tenterhooklaw07_OpFinds.j0 k a2 t149 (Int.tmod (Go.bits .and .i64 a0 65535) 111) bt153.1 bt153.2 true) else (if bt151.2 = true then (if bt151.1 = (Int.tmod (Go.bits .and .i64 a0 65535) 111) then (if (Int.tmod (Go.bits .and .i64 a0 65535) 111) = (Int.tmod (Go.bits .and .i64 a1 65535) 111) then ((op_Name.f (Int.tmod (Go.bits .and .i64 a0 65535) 111)).bind fun t156 => (tenterhooklaw07_OpFinds.j0 k a2 t149 (Int.tmod (Go.bits .and .i64 a0 65535) 111) bt153.1 bt153.2 (t156.toList == ([] : List UInt8)))) else ((op_Name.f (Int.tmod (Go.bits .and .i64 a0 65535) 111)).bind fun t157 => ((op_Name.f (Int.tmod (Go.bits .and .i64 a1 65535) 111)).bind fun t158 => (if t157.toList = t158.toList then (tenterhooklaw07_OpFinds.j0 k a2 t149 (Int.tmod (Go.bits .and .i64 a0 65535) 111) bt153.1 bt153.2 true) else ((op_Name.f (Int.tmod (Go.bits .and .i64 a0 65535) 111)).bind fun t159 => (tenterhooklaw07_OpFinds.j0 k a2 t149 (Int.tmod (Go.bits .and .i64 a0 65535) 111) bt153.1 bt153.2 (t159.toList == ([] : List UInt8)))))))) else (tenterhooklaw07_OpFinds.j0 k a2 t149 (Int.tmod (Go.bits .and .i64 a0 65535) 111) bt153.1 bt153.2 true)) else (if (Int.tmod (Go.bits .and .i64 a0 65535) 111) = (Int.tmod (Go.bits .and .i64 a1 65535) 111) then ((op_Name.f (Int.tmod (Go.bits .and .i64 a0 65535) 111)).bind fun t160 => (tenterhooklaw07_OpFinds.j0 k a2 t149 (Int.tmod (Go.bits .and .i64 a0 65535) 111) bt153.1 bt153.2 (t160.toList == ([] : List UInt8)))) else ((op_Name.f (Int.tmod (Go.bits .and .i64 a0 65535) 111)).bind fun t161 => ((op_Name.f (Int.tmod (Go.bits .and .i64 a1 65535) 111)).bind fun t162 => (if t161.toList = t162.toList then (tenterhooklaw07_OpFinds.j0 k a2 t149 (Int.tmod (Go.bits .and .i64 a0 65535) 111) bt153.1 bt153.2 true) else ((op_Name.f (Int.tmod (Go.bits .and .i64 a0 65535) 111)).bind fun t163 => (tenterhooklaw07_OpFinds.j0 k a2 t149 (Int.tmod (Go.bits .and .i64 a0 65535) 111) bt153.1 bt153.2 (t163.toList == ([] : List UInt8)))))))))))))))) = some r := h
  clear h
  replace H := Option.bind_eq_some_iff.mp H
  obtain ⟨t149, A40, H⟩ := H
  replace H : (if (a2.size : Int) > 200 then (some t149) else ((op_Name.f (Int.tmod (Go.bits .and .i64 a0 65535) 111)).bind fun t150 => ((op_Find.f k t150).bind fun bt151 => ((op_Find.f k a2).bind fun bt153 => ((op_Hidden.f (Int.tmod (Go.bits .and .i64 a0 65535) 111)).bind fun t155 => (if (bt151.2 == t155) = true then (tenterhooklaw07_OpFinds.j0 k a2 t149 (Int.tmod (Go.bits .and .i64 a0 65535) 111) bt153.1 bt153.2 true) else (if bt151.2 = true then (if bt151.1 = (Int.tmod (Go.bits .and .i64 a0 65535) 111) then (if (Int.tmod (Go.bits .and .i64 a0 65535) 111) = (Int.tmod (Go.bits .and .i64 a1 65535) 111) then ((op_Name.f (Int.tmod (Go.bits .and .i64 a0 65535) 111)).bind fun t156 => (tenterhooklaw07_OpFinds.j0 k a2 t149 (Int.tmod (Go.bits .and .i64 a0 65535) 111) bt153.1 bt153.2 (t156.toList == ([] : List UInt8)))) else ((op_Name.f (Int.tmod (Go.bits .and .i64 a0 65535) 111)).bind fun t157 => ((op_Name.f (Int.tmod (Go.bits .and .i64 a1 65535) 111)).bind fun t158 => (if t157.toList = t158.toList then (tenterhooklaw07_OpFinds.j0 k a2 t149 (Int.tmod (Go.bits .and .i64 a0 65535) 111) bt153.1 bt153.2 true) else ((op_Name.f (Int.tmod (Go.bits .and .i64 a0 65535) 111)).bind fun t159 => (tenterhooklaw07_OpFinds.j0 k a2 t149 (Int.tmod (Go.bits .and .i64 a0 65535) 111) bt153.1 bt153.2 (t159.toList == ([] : List UInt8)))))))) else (tenterhooklaw07_OpFinds.j0 k a2 t149 (Int.tmod (Go.bits .and .i64 a0 65535) 111) bt153.1 bt153.2 true)) else (if (Int.tmod (Go.bits .and .i64 a0 65535) 111) = (Int.tmod (Go.bits .and .i64 a1 65535) 111) then ((op_Name.f (Int.tmod (Go.bits .and .i64 a0 65535) 111)).bind fun t160 => (tenterhooklaw07_OpFinds.j0 k a2 t149 (Int.tmod (Go.bits .and .i64 a0 65535) 111) bt153.1 bt153.2 (t160.toList == ([] : List UInt8)))) else ((op_Name.f (Int.tmod (Go.bits .and .i64 a0 65535) 111)).bind fun t161 => ((op_Name.f (Int.tmod (Go.bits .and .i64 a1 65535) 111)).bind fun t162 => (if t161.toList = t162.toList then (tenterhooklaw07_OpFinds.j0 k a2 t149 (Int.tmod (Go.bits .and .i64 a0 65535) 111) bt153.1 bt153.2 true) else ((op_Name.f (Int.tmod (Go.bits .and .i64 a0 65535) 111)).bind fun t163 => (tenterhooklaw07_OpFinds.j0 k a2 t149 (Int.tmod (Go.bits .and .i64 a0 65535) 111) bt153.1 bt153.2 (t163.toList == ([] : List UInt8))))))))))))))) = some r := H
  have A4 := Aside0.mk A40
  clear A40
  by_cases c5 : (a2.size : Int) > 200
  · rw [if_pos c5] at H
    have c5b0 : decide (200 < (a2.size : Int)) = true := decide_eq_true c5
    have c5b1 : decide (200 < a2.size) = true := decide_eq_true (by omega)
    clear c5
    obtain rfl := Option.some.inj H
    go_enter Try.func4, Try.ntmps4
    go_wp2_with (first | ((with_reducible refine gate_callee (f := 6) rfl ?_); refine goesL_ (some 14) rfl rfl Try.func6 (by kernel_rfl) rfl #[] rfl (by (try simp only [List.map_toArray, List.map_cons, List.map_nil]); first | done | rfl | (simp only [List.length_drop, List.length_take]; rfl)) ?_; (with_reducible refine (tenterhooklaw07_awake.calls k  t149 _ A4.out).mono ?_); rintro e w6 ⟨rfl, hb⟩; refine ⟨_, rfl, ?_⟩; have n0_ := Aside0.mk (below_step (by repeat (first | (with_reducible first | exact HB.out | apply below_alloc | apply pw_below_drewN | apply below_drew1) | exact HB.out)) hb); clear HB; have HB := n0_; clear n0_; (try clear hb); (try clear hb2); (try clear hk); (try clear hi)))
    go_ret
    exact ⟨by first | rfl | (simp [errW_none, errW_some] <;> rfl) | (simp [*, errW_none, errW_some] <;> rfl), by repeat (first | (with_reducible first | exact HB.out | apply below_alloc | apply pw_below_drewN | apply below_drew1) | exact HB.out)⟩
  · rw [if_neg c5] at H
    have c5b0 : decide (200 < (a2.size : Int)) = false := decide_eq_false c5
    have c5b1 : decide (200 < a2.size) = false := decide_eq_false (by omega)
    clear c5
    replace H := Option.bind_eq_some_iff.mp H
    obtain ⟨t150, A70, H⟩ := H
    replace H : ((op_Find.f k t150).bind fun bt151 => ((op_Find.f k a2).bind fun bt153 => ((op_Hidden.f (Int.tmod (Go.bits .and .i64 a0 65535) 111)).bind fun t155 => (if (bt151.2 == t155) = true then (tenterhooklaw07_OpFinds.j0 k a2 t149 (Int.tmod (Go.bits .and .i64 a0 65535) 111) bt153.1 bt153.2 true) else (if bt151.2 = true then (if bt151.1 = (Int.tmod (Go.bits .and .i64 a0 65535) 111) then (if (Int.tmod (Go.bits .and .i64 a0 65535) 111) = (Int.tmod (Go.bits .and .i64 a1 65535) 111) then ((op_Name.f (Int.tmod (Go.bits .and .i64 a0 65535) 111)).bind fun t156 => (tenterhooklaw07_OpFinds.j0 k a2 t149 (Int.tmod (Go.bits .and .i64 a0 65535) 111) bt153.1 bt153.2 (t156.toList == ([] : List UInt8)))) else ((op_Name.f (Int.tmod (Go.bits .and .i64 a0 65535) 111)).bind fun t157 => ((op_Name.f (Int.tmod (Go.bits .and .i64 a1 65535) 111)).bind fun t158 => (if t157.toList = t158.toList then (tenterhooklaw07_OpFinds.j0 k a2 t149 (Int.tmod (Go.bits .and .i64 a0 65535) 111) bt153.1 bt153.2 true) else ((op_Name.f (Int.tmod (Go.bits .and .i64 a0 65535) 111)).bind fun t159 => (tenterhooklaw07_OpFinds.j0 k a2 t149 (Int.tmod (Go.bits .and .i64 a0 65535) 111) bt153.1 bt153.2 (t159.toList == ([] : List UInt8)))))))) else (tenterhooklaw07_OpFinds.j0 k a2 t149 (Int.tmod (Go.bits .and .i64 a0 65535) 111) bt153.1 bt153.2 true)) else (if (Int.tmod (Go.bits .and .i64 a0 65535) 111) = (Int.tmod (Go.bits .and .i64 a1 65535) 111) then ((op_Name.f (Int.tmod (Go.bits .and .i64 a0 65535) 111)).bind fun t160 => (tenterhooklaw07_OpFinds.j0 k a2 t149 (Int.tmod (Go.bits .and .i64 a0 65535) 111) bt153.1 bt153.2 (t160.toList == ([] : List UInt8)))) else ((op_Name.f (Int.tmod (Go.bits .and .i64 a0 65535) 111)).bind fun t161 => ((op_Name.f (Int.tmod (Go.bits .and .i64 a1 65535) 111)).bind fun t162 => (if t161.toList = t162.toList then (tenterhooklaw07_OpFinds.j0 k a2 t149 (Int.tmod (Go.bits .and .i64 a0 65535) 111) bt153.1 bt153.2 true) else ((op_Name.f (Int.tmod (Go.bits .and .i64 a0 65535) 111)).bind fun t163 => (tenterhooklaw07_OpFinds.j0 k a2 t149 (Int.tmod (Go.bits .and .i64 a0 65535) 111) bt153.1 bt153.2 (t163.toList == ([] : List UInt8))))))))))))) = some r := H
    have A7 := Aside0.mk A70
    clear A70
    replace H := Option.bind_eq_some_iff.mp H
    obtain ⟨⟨t151, t152⟩, A80, H⟩ := H
    replace H : ((op_Find.f k a2).bind fun bt153 => ((op_Hidden.f (Int.tmod (Go.bits .and .i64 a0 65535) 111)).bind fun t155 => (if (t152 == t155) = true then (tenterhooklaw07_OpFinds.j0 k a2 t149 (Int.tmod (Go.bits .and .i64 a0 65535) 111) bt153.1 bt153.2 true) else (if t152 = true then (if t151 = (Int.tmod (Go.bits .and .i64 a0 65535) 111) then (if (Int.tmod (Go.bits .and .i64 a0 65535) 111) = (Int.tmod (Go.bits .and .i64 a1 65535) 111) then ((op_Name.f (Int.tmod (Go.bits .and .i64 a0 65535) 111)).bind fun t156 => (tenterhooklaw07_OpFinds.j0 k a2 t149 (Int.tmod (Go.bits .and .i64 a0 65535) 111) bt153.1 bt153.2 (t156.toList == ([] : List UInt8)))) else ((op_Name.f (Int.tmod (Go.bits .and .i64 a0 65535) 111)).bind fun t157 => ((op_Name.f (Int.tmod (Go.bits .and .i64 a1 65535) 111)).bind fun t158 => (if t157.toList = t158.toList then (tenterhooklaw07_OpFinds.j0 k a2 t149 (Int.tmod (Go.bits .and .i64 a0 65535) 111) bt153.1 bt153.2 true) else ((op_Name.f (Int.tmod (Go.bits .and .i64 a0 65535) 111)).bind fun t159 => (tenterhooklaw07_OpFinds.j0 k a2 t149 (Int.tmod (Go.bits .and .i64 a0 65535) 111) bt153.1 bt153.2 (t159.toList == ([] : List UInt8)))))))) else (tenterhooklaw07_OpFinds.j0 k a2 t149 (Int.tmod (Go.bits .and .i64 a0 65535) 111) bt153.1 bt153.2 true)) else (if (Int.tmod (Go.bits .and .i64 a0 65535) 111) = (Int.tmod (Go.bits .and .i64 a1 65535) 111) then ((op_Name.f (Int.tmod (Go.bits .and .i64 a0 65535) 111)).bind fun t160 => (tenterhooklaw07_OpFinds.j0 k a2 t149 (Int.tmod (Go.bits .and .i64 a0 65535) 111) bt153.1 bt153.2 (t160.toList == ([] : List UInt8)))) else ((op_Name.f (Int.tmod (Go.bits .and .i64 a0 65535) 111)).bind fun t161 => ((op_Name.f (Int.tmod (Go.bits .and .i64 a1 65535) 111)).bind fun t162 => (if t161.toList = t162.toList then (tenterhooklaw07_OpFinds.j0 k a2 t149 (Int.tmod (Go.bits .and .i64 a0 65535) 111) bt153.1 bt153.2 true) else ((op_Name.f (Int.tmod (Go.bits .and .i64 a0 65535) 111)).bind fun t163 => (tenterhooklaw07_OpFinds.j0 k a2 t149 (Int.tmod (Go.bits .and .i64 a0 65535) 111) bt153.1 bt153.2 (t163.toList == ([] : List UInt8)))))))))))) = some r := H
    have A8 := Aside0.mk A80
    clear A80
    replace H := Option.bind_eq_some_iff.mp H
    obtain ⟨⟨t153, t154⟩, A90, H⟩ := H
    replace H : ((op_Hidden.f (Int.tmod (Go.bits .and .i64 a0 65535) 111)).bind fun t155 => (if (t152 == t155) = true then (tenterhooklaw07_OpFinds.j0 k a2 t149 (Int.tmod (Go.bits .and .i64 a0 65535) 111) t153 t154 true) else (if t152 = true then (if t151 = (Int.tmod (Go.bits .and .i64 a0 65535) 111) then (if (Int.tmod (Go.bits .and .i64 a0 65535) 111) = (Int.tmod (Go.bits .and .i64 a1 65535) 111) then ((op_Name.f (Int.tmod (Go.bits .and .i64 a0 65535) 111)).bind fun t156 => (tenterhooklaw07_OpFinds.j0 k a2 t149 (Int.tmod (Go.bits .and .i64 a0 65535) 111) t153 t154 (t156.toList == ([] : List UInt8)))) else ((op_Name.f (Int.tmod (Go.bits .and .i64 a0 65535) 111)).bind fun t157 => ((op_Name.f (Int.tmod (Go.bits .and .i64 a1 65535) 111)).bind fun t158 => (if t157.toList = t158.toList then (tenterhooklaw07_OpFinds.j0 k a2 t149 (Int.tmod (Go.bits .and .i64 a0 65535) 111) t153 t154 true) else ((op_Name.f (Int.tmod (Go.bits .and .i64 a0 65535) 111)).bind fun t159 => (tenterhooklaw07_OpFinds.j0 k a2 t149 (Int.tmod (Go.bits .and .i64 a0 65535) 111) t153 t154 (t159.toList == ([] : List UInt8)))))))) else (tenterhooklaw07_OpFinds.j0 k a2 t149 (Int.tmod (Go.bits .and .i64 a0 65535) 111) t153 t154 true)) else (if (Int.tmod (Go.bits .and .i64 a0 65535) 111) = (Int.tmod (Go.bits .and .i64 a1 65535) 111) then ((op_Name.f (Int.tmod (Go.bits .and .i64 a0 65535) 111)).bind fun t160 => (tenterhooklaw07_OpFinds.j0 k a2 t149 (Int.tmod (Go.bits .and .i64 a0 65535) 111) t153 t154 (t160.toList == ([] : List UInt8)))) else ((op_Name.f (Int.tmod (Go.bits .and .i64 a0 65535) 111)).bind fun t161 => ((op_Name.f (Int.tmod (Go.bits .and .i64 a1 65535) 111)).bind fun t162 => (if t161.toList = t162.toList then (tenterhooklaw07_OpFinds.j0 k a2 t149 (Int.tmod (Go.bits .and .i64 a0 65535) 111) t153 t154 true) else ((op_Name.f (Int.tmod (Go.bits .and .i64 a0 65535) 111)).bind fun t163 => (tenterhooklaw07_OpFinds.j0 k a2 t149 (Int.tmod (Go.bits .and .i64 a0 65535) 111) t153 t154 (t163.toList == ([] : List UInt8))))))))))) = some r := H
    have A9 := Aside0.mk A90
    clear A90
    have HC10 := Aside0.mk H
    clear H
    go_enter Try.func4, Try.ntmps4
    go_upto_region 8 with (first | ((with_reducible refine gate_callee (f := 6) rfl ?_); refine goesL_ (some 14) rfl rfl Try.func6 (by kernel_rfl) rfl #[] rfl (by (try simp only [List.map_toArray, List.map_cons, List.map_nil]); first | done | rfl | (simp only [List.length_drop, List.length_take]; rfl)) ?_; (with_reducible refine (tenterhooklaw07_awake.calls k  t149 _ A4.out).mono ?_); rintro e w11 ⟨rfl, hb⟩; refine ⟨_, rfl, ?_⟩; have n0_ := Aside0.mk (below_step (by repeat (first | (with_reducible first | exact HB.out | apply below_alloc | apply pw_below_drewN | apply below_drew1) | exact HB.out)) hb); clear HB; have HB := n0_; clear n0_; (try clear hb); (try clear hb2); (try clear hk); (try clear hi)) | ((with_reducible refine gate_callee (f := 11) rfl ?_); refine goesL_ (some 27) rfl rfl Try.func11 (by kernel_rfl) rfl #[.int .i64 (Int.tmod (Go.bits .and .i64 a0 65535) 111)] rfl (by (try simp only [List.map_toArray, List.map_cons, List.map_nil]); first | done | rfl | (simp only [List.length_drop, List.length_take]; rfl)) ?_; (with_reducible refine (op_Name.calls (Int.tmod (Go.bits .and .i64 a0 65535) 111) t150 _ A7.out).mono ?_); rintro e w12 ⟨rfl, hb⟩; refine ⟨_, rfl, ?_⟩; have n0_ := Aside0.mk (below_step (by repeat (first | (with_reducible first | exact HB.out | apply below_alloc | apply pw_below_drewN | apply below_drew1) | exact HB.out)) hb); clear HB; have HB := n0_; clear n0_; (try clear hb); (try clear hb2); (try clear hk); (try clear hi)) | ((with_reducible refine gate_callee (f := 7) rfl ?_); refine goesL_ (some 28) rfl rfl Try.func7 (by kernel_rfl) rfl #[.string t150] rfl (by (try simp only [List.map_toArray, List.map_cons, List.map_nil]); first | done | rfl | (simp only [List.length_drop, List.length_take]; rfl)) ?_; (with_reducible refine (op_Find.calls k t150 t151 t152 _ A8.out).mono ?_); rintro e w13 ⟨rfl, hb⟩; refine ⟨_, rfl, ?_⟩; have n0_ := Aside0.mk (below_step (by repeat (first | (with_reducible first | exact HB.out | apply below_alloc | apply pw_below_drewN | apply below_drew1) | exact HB.out)) hb); clear HB; have HB := n0_; clear n0_; (try clear hb); (try clear hb2); (try clear hk); (try clear hi)) | ((with_reducible refine gate_callee (f := 7) rfl ?_); refine goesL_ (some 33) rfl rfl Try.func7 (by kernel_rfl) rfl #[.string a2] rfl (by (try simp only [List.map_toArray, List.map_cons, List.map_nil]); first | done | rfl | (simp only [List.length_drop, List.length_take]; rfl)) ?_; (with_reducible refine (op_Find.calls k a2 t153 t154 _ A9.out).mono ?_); rintro e w14 ⟨rfl, hb⟩; refine ⟨_, rfl, ?_⟩; have n0_ := Aside0.mk (below_step (by repeat (first | (with_reducible first | exact HB.out | apply below_alloc | apply pw_below_drewN | apply below_drew1) | exact HB.out)) hb); clear HB; have HB := n0_; clear n0_; (try clear hb); (try clear hb2); (try clear hk); (try clear hi)))
    (try simp only [Act.put, List.setIfInBounds_toArray, List.set_cons_zero, List.set_cons_succ])
    go_cut [64] (fun v64 wc => ∃ (kq : Nat) (x64_9 : Bool), v64 = .bool x64_9 ∧ Aside0 (tenterhooklaw07_OpFinds.j0 kq a2 t149 (Int.tmod (Go.bits .and .i64 a0 65535) 111) t153 t154 x64_9 = some r) ∧ Aside0 (kq ≤ k) ∧ Aside0 (Below w.heap.size w wc))
    case first =>
      have H := HC10.out
      clear HC10
      replace H := Option.bind_eq_some_iff.mp H
      obtain ⟨t155, A150, H⟩ := H
      replace H : (if (t152 == t155) = true then (tenterhooklaw07_OpFinds.j0 k a2 t149 (Int.tmod (Go.bits .and .i64 a0 65535) 111) t153 t154 true) else (if t152 = true then (if t151 = (Int.tmod (Go.bits .and .i64 a0 65535) 111) then (if (Int.tmod (Go.bits .and .i64 a0 65535) 111) = (Int.tmod (Go.bits .and .i64 a1 65535) 111) then ((op_Name.f (Int.tmod (Go.bits .and .i64 a0 65535) 111)).bind fun t156 => (tenterhooklaw07_OpFinds.j0 k a2 t149 (Int.tmod (Go.bits .and .i64 a0 65535) 111) t153 t154 (t156.toList == ([] : List UInt8)))) else ((op_Name.f (Int.tmod (Go.bits .and .i64 a0 65535) 111)).bind fun t157 => ((op_Name.f (Int.tmod (Go.bits .and .i64 a1 65535) 111)).bind fun t158 => (if t157.toList = t158.toList then (tenterhooklaw07_OpFinds.j0 k a2 t149 (Int.tmod (Go.bits .and .i64 a0 65535) 111) t153 t154 true) else ((op_Name.f (Int.tmod (Go.bits .and .i64 a0 65535) 111)).bind fun t159 => (tenterhooklaw07_OpFinds.j0 k a2 t149 (Int.tmod (Go.bits .and .i64 a0 65535) 111) t153 t154 (t159.toList == ([] : List UInt8)))))))) else (tenterhooklaw07_OpFinds.j0 k a2 t149 (Int.tmod (Go.bits .and .i64 a0 65535) 111) t153 t154 true)) else (if (Int.tmod (Go.bits .and .i64 a0 65535) 111) = (Int.tmod (Go.bits .and .i64 a1 65535) 111) then ((op_Name.f (Int.tmod (Go.bits .and .i64 a0 65535) 111)).bind fun t160 => (tenterhooklaw07_OpFinds.j0 k a2 t149 (Int.tmod (Go.bits .and .i64 a0 65535) 111) t153 t154 (t160.toList == ([] : List UInt8)))) else ((op_Name.f (Int.tmod (Go.bits .and .i64 a0 65535) 111)).bind fun t161 => ((op_Name.f (Int.tmod (Go.bits .and .i64 a1 65535) 111)).bind fun t162 => (if t161.toList = t162.toList then (tenterhooklaw07_OpFinds.j0 k a2 t149 (Int.tmod (Go.bits .and .i64 a0 65535) 111) t153 t154 true) else ((op_Name.f (Int.tmod (Go.bits .and .i64 a0 65535) 111)).bind fun t163 => (tenterhooklaw07_OpFinds.j0 k a2 t149 (Int.tmod (Go.bits .and .i64 a0 65535) 111) t153 t154 (t163.toList == ([] : List UInt8)))))))))) = some r := H
      have A15 := Aside0.mk A150
      clear A150
      by_cases c16 : (t152 == t155) = true
      · rw [if_pos c16] at H
        have c16b0 : (t152 == t155) = true := c16
        (try (have c16b1 : decide (t152 = t155) = true := by simpa using c16))
        (try (have c16b2 : (t152 == t155) = true := by simpa using c16))
        clear c16
        (first | rw [c16b0] | (simp only [i64_w, i32_w]; rw [c16b0]) | skip)
        have H' := Aside0.mk H
        clear H
        go_wp2_with (first | ((with_reducible refine gate_callee (f := 17) rfl ?_); refine goesL_ (some 38) rfl rfl Try.func17 (by kernel_rfl) rfl #[.int .i64 (Int.tmod (Go.bits .and .i64 a0 65535) 111)] rfl (by (try simp only [List.map_toArray, List.map_cons, List.map_nil]); first | done | rfl | (simp only [List.length_drop, List.length_take]; rfl)) ?_; (with_reducible refine (op_Hidden.calls (Int.tmod (Go.bits .and .i64 a0 65535) 111) t155 _ A15.out).mono ?_); rintro e w17 ⟨rfl, hb⟩; refine ⟨_, rfl, ?_⟩; have n0_ := Aside0.mk (below_step (by repeat (first | (with_reducible first | exact HB.out | apply below_alloc | apply pw_below_drewN | apply below_drew1) | exact HB.out)) hb); clear HB; have HB := n0_; clear n0_; (try clear hb); (try clear hb2); (try clear hk); (try clear hi)))
        go_meet
        case rel => exact ⟨_, (true), (by first | rfl | (simp; done) | (simp [*]; done)), H', ⟨by first | omega | exact Nat.le_refl _⟩, ⟨by repeat (first | (with_reducible first | exact HB.out | apply below_alloc | apply pw_below_drewN | apply below_drew1) | exact HB.out)⟩⟩
      · rw [if_neg c16] at H
        have c16b0 : (t152 == t155) = false := by simpa using c16
        (try (have c16b1 : decide (t152 = t155) = false := by simpa using c16))
        (try (have c16b2 : (t152 == t155) = false := by simpa using c16))
        (try (have c16b3 : ¬ (t152 = t155) := by simpa using c16))
        clear c16
        (first | rw [c16b0] | (simp only [i64_w, i32_w]; rw [c16b0]) | skip)
        by_cases c18 : t152 = true
        · subst c18
          have H1 : (if t151 = (Int.tmod (Go.bits .and .i64 a0 65535) 111) then (if (Int.tmod (Go.bits .and .i64 a0 65535) 111) = (Int.tmod (Go.bits .and .i64 a1 65535) 111) then ((op_Name.f (Int.tmod (Go.bits .and .i64 a0 65535) 111)).bind fun t156 => (tenterhooklaw07_OpFinds.j0 k a2 t149 (Int.tmod (Go.bits .and .i64 a0 65535) 111) t153 t154 (t156.toList == ([] : List UInt8)))) else ((op_Name.f (Int.tmod (Go.bits .and .i64 a0 65535) 111)).bind fun t157 => ((op_Name.f (Int.tmod (Go.bits .and .i64 a1 65535) 111)).bind fun t158 => (if t157.toList = t158.toList then (tenterhooklaw07_OpFinds.j0 k a2 t149 (Int.tmod (Go.bits .and .i64 a0 65535) 111) t153 t154 true) else ((op_Name.f (Int.tmod (Go.bits .and .i64 a0 65535) 111)).bind fun t159 => (tenterhooklaw07_OpFinds.j0 k a2 t149 (Int.tmod (Go.bits .and .i64 a0 65535) 111) t153 t154 (t159.toList == ([] : List UInt8)))))))) else (tenterhooklaw07_OpFinds.j0 k a2 t149 (Int.tmod (Go.bits .and .i64 a0 65535) 111) t153 t154 true)) = some r := by rw [if_pos rfl] at H; exact H
          clear H
          have H := H1
          clear H1
          by_cases c19 : t151 = (Int.tmod (Go.bits .and .i64 a0 65535) 111)
          · rw [if_pos c19] at H
            have c19b0 : (t151 == (Int.tmod (Go.bits .and .i64 a0 65535) 111)) = true := beq_iff_eq.mpr c19
            have c19b1 : (t151 != (Int.tmod (Go.bits .and .i64 a0 65535) 111)) = false := bne_eq_false_iff_eq.mpr c19
            clear c19
            by_cases c20 : (Int.tmod (Go.bits .and .i64 a0 65535) 111) = (Int.tmod (Go.bits .and .i64 a1 65535) 111)
            · rw [if_pos c20] at H
              have c20b0 : ((Int.tmod (Go.bits .and .i64 a0 65535) 111) == (Int.tmod (Go.bits .and .i64 a1 65535) 111)) = true := beq_iff_eq.mpr c20
              have c20b1 : ((Int.tmod (Go.bits .and .i64 a0 65535) 111) != (Int.tmod (Go.bits .and .i64 a1 65535) 111)) = false := bne_eq_false_iff_eq.mpr c20
              clear c20
              replace H := Option.bind_eq_some_iff.mp H
              obtain ⟨t156, A210, H⟩ := H
              replace H : (tenterhooklaw07_OpFinds.j0 k a2 t149 (Int.tmod (Go.bits .and .i64 a0 65535) 111) t153 t154 (t156.toList == ([] : List UInt8))) = some r := H
              have A21 := Aside0.mk A210
              clear A210
              have e_ := A7.out.symm.trans A21.out
              simp only [Option.some.injEq, Prod.mk.injEq] at e_
              obtain rfl := e_
              have H' := Aside0.mk H
              clear H
              go_wp2_with (first | ((with_reducible refine gate_callee (f := 17) rfl ?_); refine goesL_ (some 38) rfl rfl Try.func17 (by kernel_rfl) rfl #[.int .i64 (Int.tmod (Go.bits .and .i64 a0 65535) 111)] rfl (by (try simp only [List.map_toArray, List.map_cons, List.map_nil]); first | done | rfl | (simp only [List.length_drop, List.length_take]; rfl)) ?_; (with_reducible refine (op_Hidden.calls (Int.tmod (Go.bits .and .i64 a0 65535) 111) t155 _ A15.out).mono ?_); rintro e w22 ⟨rfl, hb⟩; refine ⟨_, rfl, ?_⟩; have n0_ := Aside0.mk (below_step (by repeat (first | (with_reducible first | exact HB.out | apply below_alloc | apply pw_below_drewN | apply below_drew1) | exact HB.out)) hb); clear HB; have HB := n0_; clear n0_; (try clear hb); (try clear hb2); (try clear hk); (try clear hi)) | (go_at_call 11; (with_reducible refine (op_Name.calls (Int.tmod (Go.bits .and .i64 a0 65535) 111) t150 _ A21.out).mono ?_); rintro e w23 ⟨rfl, hb⟩; have n0_ := Aside0.mk (below_step (by repeat (first | (with_reducible first | exact HB.out | apply below_alloc | apply pw_below_drewN | apply below_drew1) | exact HB.out)) hb); clear HB; have HB := n0_; clear n0_; (try clear hb); (try clear hb2); (try clear hk); (try clear hi)))
              go_meet
              case rel => exact ⟨_, ((t150.toList == ([] : List UInt8))), (by first | rfl | (simp; done) | (simp [*]; done)), H', ⟨by first | omega | exact Nat.le_refl _⟩, ⟨by repeat (first | (with_reducible first | exact HB.out | apply below_alloc | apply pw_below_drewN | apply below_drew1) | exact HB.out)⟩⟩
            · rw [if_neg c20] at H
              have c20b0 : ((Int.tmod (Go.bits .and .i64 a0 65535) 111) == (Int.tmod (Go.bits .and .i64 a1 65535) 111)) = false := beq_eq_false_iff_ne.mpr c20
              have c20b1 : ((Int.tmod (Go.bits .and .i64 a0 65535) 111) != (Int.tmod (Go.bits .and .i64 a1 65535) 111)) = true := bne_iff_ne.mpr c20
              replace H := Option.bind_eq_some_iff.mp H
              obtain ⟨t157, A240, H⟩ := H
              replace H : ((op_Name.f (Int.tmod (Go.bits .and .i64 a1 65535) 111)).bind fun t158 => (if t157.toList = t158.toList then (tenterhooklaw07_OpFinds.j0 k a2 t149 (Int.tmod (Go.bits .and .i64 a0 65535) 111) t153 t154 true) else ((op_Name.f (Int.tmod (Go.bits .and .i64 a0 65535) 111)).bind fun t159 => (tenterhooklaw07_OpFinds.j0 k a2 t149 (Int.tmod (Go.bits .and .i64 a0 65535) 111) t153 t154 (t159.toList == ([] : List UInt8)))))) = some r := H
              have A24 := Aside0.mk A240
              clear A240
              have e_ := A7.out.symm.trans A24.out
              simp only [Option.some.injEq, Prod.mk.injEq] at e_
              obtain rfl := e_
              replace H := Option.bind_eq_some_iff.mp H
              obtain ⟨t158, A250, H⟩ := H
              replace H : (if t150.toList = t158.toList then (tenterhooklaw07_OpFinds.j0 k a2 t149 (Int.tmod (Go.bits .and .i64 a0 65535) 111) t153 t154 true) else ((op_Name.f (Int.tmod (Go.bits .and .i64 a0 65535) 111)).bind fun t159 => (tenterhooklaw07_OpFinds.j0 k a2 t149 (Int.tmod (Go.bits .and .i64 a0 65535) 111) t153 t154 (t159.toList == ([] : List UInt8))))) = some r := H
              have A25 := Aside0.mk A250
              clear A250
              by_cases c26 : t150.toList = t158.toList
              · rw [if_pos c26] at H
                have c26b0 : (t150.toList == t158.toList) = true := beq_iff_eq.mpr c26
                have c26b1 : (t150.toList != t158.toList) = false := bne_eq_false_iff_eq.mpr c26
                clear c26
                have H' := Aside0.mk H
                clear H
                go_wp2_with (first | ((with_reducible refine gate_callee (f := 17) rfl ?_); refine goesL_ (some 38) rfl rfl Try.func17 (by kernel_rfl) rfl #[.int .i64 (Int.tmod (Go.bits .and .i64 a0 65535) 111)] rfl (by (try simp only [List.map_toArray, List.map_cons, List.map_nil]); first | done | rfl | (simp only [List.length_drop, List.length_take]; rfl)) ?_; (with_reducible refine (op_Hidden.calls (Int.tmod (Go.bits .and .i64 a0 65535) 111) t155 _ A15.out).mono ?_); rintro e w27 ⟨rfl, hb⟩; refine ⟨_, rfl, ?_⟩; have n0_ := Aside0.mk (below_step (by repeat (first | (with_reducible first | exact HB.out | apply below_alloc | apply pw_below_drewN | apply below_drew1) | exact HB.out)) hb); clear HB; have HB := n0_; clear n0_; (try clear hb); (try clear hb2); (try clear hk); (try clear hi)) | (go_at_call 11; (with_reducible refine (op_Name.calls (Int.tmod (Go.bits .and .i64 a0 65535) 111) t150 _ A24.out).mono ?_); rintro e w28 ⟨rfl, hb⟩; have n0_ := Aside0.mk (below_step (by repeat (first | (with_reducible first | exact HB.out | apply below_alloc | apply pw_below_drewN | apply below_drew1) | exact HB.out)) hb); clear HB; have HB := n0_; clear n0_; (try clear hb); (try clear hb2); (try clear hk); (try clear hi)) | (go_at_call 11; (with_reducible refine (op_Name.calls (Int.tmod (Go.bits .and .i64 a1 65535) 111) t158 _ A25.out).mono ?_); rintro e w29 ⟨rfl, hb⟩; have n0_ := Aside0.mk (below_step (by repeat (first | (with_reducible first | exact HB.out | apply below_alloc | apply pw_below_drewN | apply below_drew1) | exact HB.out)) hb); clear HB; have HB := n0_; clear n0_; (try clear hb); (try clear hb2); (try clear hk); (try clear hi)))
                go_meet
                case rel => exact ⟨_, (true), (by first | rfl | (simp; done) | (simp [*]; done)), H', ⟨by first | omega | exact Nat.le_refl _⟩, ⟨by repeat (first | (with_reducible first | exact HB.out | apply below_alloc | apply pw_below_drewN | apply below_drew1) | exact HB.out)⟩⟩
              · rw [if_neg c26] at H
                have c26b0 : (t150.toList == t158.toList) = false := beq_eq_false_iff_ne.mpr c26
                have c26b1 : (t150.toList != t158.toList) = true := bne_iff_ne.mpr c26
                replace H := Option.bind_eq_some_iff.mp H
                obtain ⟨t159, A300, H⟩ := H
                replace H : (tenterhooklaw07_OpFinds.j0 k a2 t149 (Int.tmod (Go.bits .and .i64 a0 65535) 111) t153 t154 (t159.toList == ([] : List UInt8))) = some r := H
                have A30 := Aside0.mk A300
                clear A300
                have e_ := A7.out.symm.trans A30.out
                simp only [Option.some.injEq, Prod.mk.injEq] at e_
                obtain rfl := e_
                have H' := Aside0.mk H
                clear H
                go_wp2_with (first | ((with_reducible refine gate_callee (f := 17) rfl ?_); refine goesL_ (some 38) rfl rfl Try.func17 (by kernel_rfl) rfl #[.int .i64 (Int.tmod (Go.bits .and .i64 a0 65535) 111)] rfl (by (try simp only [List.map_toArray, List.map_cons, List.map_nil]); first | done | rfl | (simp only [List.length_drop, List.length_take]; rfl)) ?_; (with_reducible refine (op_Hidden.calls (Int.tmod (Go.bits .and .i64 a0 65535) 111) t155 _ A15.out).mono ?_); rintro e w31 ⟨rfl, hb⟩; refine ⟨_, rfl, ?_⟩; have n0_ := Aside0.mk (below_step (by repeat (first | (with_reducible first | exact HB.out | apply below_alloc | apply pw_below_drewN | apply below_drew1) | exact HB.out)) hb); clear HB; have HB := n0_; clear n0_; (try clear hb); (try clear hb2); (try clear hk); (try clear hi)) | (go_at_call 11; (with_reducible refine (op_Name.calls (Int.tmod (Go.bits .and .i64 a0 65535) 111) t150 _ A24.out).mono ?_); rintro e w32 ⟨rfl, hb⟩; have n0_ := Aside0.mk (below_step (by repeat (first | (with_reducible first | exact HB.out | apply below_alloc | apply pw_below_drewN | apply below_drew1) | exact HB.out)) hb); clear HB; have HB := n0_; clear n0_; (try clear hb); (try clear hb2); (try clear hk); (try clear hi)) | (go_at_call 11; (with_reducible refine (op_Name.calls (Int.tmod (Go.bits .and .i64 a1 65535) 111) t158 _ A25.out).mono ?_); rintro e w33 ⟨rfl, hb⟩; have n0_ := Aside0.mk (below_step (by repeat (first | (with_reducible first | exact HB.out | apply below_alloc | apply pw_below_drewN | apply below_drew1) | exact HB.out)) hb); clear HB; have HB := n0_; clear n0_; (try clear hb); (try clear hb2); (try clear hk); (try clear hi)) | (go_at_call 11; (with_reducible refine (op_Name.calls (Int.tmod (Go.bits .and .i64 a0 65535) 111) t150 _ A30.out).mono ?_); rintro e w34 ⟨rfl, hb⟩; have n0_ := Aside0.mk (below_step (by repeat (first | (with_reducible first | exact HB.out | apply below_alloc | apply pw_below_drewN | apply below_drew1) | exact HB.out)) hb); clear HB; have HB := n0_; clear n0_; (try clear hb); (try clear hb2); (try clear hk); (try clear hi)))
                go_meet
                case rel => exact ⟨_, ((t150.toList == ([] : List UInt8))), (by first | rfl | (simp; done) | (simp [*]; done)), H', ⟨by first | omega | exact Nat.le_refl _⟩, ⟨by repeat (first | (with_reducible first | exact HB.out | apply below_alloc | apply pw_below_drewN | apply below_drew1) | exact HB.out)⟩⟩
          · rw [if_neg c19] at H
            have c19b0 : (t151 == (Int.tmod (Go.bits .and .i64 a0 65535) 111)) = false := beq_eq_false_iff_ne.mpr c19
            have c19b1 : (t151 != (Int.tmod (Go.bits .and .i64 a0 65535) 111)) = true := bne_iff_ne.mpr c19
            have H' := Aside0.mk H
            clear H
            go_wp2_with (first | ((with_reducible refine gate_callee (f := 17) rfl ?_); refine goesL_ (some 38) rfl rfl Try.func17 (by kernel_rfl) rfl #[.int .i64 (Int.tmod (Go.bits .and .i64 a0 65535) 111)] rfl (by (try simp only [List.map_toArray, List.map_cons, List.map_nil]); first | done | rfl | (simp only [List.length_drop, List.length_take]; rfl)) ?_; (with_reducible refine (op_Hidden.calls (Int.tmod (Go.bits .and .i64 a0 65535) 111) t155 _ A15.out).mono ?_); rintro e w35 ⟨rfl, hb⟩; refine ⟨_, rfl, ?_⟩; have n0_ := Aside0.mk (below_step (by repeat (first | (with_reducible first | exact HB.out | apply below_alloc | apply pw_below_drewN | apply below_drew1) | exact HB.out)) hb); clear HB; have HB := n0_; clear n0_; (try clear hb); (try clear hb2); (try clear hk); (try clear hi)))
            go_meet
            case rel => exact ⟨_, (true), (by first | rfl | (simp; done) | (simp [*]; done)), H', ⟨by first | omega | exact Nat.le_refl _⟩, ⟨by repeat (first | (with_reducible first | exact HB.out | apply below_alloc | apply pw_below_drewN | apply below_drew1) | exact HB.out)⟩⟩
        · replace c18 := Bool.eq_false_iff.mpr c18
          subst c18
          have H1 : (if (Int.tmod (Go.bits .and .i64 a0 65535) 111) = (Int.tmod (Go.bits .and .i64 a1 65535) 111) then ((op_Name.f (Int.tmod (Go.bits .and .i64 a0 65535) 111)).bind fun t160 => (tenterhooklaw07_OpFinds.j0 k a2 t149 (Int.tmod (Go.bits .and .i64 a0 65535) 111) t153 t154 (t160.toList == ([] : List UInt8)))) else ((op_Name.f (Int.tmod (Go.bits .and .i64 a0 65535) 111)).bind fun t161 => ((op_Name.f (Int.tmod (Go.bits .and .i64 a1 65535) 111)).bind fun t162 => (if t161.toList = t162.toList then (tenterhooklaw07_OpFinds.j0 k a2 t149 (Int.tmod (Go.bits .and .i64 a0 65535) 111) t153 t154 true) else ((op_Name.f (Int.tmod (Go.bits .and .i64 a0 65535) 111)).bind fun t163 => (tenterhooklaw07_OpFinds.j0 k a2 t149 (Int.tmod (Go.bits .and .i64 a0 65535) 111) t153 t154 (t163.toList == ([] : List UInt8)))))))) = some r := by rw [if_neg (show ¬ (false = true) by decide)] at H; exact H
          clear H
          have H := H1
          clear H1
          by_cases c36 : (Int.tmod (Go.bits .and .i64 a0 65535) 111) = (Int.tmod (Go.bits .and .i64 a1 65535) 111)
          · rw [if_pos c36] at H
            have c36b0 : ((Int.tmod (Go.bits .and .i64 a0 65535) 111) == (Int.tmod (Go.bits .and .i64 a1 65535) 111)) = true := beq_iff_eq.mpr c36
            have c36b1 : ((Int.tmod (Go.bits .and .i64 a0 65535) 111) != (Int.tmod (Go.bits .and .i64 a1 65535) 111)) = false := bne_eq_false_iff_eq.mpr c36
            clear c36
            replace H := Option.bind_eq_some_iff.mp H
            obtain ⟨t160, A370, H⟩ := H
            replace H : (tenterhooklaw07_OpFinds.j0 k a2 t149 (Int.tmod (Go.bits .and .i64 a0 65535) 111) t153 t154 (t160.toList == ([] : List UInt8))) = some r := H
            have A37 := Aside0.mk A370
            clear A370
            have e_ := A7.out.symm.trans A37.out
            simp only [Option.some.injEq, Prod.mk.injEq] at e_
            obtain rfl := e_
            have H' := Aside0.mk H
            clear H
            go_wp2_with (first | ((with_reducible refine gate_callee (f := 17) rfl ?_); refine goesL_ (some 38) rfl rfl Try.func17 (by kernel_rfl) rfl #[.int .i64 (Int.tmod (Go.bits .and .i64 a0 65535) 111)] rfl (by (try simp only [List.map_toArray, List.map_cons, List.map_nil]); first | done | rfl | (simp only [List.length_drop, List.length_take]; rfl)) ?_; (with_reducible refine (op_Hidden.calls (Int.tmod (Go.bits .and .i64 a0 65535) 111) t155 _ A15.out).mono ?_); rintro e w38 ⟨rfl, hb⟩; refine ⟨_, rfl, ?_⟩; have n0_ := Aside0.mk (below_step (by repeat (first | (with_reducible first | exact HB.out | apply below_alloc | apply pw_below_drewN | apply below_drew1) | exact HB.out)) hb); clear HB; have HB := n0_; clear n0_; (try clear hb); (try clear hb2); (try clear hk); (try clear hi)) | (go_at_call 11; (with_reducible refine (op_Name.calls (Int.tmod (Go.bits .and .i64 a0 65535) 111) t150 _ A37.out).mono ?_); rintro e w39 ⟨rfl, hb⟩; have n0_ := Aside0.mk (below_step (by repeat (first | (with_reducible first | exact HB.out | apply below_alloc | apply pw_below_drewN | apply below_drew1) | exact HB.out)) hb); clear HB; have HB := n0_; clear n0_; (try clear hb); (try clear hb2); (try clear hk); (try clear hi)))
            go_meet
            case rel => exact ⟨_, ((t150.toList == ([] : List UInt8))), (by first | rfl | (simp; done) | (simp [*]; done)), H', ⟨by first | omega | exact Nat.le_refl _⟩, ⟨by repeat (first | (with_reducible first | exact HB.out | apply below_alloc | apply pw_below_drewN | apply below_drew1) | exact HB.out)⟩⟩
          · rw [if_neg c36] at H
            have c36b0 : ((Int.tmod (Go.bits .and .i64 a0 65535) 111) == (Int.tmod (Go.bits .and .i64 a1 65535) 111)) = false := beq_eq_false_iff_ne.mpr c36
            have c36b1 : ((Int.tmod (Go.bits .and .i64 a0 65535) 111) != (Int.tmod (Go.bits .and .i64 a1 65535) 111)) = true := bne_iff_ne.mpr c36
            replace H := Option.bind_eq_some_iff.mp H
            obtain ⟨t161, A400, H⟩ := H
            replace H : ((op_Name.f (Int.tmod (Go.bits .and .i64 a1 65535) 111)).bind fun t162 => (if t161.toList = t162.toList then (tenterhooklaw07_OpFinds.j0 k a2 t149 (Int.tmod (Go.bits .and .i64 a0 65535) 111) t153 t154 true) else ((op_Name.f (Int.tmod (Go.bits .and .i64 a0 65535) 111)).bind fun t163 => (tenterhooklaw07_OpFinds.j0 k a2 t149 (Int.tmod (Go.bits .and .i64 a0 65535) 111) t153 t154 (t163.toList == ([] : List UInt8)))))) = some r := H
            have A40 := Aside0.mk A400
            clear A400
            have e_ := A7.out.symm.trans A40.out
            simp only [Option.some.injEq, Prod.mk.injEq] at e_
            obtain rfl := e_
            replace H := Option.bind_eq_some_iff.mp H
            obtain ⟨t162, A410, H⟩ := H
            replace H : (if t150.toList = t162.toList then (tenterhooklaw07_OpFinds.j0 k a2 t149 (Int.tmod (Go.bits .and .i64 a0 65535) 111) t153 t154 true) else ((op_Name.f (Int.tmod (Go.bits .and .i64 a0 65535) 111)).bind fun t163 => (tenterhooklaw07_OpFinds.j0 k a2 t149 (Int.tmod (Go.bits .and .i64 a0 65535) 111) t153 t154 (t163.toList == ([] : List UInt8))))) = some r := H
            have A41 := Aside0.mk A410
            clear A410
            by_cases c42 : t150.toList = t162.toList
            · rw [if_pos c42] at H
              have c42b0 : (t150.toList == t162.toList) = true := beq_iff_eq.mpr c42
              have c42b1 : (t150.toList != t162.toList) = false := bne_eq_false_iff_eq.mpr c42
              clear c42
              have H' := Aside0.mk H
              clear H
              go_wp2_with (first | ((with_reducible refine gate_callee (f := 17) rfl ?_); refine goesL_ (some 38) rfl rfl Try.func17 (by kernel_rfl) rfl #[.int .i64 (Int.tmod (Go.bits .and .i64 a0 65535) 111)] rfl (by (try simp only [List.map_toArray, List.map_cons, List.map_nil]); first | done | rfl | (simp only [List.length_drop, List.length_take]; rfl)) ?_; (with_reducible refine (op_Hidden.calls (Int.tmod (Go.bits .and .i64 a0 65535) 111) t155 _ A15.out).mono ?_); rintro e w43 ⟨rfl, hb⟩; refine ⟨_, rfl, ?_⟩; have n0_ := Aside0.mk (below_step (by repeat (first | (with_reducible first | exact HB.out | apply below_alloc | apply pw_below_drewN | apply below_drew1) | exact HB.out)) hb); clear HB; have HB := n0_; clear n0_; (try clear hb); (try clear hb2); (try clear hk); (try clear hi)) | (go_at_call 11; (with_reducible refine (op_Name.calls (Int.tmod (Go.bits .and .i64 a0 65535) 111) t150 _ A40.out).mono ?_); rintro e w44 ⟨rfl, hb⟩; have n0_ := Aside0.mk (below_step (by repeat (first | (with_reducible first | exact HB.out | apply below_alloc | apply pw_below_drewN | apply below_drew1) | exact HB.out)) hb); clear HB; have HB := n0_; clear n0_; (try clear hb); (try clear hb2); (try clear hk); (try clear hi)) | (go_at_call 11; (with_reducible refine (op_Name.calls (Int.tmod (Go.bits .and .i64 a1 65535) 111) t162 _ A41.out).mono ?_); rintro e w45 ⟨rfl, hb⟩; have n0_ := Aside0.mk (below_step (by repeat (first | (with_reducible first | exact HB.out | apply below_alloc | apply pw_below_drewN | apply below_drew1) | exact HB.out)) hb); clear HB; have HB := n0_; clear n0_; (try clear hb); (try clear hb2); (try clear hk); (try clear hi)))
              go_meet
              case rel => exact ⟨_, (true), (by first | rfl | (simp; done) | (simp [*]; done)), H', ⟨by first | omega | exact Nat.le_refl _⟩, ⟨by repeat (first | (with_reducible first | exact HB.out | apply below_alloc | apply pw_below_drewN | apply below_drew1) | exact HB.out)⟩⟩
            · rw [if_neg c42] at H
              have c42b0 : (t150.toList == t162.toList) = false := beq_eq_false_iff_ne.mpr c42
              have c42b1 : (t150.toList != t162.toList) = true := bne_iff_ne.mpr c42
              replace H := Option.bind_eq_some_iff.mp H
              obtain ⟨t163, A460, H⟩ := H
              replace H : (tenterhooklaw07_OpFinds.j0 k a2 t149 (Int.tmod (Go.bits .and .i64 a0 65535) 111) t153 t154 (t163.toList == ([] : List UInt8))) = some r := H
              have A46 := Aside0.mk A460
              clear A460
              have e_ := A7.out.symm.trans A46.out
              simp only [Option.some.injEq, Prod.mk.injEq] at e_
              obtain rfl := e_
              have H' := Aside0.mk H
              clear H
              go_wp2_with (first | ((with_reducible refine gate_callee (f := 17) rfl ?_); refine goesL_ (some 38) rfl rfl Try.func17 (by kernel_rfl) rfl #[.int .i64 (Int.tmod (Go.bits .and .i64 a0 65535) 111)] rfl (by (try simp only [List.map_toArray, List.map_cons, List.map_nil]); first | done | rfl | (simp only [List.length_drop, List.length_take]; rfl)) ?_; (with_reducible refine (op_Hidden.calls (Int.tmod (Go.bits .and .i64 a0 65535) 111) t155 _ A15.out).mono ?_); rintro e w47 ⟨rfl, hb⟩; refine ⟨_, rfl, ?_⟩; have n0_ := Aside0.mk (below_step (by repeat (first | (with_reducible first | exact HB.out | apply below_alloc | apply pw_below_drewN | apply below_drew1) | exact HB.out)) hb); clear HB; have HB := n0_; clear n0_; (try clear hb); (try clear hb2); (try clear hk); (try clear hi)) | (go_at_call 11; (with_reducible refine (op_Name.calls (Int.tmod (Go.bits .and .i64 a0 65535) 111) t150 _ A40.out).mono ?_); rintro e w48 ⟨rfl, hb⟩; have n0_ := Aside0.mk (below_step (by repeat (first | (with_reducible first | exact HB.out | apply below_alloc | apply pw_below_drewN | apply below_drew1) | exact HB.out)) hb); clear HB; have HB := n0_; clear n0_; (try clear hb); (try clear hb2); (try clear hk); (try clear hi)) | (go_at_call 11; (with_reducible refine (op_Name.calls (Int.tmod (Go.bits .and .i64 a1 65535) 111) t162 _ A41.out).mono ?_); rintro e w49 ⟨rfl, hb⟩; have n0_ := Aside0.mk (below_step (by repeat (first | (with_reducible first | exact HB.out | apply below_alloc | apply pw_below_drewN | apply below_drew1) | exact HB.out)) hb); clear HB; have HB := n0_; clear n0_; (try clear hb); (try clear hb2); (try clear hk); (try clear hi)) | (go_at_call 11; (with_reducible refine (op_Name.calls (Int.tmod (Go.bits .and .i64 a0 65535) 111) t150 _ A46.out).mono ?_); rintro e w50 ⟨rfl, hb⟩; have n0_ := Aside0.mk (below_step (by repeat (first | (with_reducible first | exact HB.out | apply below_alloc | apply pw_below_drewN | apply below_drew1) | exact HB.out)) hb); clear HB; have HB := n0_; clear n0_; (try clear hb); (try clear hb2); (try clear hk); (try clear hi)))
              go_meet
              case rel => exact ⟨_, ((t150.toList == ([] : List UInt8))), (by first | rfl | (simp; done) | (simp [*]; done)), H', ⟨by first | omega | exact Nat.le_refl _⟩, ⟨by repeat (first | (with_reducible first | exact HB.out | apply below_alloc | apply pw_below_drewN | apply below_drew1) | exact HB.out)⟩⟩
    case rest =>
      clear HC10
      try clear c1
      try clear c2
      try clear p2
      try clear c3
      try clear c4
      try clear c5
      try clear c5b0
      try clear c5b1
      try clear c6
      try clear c7
      try clear c11
      try clear c16
      try clear c16b0
      try clear c16b1
      try clear c16b2
      try clear c17
      try clear c18
      try clear c19
      try clear c19b0
      try clear c19b1
      try clear c20
      try clear c20b0
      try clear c20b1
      try clear c26
      try clear c26b0
      try clear c26b1
      try clear c36
      try clear c36b0
      try clear c36b1
      try clear c42
      try clear c42b0
      try clear c42b1
      obtain ⟨kq, x64_9, rfl, HA, HJ9, HB⟩ := hcut
      cases kq with
      | zero => exact absurd HA.out (by simp [tenterhooklaw07_OpFinds.j0])
      | succ kj9 =>
        have H := HA.out
        clear HA
        simp only [tenterhooklaw07_OpFinds.j0] at H
        by_cases c51 : x64_9 = true
        · subst c51
          have H1 : (some false) = some r := by rw [if_pos rfl] at H; exact H
          clear H
          have H := H1
          clear H1
          obtain rfl := Option.some.inj H
          go_wp2
          go_ret
          exact ⟨by first | rfl | (simp [errW_none, errW_some] <;> rfl) | (simp [*, errW_none, errW_some] <;> rfl), by repeat (first | (with_reducible first | exact HB.out | apply below_alloc | apply pw_below_drewN | apply below_drew1) | exact HB.out)⟩
        · replace c51 := Bool.eq_false_iff.mpr c51
          subst c51
          have H1 : (if t149 = true then (if t154 = true then ((op_Name.f t153).bind fun t164 => ((scan_Upper.f kj9 a2).bind fun t165 => (if t164.toList = t165.toList then ((op_Hidden.f t153).bind fun t166 => (if t166 = true then (some false) else ((op_Name.f (Int.tmod (Go.bits .and .i64 a0 65535) 111)).bind fun t167 => ((scan_Upper.f kj9 t167).bind fun t168 => ((op_Name.f (Int.tmod (Go.bits .and .i64 a0 65535) 111)).bind fun t169 => (some (t168.toList == t169.toList))))))) else (some false)))) else ((op_Name.f (Int.tmod (Go.bits .and .i64 a0 65535) 111)).bind fun t170 => ((scan_Upper.f kj9 t170).bind fun t171 => ((op_Name.f (Int.tmod (Go.bits .and .i64 a0 65535) 111)).bind fun t172 => (some (t171.toList == t172.toList)))))) else (some false)) = some r := by rw [if_neg (show ¬ (false = true) by decide)] at H; exact H
          clear H
          have H := H1
          clear H1
          by_cases c52 : t149 = true
          · subst c52
            have H1 : (if t154 = true then ((op_Name.f t153).bind fun t164 => ((scan_Upper.f kj9 a2).bind fun t165 => (if t164.toList = t165.toList then ((op_Hidden.f t153).bind fun t166 => (if t166 = true then (some false) else ((op_Name.f (Int.tmod (Go.bits .and .i64 a0 65535) 111)).bind fun t167 => ((scan_Upper.f kj9 t167).bind fun t168 => ((op_Name.f (Int.tmod (Go.bits .and .i64 a0 65535) 111)).bind fun t169 => (some (t168.toList == t169.toList))))))) else (some false)))) else ((op_Name.f (Int.tmod (Go.bits .and .i64 a0 65535) 111)).bind fun t170 => ((scan_Upper.f kj9 t170).bind fun t171 => ((op_Name.f (Int.tmod (Go.bits .and .i64 a0 65535) 111)).bind fun t172 => (some (t171.toList == t172.toList)))))) = some r := by rw [if_pos rfl] at H; exact H
            clear H
            have H := H1
            clear H1
            by_cases c53 : t154 = true
            · subst c53
              have H1 : ((op_Name.f t153).bind fun t164 => ((scan_Upper.f kj9 a2).bind fun t165 => (if t164.toList = t165.toList then ((op_Hidden.f t153).bind fun t166 => (if t166 = true then (some false) else ((op_Name.f (Int.tmod (Go.bits .and .i64 a0 65535) 111)).bind fun t167 => ((scan_Upper.f kj9 t167).bind fun t168 => ((op_Name.f (Int.tmod (Go.bits .and .i64 a0 65535) 111)).bind fun t169 => (some (t168.toList == t169.toList))))))) else (some false)))) = some r := by rw [if_pos rfl] at H; exact H
              clear H
              have H := H1
              clear H1
              replace H := Option.bind_eq_some_iff.mp H
              obtain ⟨t164, A540, H⟩ := H
              replace H : ((scan_Upper.f kj9 a2).bind fun t165 => (if t164.toList = t165.toList then ((op_Hidden.f t153).bind fun t166 => (if t166 = true then (some false) else ((op_Name.f (Int.tmod (Go.bits .and .i64 a0 65535) 111)).bind fun t167 => ((scan_Upper.f kj9 t167).bind fun t168 => ((op_Name.f (Int.tmod (Go.bits .and .i64 a0 65535) 111)).bind fun t169 => (some (t168.toList == t169.toList))))))) else (some false))) = some r := H
              have A54 := Aside0.mk A540
              clear A540
              replace H := Option.bind_eq_some_iff.mp H
              obtain ⟨t165, A550, H⟩ := H
              replace H : (if t164.toList = t165.toList then ((op_Hidden.f t153).bind fun t166 => (if t166 = true then (some false) else ((op_Name.f (Int.tmod (Go.bits .and .i64 a0 65535) 111)).bind fun t167 => ((scan_Upper.f kj9 t167).bind fun t168 => ((op_Name.f (Int.tmod (Go.bits .and .i64 a0 65535) 111)).bind fun t169 => (some (t168.toList == t169.toList))))))) else (some false)) = some r := H
              have A55 := Aside0.mk A550
              clear A550
              by_cases c56 : t164.toList = t165.toList
              · rw [if_pos c56] at H
                have c56b0 : (t164.toList == t165.toList) = true := beq_iff_eq.mpr c56
                have c56b1 : (t164.toList != t165.toList) = false := bne_eq_false_iff_eq.mpr c56
                clear c56
                replace H := Option.bind_eq_some_iff.mp H
                obtain ⟨t166, A570, H⟩ := H
                replace H : (if t166 = true then (some false) else ((op_Name.f (Int.tmod (Go.bits .and .i64 a0 65535) 111)).bind fun t167 => ((scan_Upper.f kj9 t167).bind fun t168 => ((op_Name.f (Int.tmod (Go.bits .and .i64 a0 65535) 111)).bind fun t169 => (some (t168.toList == t169.toList)))))) = some r := H
                have A57 := Aside0.mk A570
                clear A570
                by_cases c58 : t166 = true
                · subst c58
                  have H1 : (some false) = some r := by rw [if_pos rfl] at H; exact H
                  clear H
                  have H := H1
                  clear H1
                  obtain rfl := Option.some.inj H
                  go_wp2_with (first | (go_at_call 11; (with_reducible refine (op_Name.calls t153 t164 _ A54.out).mono ?_); rintro e w59 ⟨rfl, hb⟩; have n0_ := Aside0.mk (below_step (by repeat (first | (with_reducible first | exact HB.out | apply below_alloc | apply pw_below_drewN | apply below_drew1) | exact HB.out)) hb); clear HB; have HB := n0_; clear n0_; (try clear hb); (try clear hb2); (try clear hk); (try clear hi)) | (go_at_call 19; (with_reducible refine (scan_Upper.calls kj9 a2 t165 _ A55.out).mono ?_); rintro e w60 ⟨rfl, hb⟩; have n0_ := Aside0.mk (below_step (by repeat (first | (with_reducible first | exact HB.out | apply below_alloc | apply pw_below_drewN | apply below_drew1) | exact HB.out)) hb); clear HB; have HB := n0_; clear n0_; (try clear hb); (try clear hb2); (try clear hk); (try clear hi)) | (go_at_call 17; (with_reducible refine (op_Hidden.calls t153 true _ A57.out).mono ?_); rintro e w61 ⟨rfl, hb⟩; have n0_ := Aside0.mk (below_step (by repeat (first | (with_reducible first | exact HB.out | apply below_alloc | apply pw_below_drewN | apply below_drew1) | exact HB.out)) hb); clear HB; have HB := n0_; clear n0_; (try clear hb); (try clear hb2); (try clear hk); (try clear hi)))
                  go_ret
                  exact ⟨by first | rfl | (simp [errW_none, errW_some] <;> rfl) | (simp [*, errW_none, errW_some] <;> rfl), by repeat (first | (with_reducible first | exact HB.out | apply below_alloc | apply pw_below_drewN | apply below_drew1) | exact HB.out)⟩
                · replace c58 := Bool.eq_false_iff.mpr c58
                  subst c58
                  have H1 : ((op_Name.f (Int.tmod (Go.bits .and .i64 a0 65535) 111)).bind fun t167 => ((scan_Upper.f kj9 t167).bind fun t168 => ((op_Name.f (Int.tmod (Go.bits .and .i64 a0 65535) 111)).bind fun t169 => (some (t168.toList == t169.toList))))) = some r := by rw [if_neg (show ¬ (false = true) by decide)] at H; exact H
                  clear H
                  have H := H1
                  clear H1
                  replace H := Option.bind_eq_some_iff.mp H
                  obtain ⟨t167, A620, H⟩ := H
                  replace H : ((scan_Upper.f kj9 t167).bind fun t168 => ((op_Name.f (Int.tmod (Go.bits .and .i64 a0 65535) 111)).bind fun t169 => (some (t168.toList == t169.toList)))) = some r := H
                  have A62 := Aside0.mk A620
                  clear A620
                  have e_ := A7.out.symm.trans A62.out
                  simp only [Option.some.injEq, Prod.mk.injEq] at e_
                  obtain rfl := e_
                  replace H := Option.bind_eq_some_iff.mp H
                  obtain ⟨t168, A630, H⟩ := H
                  replace H : ((op_Name.f (Int.tmod (Go.bits .and .i64 a0 65535) 111)).bind fun t169 => (some (t168.toList == t169.toList))) = some r := H
                  have A63 := Aside0.mk A630
                  clear A630
                  replace H := Option.bind_eq_some_iff.mp H
                  obtain ⟨t169, A640, H⟩ := H
                  replace H : (some (t168.toList == t169.toList)) = some r := H
                  have A64 := Aside0.mk A640
                  clear A640
                  have e_ := A7.out.symm.trans A64.out
                  simp only [Option.some.injEq, Prod.mk.injEq] at e_
                  obtain rfl := e_
                  obtain rfl := Option.some.inj H
                  go_wp2_with (first | (go_at_call 11; (with_reducible refine (op_Name.calls t153 t164 _ A54.out).mono ?_); rintro e w65 ⟨rfl, hb⟩; have n0_ := Aside0.mk (below_step (by repeat (first | (with_reducible first | exact HB.out | apply below_alloc | apply pw_below_drewN | apply below_drew1) | exact HB.out)) hb); clear HB; have HB := n0_; clear n0_; (try clear hb); (try clear hb2); (try clear hk); (try clear hi)) | (go_at_call 19; (with_reducible refine (scan_Upper.calls kj9 a2 t165 _ A55.out).mono ?_); rintro e w66 ⟨rfl, hb⟩; have n0_ := Aside0.mk (below_step (by repeat (first | (with_reducible first | exact HB.out | apply below_alloc | apply pw_below_drewN | apply below_drew1) | exact HB.out)) hb); clear HB; have HB := n0_; clear n0_; (try clear hb); (try clear hb2); (try clear hk); (try clear hi)) | (go_at_call 17; (with_reducible refine (op_Hidden.calls t153 false _ A57.out).mono ?_); rintro e w67 ⟨rfl, hb⟩; have n0_ := Aside0.mk (below_step (by repeat (first | (with_reducible first | exact HB.out | apply below_alloc | apply pw_below_drewN | apply below_drew1) | exact HB.out)) hb); clear HB; have HB := n0_; clear n0_; (try clear hb); (try clear hb2); (try clear hk); (try clear hi)) | (go_at_call 11; (with_reducible refine (op_Name.calls (Int.tmod (Go.bits .and .i64 a0 65535) 111) t150 _ A62.out).mono ?_); rintro e w68 ⟨rfl, hb⟩; have n0_ := Aside0.mk (below_step (by repeat (first | (with_reducible first | exact HB.out | apply below_alloc | apply pw_below_drewN | apply below_drew1) | exact HB.out)) hb); clear HB; have HB := n0_; clear n0_; (try clear hb); (try clear hb2); (try clear hk); (try clear hi)) | (go_at_call 19; (with_reducible refine (scan_Upper.calls kj9 t150 t168 _ A63.out).mono ?_); rintro e w69 ⟨rfl, hb⟩; have n0_ := Aside0.mk (below_step (by repeat (first | (with_reducible first | exact HB.out | apply below_alloc | apply pw_below_drewN | apply below_drew1) | exact HB.out)) hb); clear HB; have HB := n0_; clear n0_; (try clear hb); (try clear hb2); (try clear hk); (try clear hi)) | (go_at_call 11; (with_reducible refine (op_Name.calls (Int.tmod (Go.bits .and .i64 a0 65535) 111) t150 _ A64.out).mono ?_); rintro e w70 ⟨rfl, hb⟩; have n0_ := Aside0.mk (below_step (by repeat (first | (with_reducible first | exact HB.out | apply below_alloc | apply pw_below_drewN | apply below_drew1) | exact HB.out)) hb); clear HB; have HB := n0_; clear n0_; (try clear hb); (try clear hb2); (try clear hk); (try clear hi)))
                  go_ret
                  exact ⟨by first | rfl | (simp [errW_none, errW_some] <;> rfl) | (simp [*, errW_none, errW_some] <;> rfl), by repeat (first | (with_reducible first | exact HB.out | apply below_alloc | apply pw_below_drewN | apply below_drew1) | exact HB.out)⟩
              · rw [if_neg c56] at H
                have c56b0 : (t164.toList == t165.toList) = false := beq_eq_false_iff_ne.mpr c56
                have c56b1 : (t164.toList != t165.toList) = true := bne_iff_ne.mpr c56
                obtain rfl := Option.some.inj H
                go_wp2_with (first | (go_at_call 11; (with_reducible refine (op_Name.calls t153 t164 _ A54.out).mono ?_); rintro e w71 ⟨rfl, hb⟩; have n0_ := Aside0.mk (below_step (by repeat (first | (with_reducible first | exact HB.out | apply below_alloc | apply pw_below_drewN | apply below_drew1) | exact HB.out)) hb); clear HB; have HB := n0_; clear n0_; (try clear hb); (try clear hb2); (try clear hk); (try clear hi)) | (go_at_call 19; (with_reducible refine (scan_Upper.calls kj9 a2 t165 _ A55.out).mono ?_); rintro e w72 ⟨rfl, hb⟩; have n0_ := Aside0.mk (below_step (by repeat (first | (with_reducible first | exact HB.out | apply below_alloc | apply pw_below_drewN | apply below_drew1) | exact HB.out)) hb); clear HB; have HB := n0_; clear n0_; (try clear hb); (try clear hb2); (try clear hk); (try clear hi)))
                go_ret
                exact ⟨by first | rfl | (simp [errW_none, errW_some] <;> rfl) | (simp [*, errW_none, errW_some] <;> rfl), by repeat (first | (with_reducible first | exact HB.out | apply below_alloc | apply pw_below_drewN | apply below_drew1) | exact HB.out)⟩
            · replace c53 := Bool.eq_false_iff.mpr c53
              subst c53
              have H1 : ((op_Name.f (Int.tmod (Go.bits .and .i64 a0 65535) 111)).bind fun t170 => ((scan_Upper.f kj9 t170).bind fun t171 => ((op_Name.f (Int.tmod (Go.bits .and .i64 a0 65535) 111)).bind fun t172 => (some (t171.toList == t172.toList))))) = some r := by rw [if_neg (show ¬ (false = true) by decide)] at H; exact H
              clear H
              have H := H1
              clear H1
              replace H := Option.bind_eq_some_iff.mp H
              obtain ⟨t170, A730, H⟩ := H
              replace H : ((scan_Upper.f kj9 t170).bind fun t171 => ((op_Name.f (Int.tmod (Go.bits .and .i64 a0 65535) 111)).bind fun t172 => (some (t171.toList == t172.toList)))) = some r := H
              have A73 := Aside0.mk A730
              clear A730
              have e_ := A7.out.symm.trans A73.out
              simp only [Option.some.injEq, Prod.mk.injEq] at e_
              obtain rfl := e_
              replace H := Option.bind_eq_some_iff.mp H
              obtain ⟨t171, A740, H⟩ := H
              replace H : ((op_Name.f (Int.tmod (Go.bits .and .i64 a0 65535) 111)).bind fun t172 => (some (t171.toList == t172.toList))) = some r := H
              have A74 := Aside0.mk A740
              clear A740
              replace H := Option.bind_eq_some_iff.mp H
              obtain ⟨t172, A750, H⟩ := H
              replace H : (some (t171.toList == t172.toList)) = some r := H
              have A75 := Aside0.mk A750
              clear A750
              have e_ := A7.out.symm.trans A75.out
              simp only [Option.some.injEq, Prod.mk.injEq] at e_
              obtain rfl := e_
              obtain rfl := Option.some.inj H
              go_wp2_with (first | (go_at_call 11; (with_reducible refine (op_Name.calls (Int.tmod (Go.bits .and .i64 a0 65535) 111) t150 _ A73.out).mono ?_); rintro e w76 ⟨rfl, hb⟩; have n0_ := Aside0.mk (below_step (by repeat (first | (with_reducible first | exact HB.out | apply below_alloc | apply pw_below_drewN | apply below_drew1) | exact HB.out)) hb); clear HB; have HB := n0_; clear n0_; (try clear hb); (try clear hb2); (try clear hk); (try clear hi)) | (go_at_call 19; (with_reducible refine (scan_Upper.calls kj9 t150 t171 _ A74.out).mono ?_); rintro e w77 ⟨rfl, hb⟩; have n0_ := Aside0.mk (below_step (by repeat (first | (with_reducible first | exact HB.out | apply below_alloc | apply pw_below_drewN | apply below_drew1) | exact HB.out)) hb); clear HB; have HB := n0_; clear n0_; (try clear hb); (try clear hb2); (try clear hk); (try clear hi)) | (go_at_call 11; (with_reducible refine (op_Name.calls (Int.tmod (Go.bits .and .i64 a0 65535) 111) t150 _ A75.out).mono ?_); rintro e w78 ⟨rfl, hb⟩; have n0_ := Aside0.mk (below_step (by repeat (first | (with_reducible first | exact HB.out | apply below_alloc | apply pw_below_drewN | apply below_drew1) | exact HB.out)) hb); clear HB; have HB := n0_; clear n0_; (try clear hb); (try clear hb2); (try clear hk); (try clear hi)))
              go_ret
              exact ⟨by first | rfl | (simp [errW_none, errW_some] <;> rfl) | (simp [*, errW_none, errW_some] <;> rfl), by repeat (first | (with_reducible first | exact HB.out | apply below_alloc | apply pw_below_drewN | apply below_drew1) | exact HB.out)⟩
          · replace c52 := Bool.eq_false_iff.mpr c52
            subst c52
            have H1 : (some false) = some r := by rw [if_neg (show ¬ (false = true) by decide)] at H; exact H
            clear H
            have H := H1
            clear H1
            obtain rfl := Option.some.inj H
            go_wp2
            go_ret
            exact ⟨by first | rfl | (simp [errW_none, errW_some] <;> rfl) | (simp [*, errW_none, errW_some] <;> rfl), by repeat (first | (with_reducible first | exact HB.out | apply below_alloc | apply pw_below_drewN | apply below_drew1) | exact HB.out)⟩

/-- THE ONE PURE STATEMENT of tenterhooklaw07_OpFinds: yours. -/
def tenterhooklaw07_OpFinds.Pure : Prop := ∀ (a0 : Int) (a1 : Int) (a2 : ByteArray), (Lit.int .i64 a0).wf = true → (Lit.int .i64 a1).wf = true → a2.size ≤ 140737488351232 → ∃ k, tenterhooklaw07_OpFinds.f k a0 a1 a2 = some true
theorem tenterhooklaw07_OpFinds.walk (P : tenterhooklaw07_OpFinds.Pure) (a0 : Int) (a1 : Int) (a2 : ByteArray) (w : World) (w0 : (Lit.int .i64 a0).wf = true) (w1 : (Lit.int .i64 a1).wf = true) (w2 : a2.size ≤ 140737488351232) :
    Calls Try.prog 4 #[.int .i64 a0, .int .i64 a1, .string a2] w fun e w' => e = .returned (.bool true) ∧ Below w.heap.size w w' := by
  obtain ⟨k, h⟩ := P a0 a1 a2 w0 w1 w2
  refine (tenterhooklaw07_OpFinds.calls k a0 a1 a2 true w h).mono ?_
  rintro e w' ⟨rfl, hd⟩
  exact ⟨rfl, hd⟩

end Go.Proofs.Ytlfdempjfjgbdaa.POpFinds
