-- Written by this session's wip/gen.py (it drives the kit's print over a plain variation's bodies of some functions; their contracts are proved by hand).
import Derived.Test.YtlfdempjfjgbdaaPOpIsx0
import Derived.Test.YtlfdempjfjgbdaaPOpIsx1
namespace Go.Proofs.Ytlfdempjfjgbdaa.POpIs
open Go.RowKit Go.Proofs.YtlfdempjfjgbdaaW.PrintWords Go.Proofs.YtlfdempjfjgbdaaW.PrintLast Go.Proofs.YtlfdempjfjgbdaaW.PrintMore
attribute [local go_sem] max2_int min2_int max_two min_two max_three min_three max_four min_four   -- for this text's walks alone
set_option linter.unusedVariables false
set_option linter.unusedSimpArgs false

/-! ### tenterhooklaw07_awake: function 6 -/
def tenterhooklaw07_awake.f (k : Nat)  : Option (Bool) := (op_Find.f k (⟨#[100, 117, 112]⟩ : ByteArray)).bind fun bt142 => ((op_Leaves.f 18).bind fun bt144 => (if bt142.2 = true then (if bt142.1 = 18 then ((op_Needs.f 18).bind fun t146 => (if t146 = 1 then (if bt144.1 = 2 then (if bt144.2 = true then ((op_Group.f 18).bind fun t147 => (if t147 = 1 then ((op_Name.f 18).bind fun t148 => (some (t148.toList == ([68, 85, 80] : List UInt8)))) else (some false))) else (some false)) else (some false)) else (some false))) else (some false)) else (some false)))
theorem tenterhooklaw07_awake.mono : ∀ k, LeO (tenterhooklaw07_awake.f k ) (tenterhooklaw07_awake.f (k + 1) ) := by
  intro  k
  unfold tenterhooklaw07_awake.f
  repeat' first
      | (with_reducible exact op_Find.mono _ _)
      | (with_reducible exact LeO.refl _)
      | (with_reducible exact LeO.none _)
      | (with_reducible refine LeO.ite ?_ ?_)
      | (with_reducible refine LeO.bind ?_ (fun _ => ?_))
      | exact op_Find.mono _ _
      | exact LeO.none _
      | refine LeO.ite ?_ ?_
      | refine LeO.bind ?_ (fun _ => ?_)
set_option maxHeartbeats 8000000 in
set_option maxRecDepth 100000 in
theorem tenterhooklaw07_awake.calls (k : Nat)  (r : Bool) (w : World) (h : tenterhooklaw07_awake.f k  = some r) :
    Calls Try.prog 6 #[] w fun e w' => e = .returned (.bool r) ∧ Below w.heap.size w w' := by
  have HB := Aside0.mk (Below.refl w.heap.size w)
  have H : ((op_Find.f k (⟨#[100, 117, 112]⟩ : ByteArray)).bind fun bt142 => ((op_Leaves.f 18).bind fun bt144 => (if bt142.2 = true then (if bt142.1 = 18 then ((op_Needs.f 18).bind fun t146 => (if t146 = 1 then (if bt144.1 = 2 then (if bt144.2 = true then ((op_Group.f 18).bind fun t147 => (if t147 = 1 then ((op_Name.f 18).bind fun t148 => (some (t148.toList == ([68, 85, 80] : List UInt8)))) else (some false))) else (some false)) else (some false)) else (some false))) else (some false)) else (some false)))) = some r := h
  clear h
  replace H := Option.bind_eq_some_iff.mp H
  obtain ⟨⟨t142, t143⟩, A10, H⟩ := H
  replace H : ((op_Leaves.f 18).bind fun bt144 => (if t143 = true then (if t142 = 18 then ((op_Needs.f 18).bind fun t146 => (if t146 = 1 then (if bt144.1 = 2 then (if bt144.2 = true then ((op_Group.f 18).bind fun t147 => (if t147 = 1 then ((op_Name.f 18).bind fun t148 => (some (t148.toList == ([68, 85, 80] : List UInt8)))) else (some false))) else (some false)) else (some false)) else (some false))) else (some false)) else (some false))) = some r := H
  have A1 := Aside0.mk A10
  clear A10
  replace H := Option.bind_eq_some_iff.mp H
  obtain ⟨⟨t144, t145⟩, A20, H⟩ := H
  replace H : (if t143 = true then (if t142 = 18 then ((op_Needs.f 18).bind fun t146 => (if t146 = 1 then (if t144 = 2 then (if t145 = true then ((op_Group.f 18).bind fun t147 => (if t147 = 1 then ((op_Name.f 18).bind fun t148 => (some (t148.toList == ([68, 85, 80] : List UInt8)))) else (some false))) else (some false)) else (some false)) else (some false))) else (some false)) else (some false)) = some r := H
  have A2 := Aside0.mk A20
  clear A20
  by_cases c3 : t143 = true
  · subst c3
    have H1 : (if t142 = 18 then ((op_Needs.f 18).bind fun t146 => (if t146 = 1 then (if t144 = 2 then (if t145 = true then ((op_Group.f 18).bind fun t147 => (if t147 = 1 then ((op_Name.f 18).bind fun t148 => (some (t148.toList == ([68, 85, 80] : List UInt8)))) else (some false))) else (some false)) else (some false)) else (some false))) else (some false)) = some r := by rw [if_pos rfl] at H; exact H
    clear H
    have H := H1
    clear H1
    by_cases c4 : t142 = 18
    · rw [if_pos c4] at H
      have c4b0 : (t142 == 18) = true := beq_iff_eq.mpr c4
      have c4b1 : (t142 != 18) = false := bne_eq_false_iff_eq.mpr c4
      clear c4
      replace H := Option.bind_eq_some_iff.mp H
      obtain ⟨t146, A50, H⟩ := H
      replace H : (if t146 = 1 then (if t144 = 2 then (if t145 = true then ((op_Group.f 18).bind fun t147 => (if t147 = 1 then ((op_Name.f 18).bind fun t148 => (some (t148.toList == ([68, 85, 80] : List UInt8)))) else (some false))) else (some false)) else (some false)) else (some false)) = some r := H
      have A5 := Aside0.mk A50
      clear A50
      by_cases c6 : t146 = 1
      · rw [if_pos c6] at H
        have c6b0 : (t146 == 1) = true := beq_iff_eq.mpr c6
        have c6b1 : (t146 != 1) = false := bne_eq_false_iff_eq.mpr c6
        clear c6
        by_cases c7 : t144 = 2
        · rw [if_pos c7] at H
          have c7b0 : (t144 == 2) = true := beq_iff_eq.mpr c7
          have c7b1 : (t144 != 2) = false := bne_eq_false_iff_eq.mpr c7
          clear c7
          by_cases c8 : t145 = true
          · subst c8
            have H1 : ((op_Group.f 18).bind fun t147 => (if t147 = 1 then ((op_Name.f 18).bind fun t148 => (some (t148.toList == ([68, 85, 80] : List UInt8)))) else (some false))) = some r := by rw [if_pos rfl] at H; exact H
            clear H
            have H := H1
            clear H1
            replace H := Option.bind_eq_some_iff.mp H
            obtain ⟨t147, A90, H⟩ := H
            replace H : (if t147 = 1 then ((op_Name.f 18).bind fun t148 => (some (t148.toList == ([68, 85, 80] : List UInt8)))) else (some false)) = some r := H
            have A9 := Aside0.mk A90
            clear A90
            by_cases c10 : t147 = 1
            · rw [if_pos c10] at H
              have c10b0 : (t147 == 1) = true := beq_iff_eq.mpr c10
              have c10b1 : (t147 != 1) = false := bne_eq_false_iff_eq.mpr c10
              clear c10
              replace H := Option.bind_eq_some_iff.mp H
              obtain ⟨t148, A110, H⟩ := H
              replace H : (some (t148.toList == ([68, 85, 80] : List UInt8))) = some r := H
              have A11 := Aside0.mk A110
              clear A110
              obtain rfl := Option.some.inj H
              go_enter Try.func6, Try.ntmps6
              go_wp2_with (first | ((with_reducible refine gate_callee (f := 7) rfl ?_); refine goesL_ (some 6) rfl rfl Try.func7 (by kernel_rfl) rfl #[.string (⟨#[100, 117, 112]⟩ : ByteArray)] rfl (by (try simp only [List.map_toArray, List.map_cons, List.map_nil]); first | done | rfl | (simp only [List.length_drop, List.length_take]; rfl)) ?_; (with_reducible refine (op_Find.calls k (⟨#[100, 117, 112]⟩ : ByteArray) t142 true _ A1.out).mono ?_); rintro e w12 ⟨rfl, hb⟩; refine ⟨_, rfl, ?_⟩; have n0_ := Aside0.mk (below_step (by repeat (first | (with_reducible first | exact HB.out | apply below_alloc | apply pw_below_drewN | apply below_drew1) | exact HB.out)) hb); clear HB; have HB := n0_; clear n0_; (try clear hb); (try clear hb2); (try clear hk); (try clear hi)) | ((with_reducible refine gate_callee (f := 9) rfl ?_); refine goesL_ (some 10) rfl rfl Try.func9 (by kernel_rfl) rfl #[.int .i64 18] rfl (by (try simp only [List.map_toArray, List.map_cons, List.map_nil]); first | done | rfl | (simp only [List.length_drop, List.length_take]; rfl)) ?_; (with_reducible refine (op_Leaves.calls 18 t144 true _ A2.out).mono ?_); rintro e w13 ⟨rfl, hb⟩; refine ⟨_, rfl, ?_⟩; have n0_ := Aside0.mk (below_step (by repeat (first | (with_reducible first | exact HB.out | apply below_alloc | apply pw_below_drewN | apply below_drew1) | exact HB.out)) hb); clear HB; have HB := n0_; clear n0_; (try clear hb); (try clear hb2); (try clear hk); (try clear hi)) | (go_at_call 13; (with_reducible refine (op_Needs.calls 18 t146 _ A5.out).mono ?_); rintro e w14 ⟨rfl, hb⟩; have n0_ := Aside0.mk (below_step (by repeat (first | (with_reducible first | exact HB.out | apply below_alloc | apply pw_below_drewN | apply below_drew1) | exact HB.out)) hb); clear HB; have HB := n0_; clear n0_; (try clear hb); (try clear hb2); (try clear hk); (try clear hi)) | (go_at_call 15; (with_reducible refine (op_Group.calls 18 t147 _ A9.out).mono ?_); rintro e w15 ⟨rfl, hb⟩; have n0_ := Aside0.mk (below_step (by repeat (first | (with_reducible first | exact HB.out | apply below_alloc | apply pw_below_drewN | apply below_drew1) | exact HB.out)) hb); clear HB; have HB := n0_; clear n0_; (try clear hb); (try clear hb2); (try clear hk); (try clear hi)) | (go_at_call 11; (with_reducible refine (op_Name.calls 18 t148 _ A11.out).mono ?_); rintro e w16 ⟨rfl, hb⟩; have n0_ := Aside0.mk (below_step (by repeat (first | (with_reducible first | exact HB.out | apply below_alloc | apply pw_below_drewN | apply below_drew1) | exact HB.out)) hb); clear HB; have HB := n0_; clear n0_; (try clear hb); (try clear hb2); (try clear hk); (try clear hi)))
              go_ret
              exact ⟨by first | rfl | (simp [errW_none, errW_some] <;> rfl) | (simp [*, errW_none, errW_some] <;> rfl), by repeat (first | (with_reducible first | exact HB.out | apply below_alloc | apply pw_below_drewN | apply below_drew1) | exact HB.out)⟩
            · rw [if_neg c10] at H
              have c10b0 : (t147 == 1) = false := beq_eq_false_iff_ne.mpr c10
              have c10b1 : (t147 != 1) = true := bne_iff_ne.mpr c10
              obtain rfl := Option.some.inj H
              go_enter Try.func6, Try.ntmps6
              go_wp2_with (first | ((with_reducible refine gate_callee (f := 7) rfl ?_); refine goesL_ (some 6) rfl rfl Try.func7 (by kernel_rfl) rfl #[.string (⟨#[100, 117, 112]⟩ : ByteArray)] rfl (by (try simp only [List.map_toArray, List.map_cons, List.map_nil]); first | done | rfl | (simp only [List.length_drop, List.length_take]; rfl)) ?_; (with_reducible refine (op_Find.calls k (⟨#[100, 117, 112]⟩ : ByteArray) t142 true _ A1.out).mono ?_); rintro e w17 ⟨rfl, hb⟩; refine ⟨_, rfl, ?_⟩; have n0_ := Aside0.mk (below_step (by repeat (first | (with_reducible first | exact HB.out | apply below_alloc | apply pw_below_drewN | apply below_drew1) | exact HB.out)) hb); clear HB; have HB := n0_; clear n0_; (try clear hb); (try clear hb2); (try clear hk); (try clear hi)) | ((with_reducible refine gate_callee (f := 9) rfl ?_); refine goesL_ (some 10) rfl rfl Try.func9 (by kernel_rfl) rfl #[.int .i64 18] rfl (by (try simp only [List.map_toArray, List.map_cons, List.map_nil]); first | done | rfl | (simp only [List.length_drop, List.length_take]; rfl)) ?_; (with_reducible refine (op_Leaves.calls 18 t144 true _ A2.out).mono ?_); rintro e w18 ⟨rfl, hb⟩; refine ⟨_, rfl, ?_⟩; have n0_ := Aside0.mk (below_step (by repeat (first | (with_reducible first | exact HB.out | apply below_alloc | apply pw_below_drewN | apply below_drew1) | exact HB.out)) hb); clear HB; have HB := n0_; clear n0_; (try clear hb); (try clear hb2); (try clear hk); (try clear hi)) | (go_at_call 13; (with_reducible refine (op_Needs.calls 18 t146 _ A5.out).mono ?_); rintro e w19 ⟨rfl, hb⟩; have n0_ := Aside0.mk (below_step (by repeat (first | (with_reducible first | exact HB.out | apply below_alloc | apply pw_below_drewN | apply below_drew1) | exact HB.out)) hb); clear HB; have HB := n0_; clear n0_; (try clear hb); (try clear hb2); (try clear hk); (try clear hi)) | (go_at_call 15; (with_reducible refine (op_Group.calls 18 t147 _ A9.out).mono ?_); rintro e w20 ⟨rfl, hb⟩; have n0_ := Aside0.mk (below_step (by repeat (first | (with_reducible first | exact HB.out | apply below_alloc | apply pw_below_drewN | apply below_drew1) | exact HB.out)) hb); clear HB; have HB := n0_; clear n0_; (try clear hb); (try clear hb2); (try clear hk); (try clear hi)))
              go_ret
              exact ⟨by first | rfl | (simp [errW_none, errW_some] <;> rfl) | (simp [*, errW_none, errW_some] <;> rfl), by repeat (first | (with_reducible first | exact HB.out | apply below_alloc | apply pw_below_drewN | apply below_drew1) | exact HB.out)⟩
          · replace c8 := Bool.eq_false_iff.mpr c8
            subst c8
            have H1 : (some false) = some r := by rw [if_neg (show ¬ (false = true) by decide)] at H; exact H
            clear H
            have H := H1
            clear H1
            obtain rfl := Option.some.inj H
            go_enter Try.func6, Try.ntmps6
            go_wp2_with (first | ((with_reducible refine gate_callee (f := 7) rfl ?_); refine goesL_ (some 6) rfl rfl Try.func7 (by kernel_rfl) rfl #[.string (⟨#[100, 117, 112]⟩ : ByteArray)] rfl (by (try simp only [List.map_toArray, List.map_cons, List.map_nil]); first | done | rfl | (simp only [List.length_drop, List.length_take]; rfl)) ?_; (with_reducible refine (op_Find.calls k (⟨#[100, 117, 112]⟩ : ByteArray) t142 true _ A1.out).mono ?_); rintro e w21 ⟨rfl, hb⟩; refine ⟨_, rfl, ?_⟩; have n0_ := Aside0.mk (below_step (by repeat (first | (with_reducible first | exact HB.out | apply below_alloc | apply pw_below_drewN | apply below_drew1) | exact HB.out)) hb); clear HB; have HB := n0_; clear n0_; (try clear hb); (try clear hb2); (try clear hk); (try clear hi)) | ((with_reducible refine gate_callee (f := 9) rfl ?_); refine goesL_ (some 10) rfl rfl Try.func9 (by kernel_rfl) rfl #[.int .i64 18] rfl (by (try simp only [List.map_toArray, List.map_cons, List.map_nil]); first | done | rfl | (simp only [List.length_drop, List.length_take]; rfl)) ?_; (with_reducible refine (op_Leaves.calls 18 t144 false _ A2.out).mono ?_); rintro e w22 ⟨rfl, hb⟩; refine ⟨_, rfl, ?_⟩; have n0_ := Aside0.mk (below_step (by repeat (first | (with_reducible first | exact HB.out | apply below_alloc | apply pw_below_drewN | apply below_drew1) | exact HB.out)) hb); clear HB; have HB := n0_; clear n0_; (try clear hb); (try clear hb2); (try clear hk); (try clear hi)) | (go_at_call 13; (with_reducible refine (op_Needs.calls 18 t146 _ A5.out).mono ?_); rintro e w23 ⟨rfl, hb⟩; have n0_ := Aside0.mk (below_step (by repeat (first | (with_reducible first | exact HB.out | apply below_alloc | apply pw_below_drewN | apply below_drew1) | exact HB.out)) hb); clear HB; have HB := n0_; clear n0_; (try clear hb); (try clear hb2); (try clear hk); (try clear hi)))
            go_ret
            exact ⟨by first | rfl | (simp [errW_none, errW_some] <;> rfl) | (simp [*, errW_none, errW_some] <;> rfl), by repeat (first | (with_reducible first | exact HB.out | apply below_alloc | apply pw_below_drewN | apply below_drew1) | exact HB.out)⟩
        · rw [if_neg c7] at H
          have c7b0 : (t144 == 2) = false := beq_eq_false_iff_ne.mpr c7
          have c7b1 : (t144 != 2) = true := bne_iff_ne.mpr c7
          obtain rfl := Option.some.inj H
          go_enter Try.func6, Try.ntmps6
          go_wp2_with (first | ((with_reducible refine gate_callee (f := 7) rfl ?_); refine goesL_ (some 6) rfl rfl Try.func7 (by kernel_rfl) rfl #[.string (⟨#[100, 117, 112]⟩ : ByteArray)] rfl (by (try simp only [List.map_toArray, List.map_cons, List.map_nil]); first | done | rfl | (simp only [List.length_drop, List.length_take]; rfl)) ?_; (with_reducible refine (op_Find.calls k (⟨#[100, 117, 112]⟩ : ByteArray) t142 true _ A1.out).mono ?_); rintro e w24 ⟨rfl, hb⟩; refine ⟨_, rfl, ?_⟩; have n0_ := Aside0.mk (below_step (by repeat (first | (with_reducible first | exact HB.out | apply below_alloc | apply pw_below_drewN | apply below_drew1) | exact HB.out)) hb); clear HB; have HB := n0_; clear n0_; (try clear hb); (try clear hb2); (try clear hk); (try clear hi)) | ((with_reducible refine gate_callee (f := 9) rfl ?_); refine goesL_ (some 10) rfl rfl Try.func9 (by kernel_rfl) rfl #[.int .i64 18] rfl (by (try simp only [List.map_toArray, List.map_cons, List.map_nil]); first | done | rfl | (simp only [List.length_drop, List.length_take]; rfl)) ?_; (with_reducible refine (op_Leaves.calls 18 t144 t145 _ A2.out).mono ?_); rintro e w25 ⟨rfl, hb⟩; refine ⟨_, rfl, ?_⟩; have n0_ := Aside0.mk (below_step (by repeat (first | (with_reducible first | exact HB.out | apply below_alloc | apply pw_below_drewN | apply below_drew1) | exact HB.out)) hb); clear HB; have HB := n0_; clear n0_; (try clear hb); (try clear hb2); (try clear hk); (try clear hi)) | (go_at_call 13; (with_reducible refine (op_Needs.calls 18 t146 _ A5.out).mono ?_); rintro e w26 ⟨rfl, hb⟩; have n0_ := Aside0.mk (below_step (by repeat (first | (with_reducible first | exact HB.out | apply below_alloc | apply pw_below_drewN | apply below_drew1) | exact HB.out)) hb); clear HB; have HB := n0_; clear n0_; (try clear hb); (try clear hb2); (try clear hk); (try clear hi)))
          go_ret
          exact ⟨by first | rfl | (simp [errW_none, errW_some] <;> rfl) | (simp [*, errW_none, errW_some] <;> rfl), by repeat (first | (with_reducible first | exact HB.out | apply below_alloc | apply pw_below_drewN | apply below_drew1) | exact HB.out)⟩
      · rw [if_neg c6] at H
        have c6b0 : (t146 == 1) = false := beq_eq_false_iff_ne.mpr c6
        have c6b1 : (t146 != 1) = true := bne_iff_ne.mpr c6
        obtain rfl := Option.some.inj H
        go_enter Try.func6, Try.ntmps6
        go_wp2_with (first | ((with_reducible refine gate_callee (f := 7) rfl ?_); refine goesL_ (some 6) rfl rfl Try.func7 (by kernel_rfl) rfl #[.string (⟨#[100, 117, 112]⟩ : ByteArray)] rfl (by (try simp only [List.map_toArray, List.map_cons, List.map_nil]); first | done | rfl | (simp only [List.length_drop, List.length_take]; rfl)) ?_; (with_reducible refine (op_Find.calls k (⟨#[100, 117, 112]⟩ : ByteArray) t142 true _ A1.out).mono ?_); rintro e w27 ⟨rfl, hb⟩; refine ⟨_, rfl, ?_⟩; have n0_ := Aside0.mk (below_step (by repeat (first | (with_reducible first | exact HB.out | apply below_alloc | apply pw_below_drewN | apply below_drew1) | exact HB.out)) hb); clear HB; have HB := n0_; clear n0_; (try clear hb); (try clear hb2); (try clear hk); (try clear hi)) | ((with_reducible refine gate_callee (f := 9) rfl ?_); refine goesL_ (some 10) rfl rfl Try.func9 (by kernel_rfl) rfl #[.int .i64 18] rfl (by (try simp only [List.map_toArray, List.map_cons, List.map_nil]); first | done | rfl | (simp only [List.length_drop, List.length_take]; rfl)) ?_; (with_reducible refine (op_Leaves.calls 18 t144 t145 _ A2.out).mono ?_); rintro e w28 ⟨rfl, hb⟩; refine ⟨_, rfl, ?_⟩; have n0_ := Aside0.mk (below_step (by repeat (first | (with_reducible first | exact HB.out | apply below_alloc | apply pw_below_drewN | apply below_drew1) | exact HB.out)) hb); clear HB; have HB := n0_; clear n0_; (try clear hb); (try clear hb2); (try clear hk); (try clear hi)) | (go_at_call 13; (with_reducible refine (op_Needs.calls 18 t146 _ A5.out).mono ?_); rintro e w29 ⟨rfl, hb⟩; have n0_ := Aside0.mk (below_step (by repeat (first | (with_reducible first | exact HB.out | apply below_alloc | apply pw_below_drewN | apply below_drew1) | exact HB.out)) hb); clear HB; have HB := n0_; clear n0_; (try clear hb); (try clear hb2); (try clear hk); (try clear hi)))
        go_ret
        exact ⟨by first | rfl | (simp [errW_none, errW_some] <;> rfl) | (simp [*, errW_none, errW_some] <;> rfl), by repeat (first | (with_reducible first | exact HB.out | apply below_alloc | apply pw_below_drewN | apply below_drew1) | exact HB.out)⟩
    · rw [if_neg c4] at H
      have c4b0 : (t142 == 18) = false := beq_eq_false_iff_ne.mpr c4
      have c4b1 : (t142 != 18) = true := bne_iff_ne.mpr c4
      obtain rfl := Option.some.inj H
      go_enter Try.func6, Try.ntmps6
      go_wp2_with (first | ((with_reducible refine gate_callee (f := 7) rfl ?_); refine goesL_ (some 6) rfl rfl Try.func7 (by kernel_rfl) rfl #[.string (⟨#[100, 117, 112]⟩ : ByteArray)] rfl (by (try simp only [List.map_toArray, List.map_cons, List.map_nil]); first | done | rfl | (simp only [List.length_drop, List.length_take]; rfl)) ?_; (with_reducible refine (op_Find.calls k (⟨#[100, 117, 112]⟩ : ByteArray) t142 true _ A1.out).mono ?_); rintro e w30 ⟨rfl, hb⟩; refine ⟨_, rfl, ?_⟩; have n0_ := Aside0.mk (below_step (by repeat (first | (with_reducible first | exact HB.out | apply below_alloc | apply pw_below_drewN | apply below_drew1) | exact HB.out)) hb); clear HB; have HB := n0_; clear n0_; (try clear hb); (try clear hb2); (try clear hk); (try clear hi)) | ((with_reducible refine gate_callee (f := 9) rfl ?_); refine goesL_ (some 10) rfl rfl Try.func9 (by kernel_rfl) rfl #[.int .i64 18] rfl (by (try simp only [List.map_toArray, List.map_cons, List.map_nil]); first | done | rfl | (simp only [List.length_drop, List.length_take]; rfl)) ?_; (with_reducible refine (op_Leaves.calls 18 t144 t145 _ A2.out).mono ?_); rintro e w31 ⟨rfl, hb⟩; refine ⟨_, rfl, ?_⟩; have n0_ := Aside0.mk (below_step (by repeat (first | (with_reducible first | exact HB.out | apply below_alloc | apply pw_below_drewN | apply below_drew1) | exact HB.out)) hb); clear HB; have HB := n0_; clear n0_; (try clear hb); (try clear hb2); (try clear hk); (try clear hi)))
      go_ret
      exact ⟨by first | rfl | (simp [errW_none, errW_some] <;> rfl) | (simp [*, errW_none, errW_some] <;> rfl), by repeat (first | (with_reducible first | exact HB.out | apply below_alloc | apply pw_below_drewN | apply below_drew1) | exact HB.out)⟩
  · replace c3 := Bool.eq_false_iff.mpr c3
    subst c3
    have H1 : (some false) = some r := by rw [if_neg (show ¬ (false = true) by decide)] at H; exact H
    clear H
    have H := H1
    clear H1
    obtain rfl := Option.some.inj H
    go_enter Try.func6, Try.ntmps6
    go_wp2_with (first | ((with_reducible refine gate_callee (f := 7) rfl ?_); refine goesL_ (some 6) rfl rfl Try.func7 (by kernel_rfl) rfl #[.string (⟨#[100, 117, 112]⟩ : ByteArray)] rfl (by (try simp only [List.map_toArray, List.map_cons, List.map_nil]); first | done | rfl | (simp only [List.length_drop, List.length_take]; rfl)) ?_; (with_reducible refine (op_Find.calls k (⟨#[100, 117, 112]⟩ : ByteArray) t142 false _ A1.out).mono ?_); rintro e w32 ⟨rfl, hb⟩; refine ⟨_, rfl, ?_⟩; have n0_ := Aside0.mk (below_step (by repeat (first | (with_reducible first | exact HB.out | apply below_alloc | apply pw_below_drewN | apply below_drew1) | exact HB.out)) hb); clear HB; have HB := n0_; clear n0_; (try clear hb); (try clear hb2); (try clear hk); (try clear hi)) | ((with_reducible refine gate_callee (f := 9) rfl ?_); refine goesL_ (some 10) rfl rfl Try.func9 (by kernel_rfl) rfl #[.int .i64 18] rfl (by (try simp only [List.map_toArray, List.map_cons, List.map_nil]); first | done | rfl | (simp only [List.length_drop, List.length_take]; rfl)) ?_; (with_reducible refine (op_Leaves.calls 18 t144 t145 _ A2.out).mono ?_); rintro e w33 ⟨rfl, hb⟩; refine ⟨_, rfl, ?_⟩; have n0_ := Aside0.mk (below_step (by repeat (first | (with_reducible first | exact HB.out | apply below_alloc | apply pw_below_drewN | apply below_drew1) | exact HB.out)) hb); clear HB; have HB := n0_; clear n0_; (try clear hb); (try clear hb2); (try clear hk); (try clear hi)))
    go_ret
    exact ⟨by first | rfl | (simp [errW_none, errW_some] <;> rfl) | (simp [*, errW_none, errW_some] <;> rfl), by repeat (first | (with_reducible first | exact HB.out | apply below_alloc | apply pw_below_drewN | apply below_drew1) | exact HB.out)⟩

/-! ### tenterhookref06_Upper: function 21 -/
def tenterhookref06_Upper.l1 : Nat → ByteArray → List Int → Int → Option (ByteArray)
  | 0, _, _, _ => none
  | k + 1, x0, x5, x6 => if x6 < (x0.size : Int) then (if 0 ≤ x6 then (if (bt x0 x6) ≥ 97 then (if (bt x0 x6) ≤ 122 then (if x5.length < 140737488355328 then (tenterhookref06_Upper.l1 k x0 (x5 ++ [((bt x0 x6) - 32) % 256]) (wrap64 (x6 + 1))) else (none)) else (if x5.length < 140737488355328 then (tenterhookref06_Upper.l1 k x0 (x5 ++ [bt x0 x6]) (wrap64 (x6 + 1))) else (none))) else (if x5.length < 140737488355328 then (tenterhookref06_Upper.l1 k x0 (x5 ++ [bt x0 x6]) (wrap64 (x6 + 1))) else (none))) else (none)) else (some (strOfNums x5))
def tenterhookref06_Upper.f (k : Nat) (a0 : ByteArray) : Option (ByteArray) := tenterhookref06_Upper.l1 k a0 ([] : List Int) 0
theorem tenterhookref06_Upper.mono_l : ∀ k, (∀ y0 y1 y2, LeO (tenterhookref06_Upper.l1 k y0 y1 y2) (tenterhookref06_Upper.l1 (k + 1) y0 y1 y2))
  | 0 => fun _ _ _ r h => by simp [tenterhookref06_Upper.l1] at h
  | k + 1 => by
    have ih0 := tenterhookref06_Upper.mono_l k
    · intro y0 y1 y2
      unfold tenterhookref06_Upper.l1
      repeat' first
      | (with_reducible exact ih0 _ _ _)
      | (with_reducible exact LeO.refl _)
      | (with_reducible exact LeO.none _)
      | (with_reducible refine LeO.ite ?_ ?_)
      | (with_reducible refine LeO.bind ?_ (fun _ => ?_))
      | exact ih0 _ _ _
      | exact LeO.none _
      | refine LeO.ite ?_ ?_
      | refine LeO.bind ?_ (fun _ => ?_)
theorem tenterhookref06_Upper.mono : ∀ a0 k, LeO (tenterhookref06_Upper.f k a0) (tenterhookref06_Upper.f (k + 1) a0) := by
  intro a0 k
  have ih0 := tenterhookref06_Upper.mono_l k
  unfold tenterhookref06_Upper.f
  repeat' first
      | (with_reducible exact ih0 _ _ _)
      | (with_reducible exact LeO.refl _)
      | (with_reducible exact LeO.none _)
      | (with_reducible refine LeO.ite ?_ ?_)
      | (with_reducible refine LeO.bind ?_ (fun _ => ?_))
      | exact ih0 _ _ _
      | exact LeO.none _
      | refine LeO.ite ?_ ?_
      | refine LeO.bind ?_ (fun _ => ?_)
theorem tenterhookref06_Upper_is : ∀ (k : Nat) (s : ByteArray) (acc : List Int) (i : Int) (r : ByteArray), (acc.length : Int) = i → i ≤ s.size → acc.length ≤ 140737488355328 →
    tenterhookref06_Upper.l1 k s acc i = some r → s.size ≤ 140737488355328 ∧ r = strOfNums (acc ++ ((Go.Proofs.YtlfdempjfjgbdaaH.ints s).drop i.toNat).map Go.Proofs.YtlfdempjfjgbdaaH.up1)
  | 0, _, _, _, _, _, _, _, h => by simp [tenterhookref06_Upper.l1] at h
  | k + 1, s, acc, i, r, h0, h1, hx, h => by
    have hil := Go.Proofs.YtlfdempjfjgbdaaH.ints_length s
    simp only [tenterhookref06_Upper.l1] at h
    by_cases c : i < (s.size : Int)
    · rw [if_pos c, if_pos (by omega)] at h
      have hb := bt_range s i
      have main : ∀ (v : Int), v = Go.Proofs.YtlfdempjfjgbdaaH.up1 (bt s i) → (if acc.length < 140737488355328 then tenterhookref06_Upper.l1 k s (acc ++ [v]) (wrap64 (i + 1)) else none) = some r → s.size ≤ 140737488355328 ∧ r = strOfNums (acc ++ ((Go.Proofs.YtlfdempjfjgbdaaH.ints s).drop i.toNat).map Go.Proofs.YtlfdempjfjgbdaaH.up1) := by
        intro v hv h
        by_cases d : acc.length < 140737488355328
        · rw [if_pos d, show wrap64 (i + 1) = i + 1 by unfold wrap64; omega] at h
          obtain ⟨h3, h2⟩ := tenterhookref06_Upper_is k s _ (i + 1) r (by simp; omega) (by omega) (by simp; omega) h
          have hlt : i.toNat < (Go.Proofs.YtlfdempjfjgbdaaH.ints s).length := by omega
          have hg : (Go.Proofs.YtlfdempjfjgbdaaH.ints s)[i.toNat] = bt s i := by
            have := Go.Proofs.YtlfdempjfjgbdaaH.ints_get s i.toNat (by omega)
            rw [List.getD_eq_getElem?_getD, List.getElem?_eq_getElem hlt] at this
            rw [show ((i.toNat : Nat) : Int) = i by omega] at this
            simpa using this
          refine ⟨h3, ?_⟩
          rw [h2, List.drop_eq_getElem_cons hlt, hg, hv, show (i + 1).toNat = i.toNat + 1 by omega]
          simp
        · rw [if_neg d] at h; cases h
      by_cases a : bt s i ≥ 97
      · rw [if_pos a] at h
        by_cases b : bt s i ≤ 122
        · rw [if_pos b] at h
          exact main _ (by unfold Go.Proofs.YtlfdempjfjgbdaaH.up1; rw [if_pos ⟨a, b⟩]; omega) h
        · rw [if_neg b] at h
          exact main _ (by unfold Go.Proofs.YtlfdempjfjgbdaaH.up1; rw [if_neg (fun hh => b hh.2)]) h
      · rw [if_neg a] at h
        exact main _ (by unfold Go.Proofs.YtlfdempjfjgbdaaH.up1; rw [if_neg (fun hh => a hh.1)]) h
    · rw [if_neg c] at h
      cases h
      rw [List.drop_eq_nil_of_le (by omega)]
      exact ⟨by omega, by simp⟩
set_option maxHeartbeats 8000000 in
set_option maxRecDepth 100000 in
theorem tenterhookref06_Upper.calls (k : Nat) (a0 : ByteArray) (r : ByteArray) (w : World) (h : tenterhookref06_Upper.f k a0 = some r) :
    Calls Try.prog 21 #[.string a0] w fun e w' => e = .returned (.string r) ∧ Below w.heap.size w w' := by
  obtain ⟨hsz, hr⟩ := tenterhookref06_Upper_is k a0 [] 0 r (by simp) (by omega) (by simp) h
  clear h
  simp only [List.nil_append, Int.toNat_zero, List.drop_zero] at hr
  obtain ⟨xs, hxs⟩ : ∃ xs, xs = Go.Proofs.YtlfdempjfjgbdaaH.ints a0 := ⟨_, rfl⟩
  rw [← hxs] at hr
  subst hr
  have Hsz := Aside0.mk hsz
  have hil := Aside0.mk (Go.Proofs.YtlfdempjfjgbdaaH.ints_length a0)
  clear hsz
  have Hxs := Aside0.mk hxs
  clear hxs
  have hconv : ∀ W : World, (convert 9 44 (.string a0)).run Try.prog W = .ok (.slice (some ⟨W.heap.size, 0, none⟩) a0.size (grownCap W a0.size 0 5)) (Lib.bytesWorld W 5 a0) := fun W => Lib.run_convert_string_bytes W 9 44 5 a0 Try.underlying9 Try.underlying44 Try.underlying5
  go_enter Try.func21, Try.ntmps21
  go_wp2
  clear hconv
  obtain ⟨cap, hcap⟩ : ∃ c, c = grownCap w a0.size 0 5 := ⟨_, rfl⟩
  rw [← hcap]
  clear hcap
  have hxs := Hxs.out
  clear Hxs
  have hrow := Aside0.mk (show Go.Proofs.YtlfdempjfjgbdaaH.BRow (Lib.bytesWorld w 5 a0) w.heap.size (Go.Proofs.YtlfdempjfjgbdaaH.upTo xs 0) from by rw [Go.Proofs.YtlfdempjfjgbdaaH.upTo_zero, hxs]; exact Go.Proofs.YtlfdempjfjgbdaaH.conv_row w _ a0)
  have hbel := Aside0.mk (Go.Proofs.YtlfdempjfjgbdaaH.conv_below w 5 a0)
  rw [← hxs] at hil
  have hrng := Aside0.mk (show ∀ i : Nat, i < xs.length → 0 ≤ xs.getD i 0 ∧ xs.getD i 0 ≤ 255 from by
    intro i hi
    rw [hxs, Go.Proofs.YtlfdempjfjgbdaaH.ints_length] at hi
    rw [hxs, Go.Proofs.YtlfdempjfjgbdaaH.ints_get a0 i hi]
    exact bt_range a0 i)
  clear hxs
  generalize Lib.bytesWorld w 5 a0 = w1 at hrow hbel ⊢
  go_loopg [4] a0.size (fun g v4 w' => ∃ (x : Int), 0 ≤ x ∧ Aside0 ((g : Int) + x = (a0.size : Int)) ∧ v4 = .int .i64 x ∧ Aside0 (Go.Proofs.YtlfdempjfjgbdaaH.BRow w' w.heap.size (Go.Proofs.YtlfdempjfjgbdaaH.upTo xs x.toNat)) ∧ Aside0 (Below w.heap.size w w'))
  case atStart => exact ⟨0, by omega, ⟨by omega⟩, (by first | rfl | (simp; done)), hrow, hbel⟩
  case round =>
    clear hrow hbel
    obtain ⟨x, hx0, hg, rfl, hrow, hbel⟩ := hrel
    by_cases hlt : x < (a0.size : Int)
    · have c0 : decide (x < (a0.size : Int)) = true := decide_eq_true hlt
      have hle : xs.length = a0.size := hil.out
      have hsz := Hsz.out
      have hwx : wrap64 (x + 1) = x + 1 := by unfold wrap64; omega
      have hx1 : x.toNat < (Go.Proofs.YtlfdempjfjgbdaaH.upTo xs x.toNat).length := by rw [Go.Proofs.YtlfdempjfjgbdaaH.upTo_length]; omega
      have hx2 : x.toNat < xs.length := by omega
      obtain ⟨hc, hf⟩ := hrow.out x.toNat hx1
      rw [Go.Proofs.YtlfdempjfjgbdaaH.upTo_get xs x.toNat hx2] at hc
      obtain ⟨hc0, hc1⟩ := hrng.out x.toNat hx2
      have hput := Go.Proofs.YtlfdempjfjgbdaaH.BRow.put hrow.out x.toNat hx1
      have hnext := Go.Proofs.YtlfdempjfjgbdaaH.upTo_succ xs x.toNat hx2
      generalize hcx : xs.getD x.toNat 0 = c at hc hc0 hc1 hnext
      have Hwx := Aside0.mk hwx
      have hx0' := eq_true hx0
      have hlt' := eq_true hlt
      by_cases hin : 97 ≤ c ∧ c ≤ 122
      · have c1 : decide (97 ≤ c) = true := decide_eq_true hin.1
        have c2 : decide (c ≤ 122) = true := decide_eq_true hin.2
        have Hput := Aside0.mk (show Go.Proofs.YtlfdempjfjgbdaaH.BRow (wr.setCell ⟨w.heap.size, x.toNat, none⟩ (.int .u8 (c - 32))) w.heap.size (Go.Proofs.YtlfdempjfjgbdaaH.upTo xs (x + 1).toNat) from by
          have := hput (c - 32); rw [show (c - 32) = Go.Proofs.YtlfdempjfjgbdaaH.up1 c by unfold Go.Proofs.YtlfdempjfjgbdaaH.up1; rw [if_pos hin], hnext] at this
          rw [show (c - 32) = Go.Proofs.YtlfdempjfjgbdaaH.up1 c by unfold Go.Proofs.YtlfdempjfjgbdaaH.up1; rw [if_pos hin]]
          rwa [show (x + 1).toNat = x.toNat + 1 by omega])
        have hc3 : 97 ≤ c := hin.1
        have hc4 : c ≤ 122 := hin.2
        have hm : (c - 32) % 256 = c - 32 := by omega
        clear hput hnext hx1 hx2 hle hsz hwx hx0 hlt hin hcx
        go_wp2
        cases gk with
        | zero => exact absurd hg.out (by have := of_eq_true hlt'; omega)
        | succ k1 =>
          go_roundg k1
          case measure => omega
          case rel => exact ⟨_, (by have h1_ := Hwx.out; have h2_ := of_eq_true hx0'; show 0 ≤ wrap64 (x + 1); omega), ⟨by have := hg.out; have h1_ := Hwx.out; show (k1 : Int) + wrap64 (x + 1) = _; omega⟩, (by first | rfl | (simp; done) | (simp [*]; done)), ⟨by have h1_ := Hwx.out; rw [h1_]; exact Hput.out⟩, ⟨below_set hbel.out (Nat.le_refl _)⟩⟩
      · have heq : Go.Proofs.YtlfdempjfjgbdaaH.up1 c = c := by unfold Go.Proofs.YtlfdempjfjgbdaaH.up1; rw [if_neg hin]
        have Hrow := Aside0.mk (show Go.Proofs.YtlfdempjfjgbdaaH.BRow wr w.heap.size (Go.Proofs.YtlfdempjfjgbdaaH.upTo xs (x + 1).toNat) from by
          rw [show (x + 1).toNat = x.toNat + 1 by omega, Go.Proofs.YtlfdempjfjgbdaaH.upTo_same xs x.toNat hx2 (by rw [hcx]; exact heq)]
          exact hrow.out)
        have c2 : decide (97 ≤ c) = false ∨ (decide (97 ≤ c) = true ∧ decide (c ≤ 122) = false) := by
          by_cases h97 : 97 ≤ c
          · exact .inr ⟨decide_eq_true h97, decide_eq_false (fun h => hin ⟨h97, h⟩)⟩
          · exact .inl (decide_eq_false h97)
        clear hput hnext hx1 hx2 hle hsz hwx hx0 hlt hin heq hcx
        rcases c2 with c2 | ⟨c2, c3⟩ <;>
        · go_wp2
          cases gk with
          | zero => exact absurd hg.out (by have := of_eq_true hlt'; omega)
          | succ k1 =>
            go_roundg k1
            case measure => omega
            case rel => exact ⟨_, (by have h1_ := Hwx.out; have h2_ := of_eq_true hx0'; show 0 ≤ wrap64 (x + 1); omega), ⟨by have := hg.out; have h1_ := Hwx.out; show (k1 : Int) + wrap64 (x + 1) = _; omega⟩, (by first | rfl | (simp; done) | (simp [*]; done)), ⟨by have h1_ := Hwx.out; rw [h1_]; exact Hrow.out⟩, ⟨hbel.out⟩⟩
    · have c0 : decide (x < (a0.size : Int)) = false := decide_eq_false hlt
      have hle : xs.length = a0.size := hil.out
      have hrow2 := hrow.out
      rw [Go.Proofs.YtlfdempjfjgbdaaH.upTo_all xs x.toNat (by omega)] at hrow2
      have hl3 : (xs.map Go.Proofs.YtlfdempjfjgbdaaH.up1).length = a0.size := by rw [List.length_map]; exact hle
      have hstr := Go.Proofs.YtlfdempjfjgbdaaH.BRow.str (P := Try.prog) hrow2 44 9 5 Try.underlying44 Try.underlying5 Try.underlying9 cap
      rw [hl3] at hstr
      clear hrow2 hl3 hle hlt
      go_wp2
      go_ret
      exact ⟨by first | rfl | (simp; done), hbel.out⟩

def tenterhookref07_names.f  : Option (ByteArray) := some (⟨#[40, 76, 73, 84, 41, 32, 40, 66, 82, 65, 78, 67, 72, 41, 32, 40, 48, 66, 82, 65, 78, 67, 72, 41, 32, 40, 67, 65, 76, 76, 41, 32, 69, 88, 73, 84, 32, 40, 68, 79, 41, 32, 40, 63, 68, 79, 41, 32, 40, 76, 79, 79, 80, 41, 32, 40, 43, 76, 79, 79, 80, 41, 32, 85, 78, 76, 79, 79, 80, 32, 73, 32, 74, 32, 62, 82, 32, 82, 62, 32, 82, 64, 32, 69, 88, 69, 67, 85, 84, 69, 32, 67, 65, 84, 67, 72, 32, 84, 72, 82, 79, 87, 32, 68, 85, 80, 32, 68, 82, 79, 80, 32, 83, 87, 65, 80, 32, 79, 86, 69, 82, 32, 82, 79, 84, 32, 78, 73, 80, 32, 84, 85, 67, 75, 32, 50, 68, 85, 80, 32, 50, 68, 82, 79, 80, 32, 50, 83, 87, 65, 80, 32, 50, 79, 86, 69, 82, 32, 63, 68, 85, 80, 32, 80, 73, 67, 75, 32, 82, 79, 76, 76, 32, 68, 69, 80, 84, 72, 32, 43, 32, 45, 32, 42, 32, 47, 32, 77, 79, 68, 32, 47, 77, 79, 68, 32, 42, 47, 32, 42, 47, 77, 79, 68, 32, 49, 43, 32, 49, 45, 32, 50, 42, 32, 50, 47, 32, 78, 69, 71, 65, 84, 69, 32, 65, 66, 83, 32, 77, 73, 78, 32, 77, 65, 88, 32, 65, 78, 68, 32, 79, 82, 32, 88, 79, 82, 32, 73, 78, 86, 69, 82, 84, 32, 76, 83, 72, 73, 70, 84, 32, 82, 83, 72, 73, 70, 84, 32, 61, 32, 60, 62, 32, 60, 32, 62, 32, 85, 60, 32, 48, 61, 32, 48, 60, 32, 87, 73, 84, 72, 73, 78, 32, 85, 77, 42, 32, 77, 42, 32, 85, 77, 47, 77, 79, 68, 32, 70, 77, 47, 77, 79, 68, 32, 83, 77, 47, 82, 69, 77, 32, 83, 62, 68, 32, 68, 43, 32, 68, 78, 69, 71, 65, 84, 69, 32, 67, 69, 76, 76, 83, 32, 67, 69, 76, 76, 43, 32, 67, 72, 65, 82, 43, 32, 65, 76, 73, 71, 78, 69, 68, 32, 64, 32, 33, 32, 67, 64, 32, 67, 33, 32, 43, 33, 32, 70, 73, 76, 76, 32, 77, 79, 86, 69, 32, 67, 65, 83, 32, 69, 77, 73, 84, 32, 84, 89, 80, 69, 32, 46, 32, 85, 46, 32, 67, 82, 32, 83, 80, 65, 67, 69, 32, 60, 35, 32, 35, 32, 35, 83, 32, 72, 79, 76, 68, 32, 83, 73, 71, 78, 32, 35, 62, 32, 66, 65, 83, 69, 32, 68, 69, 67, 73, 77, 65, 76, 32, 72, 69, 88, 32, 77, 69, 32, 84, 73, 67, 75, 83, 32, 80, 65, 85, 83, 69, 32, 83, 76, 69, 69, 80, 32, 66, 89, 69, 32, 78, 79, 84, 69, 32, 67, 82, 69, 65, 84, 69, 32, 40, 68, 79, 69, 83, 41, 32, 72, 69, 82, 69, 32, 65, 76, 76, 79, 84, 32, 44, 32, 67, 79, 77, 80, 73, 76, 69, 44, 32, 73, 77, 77, 69, 68, 73, 65, 84, 69]⟩ : ByteArray)
set_option maxHeartbeats 8000000 in
set_option maxRecDepth 100000 in
theorem tenterhookref07_names.calls  (r : ByteArray) (w : World) (h : tenterhookref07_names.f  = some r) :
    Calls Try.prog 22 #[] w fun e w' => e = .returned (.string r) ∧ Drawn0 w w' := by
  have H : (some (⟨#[40, 76, 73, 84, 41, 32, 40, 66, 82, 65, 78, 67, 72, 41, 32, 40, 48, 66, 82, 65, 78, 67, 72, 41, 32, 40, 67, 65, 76, 76, 41, 32, 69, 88, 73, 84, 32, 40, 68, 79, 41, 32, 40, 63, 68, 79, 41, 32, 40, 76, 79, 79, 80, 41, 32, 40, 43, 76, 79, 79, 80, 41, 32, 85, 78, 76, 79, 79, 80, 32, 73, 32, 74, 32, 62, 82, 32, 82, 62, 32, 82, 64, 32, 69, 88, 69, 67, 85, 84, 69, 32, 67, 65, 84, 67, 72, 32, 84, 72, 82, 79, 87, 32, 68, 85, 80, 32, 68, 82, 79, 80, 32, 83, 87, 65, 80, 32, 79, 86, 69, 82, 32, 82, 79, 84, 32, 78, 73, 80, 32, 84, 85, 67, 75, 32, 50, 68, 85, 80, 32, 50, 68, 82, 79, 80, 32, 50, 83, 87, 65, 80, 32, 50, 79, 86, 69, 82, 32, 63, 68, 85, 80, 32, 80, 73, 67, 75, 32, 82, 79, 76, 76, 32, 68, 69, 80, 84, 72, 32, 43, 32, 45, 32, 42, 32, 47, 32, 77, 79, 68, 32, 47, 77, 79, 68, 32, 42, 47, 32, 42, 47, 77, 79, 68, 32, 49, 43, 32, 49, 45, 32, 50, 42, 32, 50, 47, 32, 78, 69, 71, 65, 84, 69, 32, 65, 66, 83, 32, 77, 73, 78, 32, 77, 65, 88, 32, 65, 78, 68, 32, 79, 82, 32, 88, 79, 82, 32, 73, 78, 86, 69, 82, 84, 32, 76, 83, 72, 73, 70, 84, 32, 82, 83, 72, 73, 70, 84, 32, 61, 32, 60, 62, 32, 60, 32, 62, 32, 85, 60, 32, 48, 61, 32, 48, 60, 32, 87, 73, 84, 72, 73, 78, 32, 85, 77, 42, 32, 77, 42, 32, 85, 77, 47, 77, 79, 68, 32, 70, 77, 47, 77, 79, 68, 32, 83, 77, 47, 82, 69, 77, 32, 83, 62, 68, 32, 68, 43, 32, 68, 78, 69, 71, 65, 84, 69, 32, 67, 69, 76, 76, 83, 32, 67, 69, 76, 76, 43, 32, 67, 72, 65, 82, 43, 32, 65, 76, 73, 71, 78, 69, 68, 32, 64, 32, 33, 32, 67, 64, 32, 67, 33, 32, 43, 33, 32, 70, 73, 76, 76, 32, 77, 79, 86, 69, 32, 67, 65, 83, 32, 69, 77, 73, 84, 32, 84, 89, 80, 69, 32, 46, 32, 85, 46, 32, 67, 82, 32, 83, 80, 65, 67, 69, 32, 60, 35, 32, 35, 32, 35, 83, 32, 72, 79, 76, 68, 32, 83, 73, 71, 78, 32, 35, 62, 32, 66, 65, 83, 69, 32, 68, 69, 67, 73, 77, 65, 76, 32, 72, 69, 88, 32, 77, 69, 32, 84, 73, 67, 75, 83, 32, 80, 65, 85, 83, 69, 32, 83, 76, 69, 69, 80, 32, 66, 89, 69, 32, 78, 79, 84, 69, 32, 67, 82, 69, 65, 84, 69, 32, 40, 68, 79, 69, 83, 41, 32, 72, 69, 82, 69, 32, 65, 76, 76, 79, 84, 32, 44, 32, 67, 79, 77, 80, 73, 76, 69, 44, 32, 73, 77, 77, 69, 68, 73, 65, 84, 69]⟩ : ByteArray)) = some r := h
  clear h
  obtain rfl := Option.some.inj H
  go_enter Try.func22, Try.ntmps22
  go_wp2
  go_ret
  exact ⟨by first | rfl | (simp; done) | (simp [*]; done), by repeat (first | exact Drawn0.refl _ | apply Drawn0.step)⟩

/-! ### tenterhookref06_at: function 36 -/
def tenterhookref06_at.f (a0_0 : ByteArray) (a0_1 : Int) : Option (Int) := some (mx 0 (mn a0_1 (a0_0.size : Int)))
set_option maxHeartbeats 8000000 in
set_option maxRecDepth 100000 in
theorem tenterhookref06_at.calls (a0_0 : ByteArray) (a0_1 : Int) (r : Int) (w : World) (h : tenterhookref06_at.f a0_0 a0_1 = some r) :
    Calls Try.prog 36 #[.agg #[.string a0_0, .int .i64 a0_1]] w fun e w' => e = .returned (.int .i64 r) ∧ Below w.heap.size w w' := by
  have hu36 := Try.underlying36
  have HB := Aside0.mk (Below.refl w.heap.size w)
  have H : (some (mx 0 (mn a0_1 (a0_0.size : Int)))) = some r := h
  clear h
  obtain ⟨ji2, hji2⟩ : ∃ j_ : Int, (mn a0_1 (a0_0.size : Int)) = j_ := ⟨_, rfl⟩
  replace H : (some (mx 0 (ji2))) = some r := by first | (rw [hji2] at H; exact H) | (simp only [hji2] at H ⊢; exact H)
  have hji2_ : (if (a0_0.size : Int) < a0_1 then (a0_0.size : Int) else a0_1) = ji2 := hji2
  obtain ⟨ji3, hji3⟩ : ∃ j_ : Int, (mx 0 (ji2)) = j_ := ⟨_, rfl⟩
  replace H : (some ji3) = some r := by first | (rw [hji3] at H; exact H) | (simp only [hji3] at H ⊢; exact H)
  have hji3_ : (if 0 < (ji2) then (ji2) else 0) = ji3 := hji3
  obtain rfl := Option.some.inj H
  go_enter Try.func36, Try.ntmps36
  go_wp2_with (first | ((with_reducible refine gate_dst (N := 1) rfl ?_); refine box_event ?hg (N := 1) ?hd (cs := #[.string a0_0, .int .i64 a0_1]) (t := 36) ?hr ?_; (case hd => rfl); (case hg => rfl); (case hr => first | (go_simp; done) | (go_simp; rfl)); intro gb158 hg w4 hbox hb; have n0_ := Aside0.mk (below_step (by repeat (first | (with_reducible first | exact HB.out | apply below_alloc | apply pw_below_drewN | apply below_drew1) | exact HB.out)) hb); have n1_ := Aside0.mk (hbox); have n2_ := Aside0.mk ((by rw [hg]; exact (below_size (by repeat (first | (with_reducible first | exact HB.out | apply below_alloc | apply pw_below_drewN | apply below_drew1) | exact HB.out))) : w.heap.size ≤ gb158)); have n3_ := Aside0.mk ((by rw [hg]; exact (below_size (by repeat (first | (with_reducible first | exact HB.out | apply below_alloc | apply pw_below_drewN | apply below_drew1) | exact HB.out))) : w.heap.size ≤ gb158)); clear HB; have HB := n0_; have BK158 := n1_; have GW158 := n2_; have GE158 := n3_; clear n0_ n1_ n2_ n3_; clear hb hbox hg; have hcz5_0 : w4.cell? ⟨gb158, 0, none⟩ = some (.string a0_0) := (blk_cell BK158.out 0).trans rfl; have hcz5_1 : w4.cell? ⟨gb158, 1, none⟩ = some (.int .i64 a0_1) := (blk_cell BK158.out 1).trans rfl; have hfz5_0 := blk_frozen BK158.out 0; have hfz5_1 := blk_frozen BK158.out 1))
  go_ret
  exact ⟨by first | rfl | (simp [errW_none, errW_some] <;> rfl) | (simp only [← hji2, ← hji3]; first | rfl | (simp [errW_none, errW_some] <;> rfl)) | (simp [*, errW_none, errW_some] <;> rfl), by repeat (first | (with_reducible first | exact HB.out | apply below_alloc | apply pw_below_drewN | apply below_drew1 | refine below_set ?_ GE158.out) | exact HB.out)⟩

/-! ### tenterhookref06_is: function 37 -/
def tenterhookref06_is.f (a0 : Int) (a1 : Int) : Option (Bool) := if (wrap64 (a0)) = a1 then (some true) else (if a1 = 32 then (some (decide (a0 ≤ 32))) else (some false))
set_option maxHeartbeats 8000000 in
set_option maxRecDepth 100000 in
theorem tenterhookref06_is.calls (a0 : Int) (a1 : Int) (r : Bool) (w : World) (h : tenterhookref06_is.f a0 a1 = some r) :
    Calls Try.prog 37 #[.int .u8 a0, .int .i64 a1] w fun e w' => e = .returned (.bool r) ∧ Drawn0 w w' := by
  have H : (if (wrap64 (a0)) = a1 then (some true) else (if a1 = 32 then (some (decide (a0 ≤ 32))) else (some false))) = some r := h
  clear h
  by_cases c3 : (wrap64 (a0)) = a1
  · rw [if_pos c3] at H
    have c3b0 : ((wrap64 (a0)) == a1) = true := beq_iff_eq.mpr c3
    have c3b1 : ((wrap64 (a0)) != a1) = false := bne_eq_false_iff_eq.mpr c3
    clear c3
    obtain rfl := Option.some.inj H
    go_enter Try.func37, Try.ntmps37
    go_wp2
    go_ret
    exact ⟨by first | rfl | (simp; done) | (simp [*]; done), by repeat (first | exact Drawn0.refl _ | apply Drawn0.step)⟩
  · rw [if_neg c3] at H
    have c3b0 : ((wrap64 (a0)) == a1) = false := beq_eq_false_iff_ne.mpr c3
    have c3b1 : ((wrap64 (a0)) != a1) = true := bne_iff_ne.mpr c3
    by_cases c4 : a1 = 32
    · rw [if_pos c4] at H
      have c4b0 : (a1 == 32) = true := beq_iff_eq.mpr c4
      have c4b1 : (a1 != 32) = false := bne_eq_false_iff_eq.mpr c4
      clear c4
      obtain rfl := Option.some.inj H
      go_enter Try.func37, Try.ntmps37
      go_wp2
      go_ret
      exact ⟨by first | rfl | (simp; done) | (simp [*]; done), by repeat (first | exact Drawn0.refl _ | apply Drawn0.step)⟩
    · rw [if_neg c4] at H
      have c4b0 : (a1 == 32) = false := beq_eq_false_iff_ne.mpr c4
      have c4b1 : (a1 != 32) = true := bne_iff_ne.mpr c4
      obtain rfl := Option.some.inj H
      go_enter Try.func37, Try.ntmps37
      go_wp2
      go_ret
      exact ⟨by first | rfl | (simp; done) | (simp [*]; done), by repeat (first | exact Drawn0.refl _ | apply Drawn0.step)⟩

/-! ### tenterhookref06_Parse: function 32 -/
def tenterhookref06_Parse.l0 : Nat → Int → Int → Int → ByteArray → Int → Option (ByteArray × ByteArray × Int)
  | 0, _, _, _, _, _ => none
  | k + 1, x1, x6, x7, x160000, x160001 => if x7 < (x160000.size : Int) then (if 0 ≤ x7 then ((tenterhookref06_is.f (bt x160000 x7) x1).bind fun t162 => (if t162 = true then (if 0 ≤ x6 then (if x6 ≤ x7 then (if x7 ≤ (x160000.size : Int) then (some (x160000.extract (x6 : Int).toNat (x7 : Int).toNat, x160000, wrap64 (x7 + 1))) else (none)) else (none)) else (none)) else (tenterhookref06_Parse.l0 k x1 x6 (wrap64 (x7 + 1)) x160000 x160001))) else (none)) else (if 0 ≤ x6 then (if x6 ≤ (x160000.size : Int) then (some (x160000.extract (x6 : Int).toNat x160000.size, x160000, (x160000.size : Int))) else (none)) else (none))
def tenterhookref06_Parse.f (k : Nat) (a0_0 : ByteArray) (a0_1 : Int) (a1 : Int) : Option (ByteArray × ByteArray × Int) := (tenterhookref06_at.f a0_0 a0_1).bind fun t161 => (tenterhookref06_Parse.l0 k a1 t161 t161 a0_0 a0_1)
theorem tenterhookref06_Parse.mono_l : ∀ k, (∀ y0 y1 y2 y3 y4, LeO (tenterhookref06_Parse.l0 k y0 y1 y2 y3 y4) (tenterhookref06_Parse.l0 (k + 1) y0 y1 y2 y3 y4))
  | 0 => fun _ _ _ _ _ r h => by simp [tenterhookref06_Parse.l0] at h
  | k + 1 => by
    have ih0 := tenterhookref06_Parse.mono_l k
    · intro y0 y1 y2 y3 y4
      unfold tenterhookref06_Parse.l0
      repeat' first
      | (with_reducible exact ih0 _ _ _ _ _)
      | (with_reducible exact LeO.refl _)
      | (with_reducible exact LeO.none _)
      | (with_reducible refine LeO.ite ?_ ?_)
      | (with_reducible refine LeO.bind ?_ (fun _ => ?_))
      | exact ih0 _ _ _ _ _
      | exact LeO.none _
      | refine LeO.ite ?_ ?_
      | refine LeO.bind ?_ (fun _ => ?_)
theorem tenterhookref06_Parse.mono : ∀ a0 a1 a2 k, LeO (tenterhookref06_Parse.f k a0 a1 a2) (tenterhookref06_Parse.f (k + 1) a0 a1 a2) := by
  intro a0 a1 a2 k
  have ih0 := tenterhookref06_Parse.mono_l k
  unfold tenterhookref06_Parse.f
  repeat' first
      | (with_reducible exact ih0 _ _ _ _ _)
      | (with_reducible exact LeO.refl _)
      | (with_reducible exact LeO.none _)
      | (with_reducible refine LeO.ite ?_ ?_)
      | (with_reducible refine LeO.bind ?_ (fun _ => ?_))
      | exact ih0 _ _ _ _ _
      | exact LeO.none _
      | refine LeO.ite ?_ ?_
      | refine LeO.bind ?_ (fun _ => ?_)
def tenterhookref06_Parse.T6 : Bool × List (List Nat × List Nat) := (true, [([], []), ([0], [0]), ([], []), ([], []), ([1, 2, 3], [1, 2, 3]), ([], []), ([5], [5]), ([], []), ([7], [7]), ([6, 8], [6, 8]), ([4, 0, 1, 2, 3, 4], [4]), ([9, 10, 0, 1, 2, 3, 4, 5, 6, 7, 8, 9, 10], [9])])
def tenterhookref06_Parse.B6 : List Nat := [0, 1, 0, 0, 15, 0, 32, 0, 128, 480, 31, 2047]
theorem tenterhookref06_Parse.tab6 : rtab .any (opsOf Try.f32 6) = tenterhookref06_Parse.T6 := by kernel_rfl
theorem tenterhookref06_Parse.bits6 : waitsOk tenterhookref06_Parse.T6.2 tenterhookref06_Parse.B6 = true := by kernel_rfl
def tenterhookref06_Parse.T7 : Bool × List (List Nat × List Nat) := (true, [([], []), ([0], [0]), ([], []), ([1, 2], [1, 2]), ([], []), ([4], [4]), ([], []), ([6], [6]), ([7], [7]), ([5, 8], [5, 8]), ([3, 0, 1, 2, 3], [3]), ([9, 10, 0, 1, 2, 3, 4, 5, 6, 7, 8, 9, 10], [9])])
def tenterhookref06_Parse.B7 : List Nat := [0, 1, 0, 7, 0, 16, 0, 64, 192, 496, 15, 2047]
theorem tenterhookref06_Parse.tab7 : rtab .any (opsOf Try.f32 7) = tenterhookref06_Parse.T7 := by kernel_rfl
theorem tenterhookref06_Parse.bits7 : waitsOk tenterhookref06_Parse.T7.2 tenterhookref06_Parse.B7 = true := by kernel_rfl
set_option maxHeartbeats 8000000 in
set_option maxRecDepth 100000 in
theorem tenterhookref06_Parse.calls (k : Nat) (a0_0 : ByteArray) (a0_1 : Int) (a1 : Int) (r1 : ByteArray) (r2 : ByteArray) (r3 : Int) (w : World) (h : tenterhookref06_Parse.f k a0_0 a0_1 a1 = some (r1, r2, r3)) :
    Calls Try.prog 32 #[.agg #[.string a0_0, .int .i64 a0_1], .int .i64 a1] w fun e w' => e = .returned (.tuple #[.string r1, .agg #[.string r2, .int .i64 r3]]) ∧ Below w.heap.size w w' := by
  have hu36 := Try.underlying36
  have HB := Aside0.mk (Below.refl w.heap.size w)
  have H : ((tenterhookref06_at.f a0_0 a0_1).bind fun t161 => (tenterhookref06_Parse.l0 k a1 t161 t161 a0_0 a0_1)) = some (r1, r2, r3) := h
  clear h
  replace H := Option.bind_eq_some_iff.mp H
  obtain ⟨t161, A30, H⟩ := H
  replace H : (tenterhookref06_Parse.l0 k a1 t161 t161 a0_0 a0_1) = some (r1, r2, r3) := H
  have A3 := Aside0.mk A30
  clear A30
  have H' := Aside0.mk H
  clear H
  go_enter Try.func32, Try.ntmps32
  go_wp2_with (first | ((with_reducible refine gate_dst (N := 2) rfl ?_); refine box_event ?hg (N := 2) ?hd (cs := #[.string a0_0, .int .i64 a0_1]) (t := 36) ?hr ?_; (case hd => rfl); (case hg => rfl); (case hr => first | (go_simp; done) | (go_simp; rfl)); intro gb159 hg w4 hbox hb; have n0_ := Aside0.mk (below_step (by repeat (first | (with_reducible first | exact HB.out | apply below_alloc | apply pw_below_drewN | apply below_drew1) | exact HB.out)) hb); have n1_ := Aside0.mk (hbox); have n2_ := Aside0.mk ((by rw [hg]; exact (below_size (by repeat (first | (with_reducible first | exact HB.out | apply below_alloc | apply pw_below_drewN | apply below_drew1) | exact HB.out))) : w.heap.size ≤ gb159)); have n3_ := Aside0.mk ((by rw [hg]; exact (below_size (by repeat (first | (with_reducible first | exact HB.out | apply below_alloc | apply pw_below_drewN | apply below_drew1) | exact HB.out))) : w.heap.size ≤ gb159)); clear HB; have HB := n0_; have BK159 := n1_; have GW159 := n2_; have GE159 := n3_; clear n0_ n1_ n2_ n3_; clear hb hbox hg) | ((with_reducible refine gate_dst (N := 5) rfl ?_); refine box_event ?hg (N := 5) ?hd (cs := #[.string (⟨#[]⟩ : ByteArray), .int .i64 0]) (t := 36) ?hr ?_; (case hd => rfl); (case hg => rfl); (case hr => first | (go_simp; done) | (go_simp; rfl)); intro gb160 hg w5 hbox hb; have n0_ := Aside0.mk (blk_below (g := gb159) (o := .cells #[.string a0_0, .int .i64 a0_1] 36 (0, 0)) (by (with_reducible repeat (first | refine blk_drewN ?_ _ | refine blk_drew ?_ | refine blk_alloc ?_ _)); exact BK159.out) hb); have n1_ := Aside0.mk (below_step (by repeat (first | (with_reducible first | exact HB.out | apply below_alloc | apply pw_below_drewN | apply below_drew1 | refine below_set ?_ GE159.out) | exact HB.out)) hb); have n2_ := Aside0.mk (hbox); have n3_ := Aside0.mk ((by rw [hg]; exact (below_size (by repeat (first | (with_reducible first | exact HB.out | apply below_alloc | apply pw_below_drewN | apply below_drew1 | refine below_set ?_ GE159.out) | exact HB.out))) : w.heap.size ≤ gb160)); have n4_ := Aside0.mk ((by rw [hg]; exact (below_size (by repeat (first | (with_reducible first | exact HB.out | apply below_alloc | apply pw_below_drewN | apply below_drew1 | refine below_set ?_ GE159.out) | exact HB.out))) : w.heap.size ≤ gb160)); have n5_ := Aside0.mk ((by rw [hg]; exact Nat.ne_of_lt (blk_lt (g := gb159) (o := .cells #[.string a0_0, .int .i64 a0_1] 36 (0, 0)) (by (with_reducible repeat (first | refine blk_drewN ?_ _ | refine blk_drew ?_ | refine blk_alloc ?_ _)); exact BK159.out)) : gb159 ≠ gb160)); have n6_ := Aside0.mk ((by rw [hg]; exact Nat.ne_of_gt (blk_lt (g := gb159) (o := .cells #[.string a0_0, .int .i64 a0_1] 36 (0, 0)) (by (with_reducible repeat (first | refine blk_drewN ?_ _ | refine blk_drew ?_ | refine blk_alloc ?_ _)); exact BK159.out)) : gb160 ≠ gb159)); clear BK159; clear HB; have BK159 := n0_; have HB := n1_; have BK160 := n2_; have GW160 := n3_; have GE160 := n4_; have NB159_160 := n5_; have NB160_159 := n6_; clear n0_ n1_ n2_ n3_ n4_ n5_ n6_; clear hb hbox hg; have hnb6 := NB159_160.out; have hnc6 := NB160_159.out; have hcz7_0 : w5.cell? ⟨gb159, 0, none⟩ = some (.string a0_0) := (blk_cell BK159.out 0).trans rfl; have hcz7_1 : w5.cell? ⟨gb159, 1, none⟩ = some (.int .i64 a0_1) := (blk_cell BK159.out 1).trans rfl; have hfz7_0 := blk_frozen BK159.out 0; have hfz7_1 := blk_frozen BK159.out 1) | ((with_reducible refine gate_callee (f := 36) rfl ?_); refine goesL_ (some 9) rfl rfl Try.func36 (by kernel_rfl) rfl #[.agg #[.string a0_0, .int .i64 a0_1]] rfl (by (try simp only [List.map_toArray, List.map_cons, List.map_nil]); first | done | rfl | (simp only [List.length_drop, List.length_take]; rfl)) ?_; (with_reducible refine (tenterhookref06_at.calls a0_0 a0_1 t161 _ A3.out).mono ?_); rintro e w8 ⟨rfl, hb⟩; refine ⟨_, rfl, ?_⟩; have n0_ := Aside0.mk (blk_below (g := gb159) (o := .cells #[.string a0_0, .int .i64 a0_1] 36 (0, 0)) (by (with_reducible repeat (first | refine blk_drewN ?_ _ | refine blk_drew ?_ | refine blk_alloc ?_ _)); exact BK159.out) hb); have n1_ := Aside0.mk (blk_below (g := gb160) (o := .cells #[.string (⟨#[]⟩ : ByteArray), .int .i64 0] 36 (0, 0)) (by (with_reducible repeat (first | refine blk_drewN ?_ _ | refine blk_drew ?_ | refine blk_alloc ?_ _)); exact BK160.out) hb); have n2_ := Aside0.mk (below_step (by repeat (first | (with_reducible first | exact HB.out | apply below_alloc | apply pw_below_drewN | apply below_drew1 | refine below_set ?_ GE159.out | refine below_set ?_ GE160.out) | exact HB.out)) hb); clear BK159; clear BK160; clear HB; have BK159 := n0_; have BK160 := n1_; have HB := n2_; clear n0_ n1_ n2_; (try clear hb); (try clear hb2); (try clear hk); (try clear hi)))
  go_loopg [7] k (fun kq v7 w' => ∃ (x7_1 : Int) (x161000_1 : ByteArray) (x161001_1 : Int), v7 = .int .i64 x7_1 ∧ Aside0 (tenterhookref06_Parse.l0 kq a1 t161 x7_1 a0_0 a0_1 = some (r1, r2, r3)) ∧ Aside0 (kq ≤ k) ∧ Aside0 (w'.heap[gb159]? = some (.cells #[.string a0_0, .int .i64 a0_1] 36 (0, 0))) ∧ Aside0 (w'.heap[gb160]? = some (.cells #[.string x161000_1, .int .i64 x161001_1] 36 (0, 0))) ∧ Aside0 (Below w.heap.size w w'))
  case atStart => exact ⟨(t161), ((⟨#[]⟩ : ByteArray)), (0), (by first | rfl | (simp; done) | (simp [*]; done)), H', ⟨Nat.le_refl _⟩, ⟨by (with_reducible repeat (first | refine blk_drewN ?_ _ | refine blk_drew ?_ | refine blk_alloc ?_ _)); exact BK159.out⟩, ⟨by (with_reducible repeat (first | refine blk_drewN ?_ _ | refine blk_drew ?_ | refine blk_alloc ?_ _)); exact BK160.out⟩, ⟨by repeat (first | (with_reducible first | exact HB.out | apply below_alloc | apply pw_below_drewN | apply below_drew1 | refine below_set ?_ GE159.out | refine below_set ?_ GE160.out) | exact HB.out)⟩⟩
  case round =>
    clear H'
    try clear p2
    try clear c3
    try clear c6
    try clear hcz7_0
    try clear hcz7_1
    try clear hfz7_0
    try clear hfz7_1
    obtain ⟨x7_1, x161000_1, x161001_1, rfl, HA, HK1, BK159, BK160, HB⟩ := hrel
    cases gk with
    | zero => exact absurd HA.out (by simp [tenterhookref06_Parse.l0])
    | succ k1 =>
      have H := HA.out
      clear HA
      simp only [tenterhookref06_Parse.l0] at H
      by_cases c9 : x7_1 < (a0_0.size : Int)
      · rw [if_pos c9] at H
        have c9b0 : decide (x7_1 < (a0_0.size : Int)) = true := decide_eq_true c9
        clear c9
        by_cases c10 : 0 ≤ x7_1
        · rw [if_pos c10] at H
          have c10b0 : decide (0 ≤ x7_1) = true := decide_eq_true c10
          clear c10
          replace H := Option.bind_eq_some_iff.mp H
          obtain ⟨t162, A120, H⟩ := H
          replace H : (if t162 = true then (if 0 ≤ t161 then (if t161 ≤ x7_1 then (if x7_1 ≤ (a0_0.size : Int) then (some (a0_0.extract (t161 : Int).toNat (x7_1 : Int).toNat, a0_0, wrap64 (x7_1 + 1))) else (none)) else (none)) else (none)) else (tenterhookref06_Parse.l0 k1 a1 t161 (wrap64 (x7_1 + 1)) a0_0 a0_1)) = some (r1, r2, r3) := H
          have A12 := Aside0.mk A120
          clear A120
          by_cases c13 : t162 = true
          · subst c13
            have H1 : (if 0 ≤ t161 then (if t161 ≤ x7_1 then (if x7_1 ≤ (a0_0.size : Int) then (some (a0_0.extract (t161 : Int).toNat (x7_1 : Int).toNat, a0_0, wrap64 (x7_1 + 1))) else (none)) else (none)) else (none)) = some (r1, r2, r3) := by rw [if_pos rfl] at H; exact H
            clear H
            have H := H1
            clear H1
            by_cases c14 : 0 ≤ t161
            · rw [if_pos c14] at H
              have c14b0 := eq_true c14
              have c14b1 : decide (0 ≤ t161) = true := decide_eq_true c14
              clear c14
              by_cases c15 : t161 ≤ x7_1
              · rw [if_pos c15] at H
                have c15b0 := eq_true c15
                have c15b1 : decide (t161 ≤ x7_1) = true := decide_eq_true c15
                clear c15
                by_cases c16 : x7_1 ≤ (a0_0.size : Int)
                · rw [if_pos c16] at H
                  have c16b0 := eq_true c16
                  have c16b1 : decide (x7_1 ≤ (a0_0.size : Int)) = true := decide_eq_true c16
                  clear c16
                  simp only [Option.some.injEq, Prod.mk.injEq] at H
                  obtain ⟨rfl, rfl, rfl⟩ := H
                  have hnb17 := NB159_160.out
                  have hnc17 := NB160_159.out
                  have hcz18_0 : wr.cell? ⟨gb159, 0, none⟩ = some (.string a0_0) := (blk_cell BK159.out 0).trans rfl
                  have hcz18_1 : wr.cell? ⟨gb159, 1, none⟩ = some (.int .i64 a0_1) := (blk_cell BK159.out 1).trans rfl
                  have hfz18_0 := blk_frozen BK159.out 0
                  have hfz18_1 := blk_frozen BK159.out 1
                  have p11 : 0 ≤ (x7_1 : Int) := of_decide_eq_true (by first | (with_reducible assumption) | assumption)
                  have q11 : x7_1 < (a0_0.size : Int) := of_decide_eq_true (by first | (with_reducible assumption) | assumption)
                  have hx11 := bt_at a0_0 x7_1
                  replace p11 := eq_true p11
                  replace q11 := eq_true q11
                  try go_wp2_with (first | ((with_reducible refine gate_callee (f := 37) rfl ?_); refine goesL_ (some 23) rfl rfl Try.func37 (by kernel_rfl) rfl #[.int .u8 (bt a0_0 x7_1), .int .i64 a1] rfl (by (try simp only [List.map_toArray, List.map_cons, List.map_nil]); first | done | rfl | (simp only [List.length_drop, List.length_take]; rfl)) ?_; (with_reducible refine (tenterhookref06_is.calls (bt a0_0 x7_1) a1 true _ A12.out).mono ?_); rintro e w' ⟨rfl, ⟨nd, rfl⟩⟩; refine ⟨_, rfl, ?_⟩; (try (rw [drewN_self wr]; generalize hq_ : World.drewN wr _ = wr; have n0_ : Aside0 (wr.heap[gb159]? = some (.cells #[.string a0_0, .int .i64 a0_1] 36 (0, 0))) := ⟨by rw [← hq_]; exact (by (with_reducible repeat (first | refine blk_drewN ?_ _ | refine blk_drew ?_ | refine blk_alloc ?_ _)); exact BK159.out)⟩; have n1_ : Aside0 (wr.heap[gb160]? = some (.cells #[.string x161000_1, .int .i64 x161001_1] 36 (0, 0))) := ⟨by rw [← hq_]; exact (by (with_reducible repeat (first | refine blk_drewN ?_ _ | refine blk_drew ?_ | refine blk_alloc ?_ _)); exact BK160.out)⟩; have n2_ : Aside0 (Below w.heap.size w wr) := ⟨by rw [← hq_]; exact (by repeat (first | (with_reducible first | exact HB.out | apply below_alloc | apply pw_below_drewN | apply below_drew1 | refine below_set ?_ GE159.out | refine below_set ?_ GE160.out) | exact HB.out))⟩; clear BK159 BK160 HB hq_; have BK159 := n0_; have BK160 := n1_; have HB := n2_; clear n0_ n1_ n2_))))
                  have n0_ := Aside0.mk (blk_drew BK159.out)
                  have n1_ := Aside0.mk (blk_drew BK160.out)
                  have n2_ := Aside0.mk (below_drew1 HB.out)
                  clear BK159
                  clear BK160
                  clear HB
                  have BK159 := n0_
                  have BK160 := n1_
                  have HB := n2_
                  clear n0_ n1_ n2_
                  refine start_ (n := 12) (S := fun w' => w'.cell? ⟨gb159, 0, none⟩ = some (.string a0_0) ∧ w'.cell? ⟨gb159, 1, none⟩ = some (.int .i64 a0_1)) (ds := []) #[false, false, false, false, false, false, false, false, false, false, false, false] (by kernel_rfl) rfl rfl ⟨(blk_cell BK159.out 0).trans rfl, (blk_cell BK159.out 1).trans rfl⟩ (fun hHeld => ?_); refine with_tabW tenterhookref06_Parse.tab6 tenterhookref06_Parse.bits6 (fun HT_ HW_ => ?_)
                  generalize wr.drew = w19 at BK159 BK160 HB hHeld ⊢
                  refine pure_ (i := 0) (N := some 24) (v := ?_) (a' := ?_) #[true, false, false, false, false, false, false, false, false, false, false, false] rfl rfl (any_of HT_.out (by kernel_rfl)) (fun _ _ _ h => h) (Or.inl ⟨by rfl, ?_⟩) ?_ ?_
                  rotate_left
                  · intro w'
                    go_simp
                    with_reducible rfl
                  rotate_left
                  · simp only [Act.put, List.setIfInBounds_toArray, List.set_cons_zero, List.set_cons_succ, i64_w, i32_w]
                    rfl
                  refine pure_ (i := 2) (N := some 26) (v := ?_) (a' := ?_) #[true, false, true, false, false, false, false, false, false, false, false, false] rfl rfl (any_of HT_.out (by kernel_rfl)) (fun _ _ _ h => h) (Or.inl ⟨by rfl, ?_⟩) ?_ ?_
                  rotate_left
                  · intro w'
                    go_simp
                    with_reducible rfl
                  rotate_left
                  · simp only [Act.put, List.setIfInBounds_toArray, List.set_cons_zero, List.set_cons_succ, i64_w, i32_w]
                    rfl
                  refine pure_ (i := 3) (N := some 27) (v := ?_) (a' := ?_) #[true, false, true, true, false, false, false, false, false, false, false, false] rfl rfl (any_of HT_.out (by kernel_rfl)) (fun _ _ _ h => h) (Or.inl ⟨by rfl, ?_⟩) ?_ ?_
                  rotate_left
                  · intro w'
                    go_simp
                    with_reducible rfl
                  rotate_left
                  · simp only [Act.put, List.setIfInBounds_toArray, List.set_cons_zero, List.set_cons_succ, i64_w, i32_w]
                    rfl
                  refine pure_ (i := 5) (N := some 29) (v := ?_) (a' := ?_) #[true, false, true, true, false, true, false, false, false, false, false, false] rfl rfl (any_of HT_.out (by kernel_rfl)) (fun _ _ _ h => h) (Or.inl ⟨by rfl, ?_⟩) ?_ ?_
                  rotate_left
                  · intro w'
                    go_simp
                    with_reducible rfl
                  rotate_left
                  · simp only [Act.put, List.setIfInBounds_toArray, List.set_cons_zero, List.set_cons_succ, i64_w, i32_w]
                    rfl
                  refine pure_ (i := 7) (N := some 31) (v := ?_) (a' := ?_) #[true, false, true, true, false, true, false, true, false, false, false, false] rfl rfl (any_of HT_.out (by kernel_rfl)) (fun _ _ _ h => h) (Or.inl ⟨by rfl, ?_⟩) ?_ ?_
                  rotate_left
                  · intro w'
                    go_simp
                    with_reducible rfl
                  rotate_left
                  · simp only [Act.put, List.setIfInBounds_toArray, List.set_cons_zero, List.set_cons_succ, i64_w, i32_w]
                    rfl
                  refine pure_ (i := 8) (N := some 32) (v := ?_) (a' := ?_) #[true, false, true, true, false, true, false, true, true, false, false, false] rfl rfl (any_of HT_.out (by kernel_rfl)) (fun _ _ _ h => h) (Or.inl ⟨by rfl, ?_⟩) ?_ ?_
                  rotate_left
                  · intro w'
                    go_simp
                    with_reducible rfl
                  rotate_left
                  · simp only [Act.put, List.setIfInBounds_toArray, List.set_cons_zero, List.set_cons_succ, i64_w, i32_w]
                    rfl
                  refine take_ (i := 1) (N := some 25) (v := ?_) (a' := ?_) #[true, true, true, true, false, true, false, true, true, false, false, false] rfl rfl (take_ofW HT_.out HW_.out (by kernel_rfl)) (fun _ _ _ h => h) (Or.inl ⟨by rfl, ?_⟩) hHeld ?_ ?_
                  rotate_left
                  · rintro w' ⟨s0, s1⟩
                    go_simp
                    with_reducible rfl
                  rotate_left
                  · simp only [Act.put, List.setIfInBounds_toArray, List.set_cons_zero, List.set_cons_succ, i64_w, i32_w]
                    rfl
                  refine pure_ (i := 4) (N := some 28) (v := ?_) (a' := ?_) #[true, true, true, true, true, true, false, true, true, false, false, false] rfl rfl (any_of HT_.out (by kernel_rfl)) (fun _ _ _ h => h) (Or.inl ⟨by rfl, ?_⟩) ?_ ?_
                  rotate_left
                  · intro w'
                    go_simp
                    with_reducible rfl
                  rotate_left
                  · simp only [Act.put, List.setIfInBounds_toArray, List.set_cons_zero, List.set_cons_succ, i64_w, i32_w]
                    rfl
                  refine pure_ (i := 10) (N := some 4) (v := ?_) (a' := ?_) #[true, true, true, true, true, true, false, true, true, false, true, false] rfl rfl (any_of HT_.out (by kernel_rfl)) (fun _ _ _ h => h) (Or.inl ⟨by rfl, ?_⟩) ?_ ?_
                  rotate_left
                  · intro w'
                    go_simp
                    with_reducible rfl
                  rotate_left
                  · simp only [Act.put, List.setIfInBounds_toArray, List.set_cons_zero, List.set_cons_succ, i64_w, i32_w]
                    rfl
                  refine take_ (i := 6) (N := some 30) (v := ?_) (a' := ?_) #[true, true, true, true, true, true, true, true, true, false, true, false] rfl rfl (take_ofW HT_.out HW_.out (by kernel_rfl)) (fun _ _ _ h => h) (Or.inl ⟨by rfl, ?_⟩) hHeld ?_ ?_
                  rotate_left
                  · rintro w' ⟨s0, s1⟩
                    go_simp
                    with_reducible rfl
                  rotate_left
                  · simp only [Act.put, List.setIfInBounds_toArray, List.set_cons_zero, List.set_cons_succ, i64_w, i32_w]
                    rfl
                  refine pure_ (i := 9) (N := some 33) (v := ?_) (a' := ?_) #[true, true, true, true, true, true, true, true, true, true, true, false] rfl rfl (any_of HT_.out (by kernel_rfl)) (fun _ _ _ h => h) (Or.inl ⟨by rfl, ?_⟩) ?_ ?_
                  rotate_left
                  · intro w'
                    go_simp
                    with_reducible rfl
                  rotate_left
                  · simp only [Act.put, List.setIfInBounds_toArray, List.set_cons_zero, List.set_cons_succ, i64_w, i32_w]
                    rfl
                  refine one_ (i := 11) (N := none) #[true, true, true, true, true, true, true, true, true, true, true, true] rfl rfl (one_of HT_.out (by kernel_rfl)) (by decide) (fun K hK => ?_)
                  have hs20 : w19.cell? ⟨gb160, 0, none⟩ = some (.string x161000_1) := (blk_cell BK160.out 0).trans rfl
                  have hfs20 := blk_frozen BK160.out 0
                  have hns20_0 := NB159_160.out
                  have hms20_0 := NB160_159.out
                  have hs21 : w19.cell? ⟨gb160, 1, none⟩ = some (.int .i64 x161001_1) := (blk_cell BK160.out 1).trans rfl
                  have hfs21 := blk_frozen BK160.out 1
                  have hns21_0 := NB159_160.out
                  have hms21_0 := NB160_159.out
                  refine skip_ (w1 := ?_) (by rfl) rfl ?_ ?_
                  rotate_left
                  · go_simp
                    rfl
                  refine hK.out _ _ ⟨((cell_far (p := ⟨gb160, _, none⟩) NB159_160.out _).trans (((cell_far (p := ⟨gb160, _, none⟩) NB159_160.out _).trans (hHeld.1)))), ((cell_far (p := ⟨gb160, _, none⟩) NB159_160.out _).trans (((cell_far (p := ⟨gb160, _, none⟩) NB159_160.out _).trans (hHeld.2))))⟩ (fun hHeld => ?_)
                  clear hK K
                  refine done_ (done_of HT_.out (by kernel_rfl)) ?_
                  try go_wp2
                  refine bodyPost_ret (results_tc rfl _ _ gb160 36 #[.string a0_0, .int .i64 (wrap64 (x7_1 + 1))] (0, 0) _ rfl (by (with_reducible repeat (first | refine blk_drewN ?_ _ | refine blk_drew ?_ | refine blk_alloc ?_ _)); refine blk_put (cs := #[.string a0_0, .int .i64 x161001_1]) ?_ 1 _ rfl; (with_reducible repeat (first | refine blk_drewN ?_ _ | refine blk_drew ?_ | refine blk_alloc ?_ _)); refine blk_put (cs := #[.string x161000_1, .int .i64 x161001_1]) ?_ 0 _ rfl; (with_reducible repeat (first | refine blk_drewN ?_ _ | refine blk_drew ?_ | refine blk_alloc ?_ _)); exact BK160.out) Try.underlying36 rfl (by kernel_rfl)) rfl ?_
                  exact ⟨by first | rfl | (simp [errW_none, errW_some] <;> rfl) | (simp [*, errW_none, errW_some] <;> rfl), by repeat (first | (with_reducible first | exact HB.out | apply below_alloc | apply pw_below_drewN | apply below_drew1 | refine below_set ?_ GE159.out | refine below_set ?_ GE160.out) | exact HB.out)⟩
                · rw [if_neg c16] at H
                  exact absurd H (by simp)
              · rw [if_neg c15] at H
                exact absurd H (by simp)
            · rw [if_neg c14] at H
              exact absurd H (by simp)
          · replace c13 := Bool.eq_false_iff.mpr c13
            subst c13
            have H1 : (tenterhookref06_Parse.l0 k1 a1 t161 (wrap64 (x7_1 + 1)) a0_0 a0_1) = some (r1, r2, r3) := by rw [if_neg (show ¬ (false = true) by decide)] at H; exact H
            clear H
            have H := H1
            clear H1
            have H' := Aside0.mk H
            clear H
            have hnb22 := NB159_160.out
            have hnc22 := NB160_159.out
            have hcz23_0 : wr.cell? ⟨gb159, 0, none⟩ = some (.string a0_0) := (blk_cell BK159.out 0).trans rfl
            have hcz23_1 : wr.cell? ⟨gb159, 1, none⟩ = some (.int .i64 a0_1) := (blk_cell BK159.out 1).trans rfl
            have hfz23_0 := blk_frozen BK159.out 0
            have hfz23_1 := blk_frozen BK159.out 1
            have p11 : 0 ≤ (x7_1 : Int) := of_decide_eq_true (by first | (with_reducible assumption) | assumption)
            have q11 : x7_1 < (a0_0.size : Int) := of_decide_eq_true (by first | (with_reducible assumption) | assumption)
            have hx11 := bt_at a0_0 x7_1
            replace p11 := eq_true p11
            replace q11 := eq_true q11
            go_wp2_with (first | ((with_reducible refine gate_callee (f := 37) rfl ?_); refine goesL_ (some 23) rfl rfl Try.func37 (by kernel_rfl) rfl #[.int .u8 (bt a0_0 x7_1), .int .i64 a1] rfl (by (try simp only [List.map_toArray, List.map_cons, List.map_nil]); first | done | rfl | (simp only [List.length_drop, List.length_take]; rfl)) ?_; (with_reducible refine (tenterhookref06_is.calls (bt a0_0 x7_1) a1 false _ A12.out).mono ?_); rintro e w' ⟨rfl, ⟨nd, rfl⟩⟩; refine ⟨_, rfl, ?_⟩))
            go_roundg k1
            case measure => have := HK1.out; omega
            case rel => exact ⟨(wrap64 (x7_1 + 1)), (x161000_1), (x161001_1), (by first | rfl | (simp; done) | (simp [*]; done)), H', ⟨by have := HK1.out; omega⟩, ⟨by (with_reducible repeat (first | refine blk_drewN ?_ _ | refine blk_drew ?_ | refine blk_alloc ?_ _)); exact BK159.out⟩, ⟨by (with_reducible repeat (first | refine blk_drewN ?_ _ | refine blk_drew ?_ | refine blk_alloc ?_ _)); exact BK160.out⟩, ⟨by repeat (first | (with_reducible first | exact HB.out | apply below_alloc | apply pw_below_drewN | apply below_drew1 | refine below_set ?_ GE159.out | refine below_set ?_ GE160.out) | exact HB.out)⟩⟩
        · rw [if_neg c10] at H
          exact absurd H (by simp)
      · rw [if_neg c9] at H
        have c9b0 : decide (x7_1 < (a0_0.size : Int)) = false := decide_eq_false c9
        clear c9
        by_cases c24 : 0 ≤ t161
        · rw [if_pos c24] at H
          have c24b0 := eq_true c24
          have c24b1 : decide (0 ≤ t161) = true := decide_eq_true c24
          clear c24
          by_cases c25 : t161 ≤ (a0_0.size : Int)
          · rw [if_pos c25] at H
            have c25b0 := eq_true c25
            have c25b1 : decide (t161 ≤ (a0_0.size : Int)) = true := decide_eq_true c25
            clear c25
            simp only [Option.some.injEq, Prod.mk.injEq] at H
            obtain ⟨rfl, rfl, rfl⟩ := H
            have hnb26 := NB159_160.out
            have hnc26 := NB160_159.out
            have hcz27_0 : wr.cell? ⟨gb159, 0, none⟩ = some (.string a0_0) := (blk_cell BK159.out 0).trans rfl
            have hcz27_1 : wr.cell? ⟨gb159, 1, none⟩ = some (.int .i64 a0_1) := (blk_cell BK159.out 1).trans rfl
            have hfz27_0 := blk_frozen BK159.out 0
            have hfz27_1 := blk_frozen BK159.out 1
            try go_wp2
            have n0_ := Aside0.mk (blk_drew BK159.out)
            have n1_ := Aside0.mk (blk_drew BK160.out)
            have n2_ := Aside0.mk (below_drew1 HB.out)
            clear BK159
            clear BK160
            clear HB
            have BK159 := n0_
            have BK160 := n1_
            have HB := n2_
            clear n0_ n1_ n2_
            refine start_ (n := 12) (S := fun w' => w'.cell? ⟨gb159, 0, none⟩ = some (.string a0_0) ∧ w'.cell? ⟨gb159, 1, none⟩ = some (.int .i64 a0_1)) (ds := []) #[false, false, false, false, false, false, false, false, false, false, false, false] (by kernel_rfl) rfl rfl ⟨(blk_cell BK159.out 0).trans rfl, (blk_cell BK159.out 1).trans rfl⟩ (fun hHeld => ?_); refine with_tabW tenterhookref06_Parse.tab7 tenterhookref06_Parse.bits7 (fun HT_ HW_ => ?_)
            generalize wr.drew = w28 at BK159 BK160 HB hHeld ⊢
            refine pure_ (i := 0) (N := some 34) (v := ?_) (a' := ?_) #[true, false, false, false, false, false, false, false, false, false, false, false] rfl rfl (any_of HT_.out (by kernel_rfl)) (fun _ _ _ h => h) (Or.inl ⟨by rfl, ?_⟩) ?_ ?_
            rotate_left
            · intro w'
              go_simp
              with_reducible rfl
            rotate_left
            · simp only [Act.put, List.setIfInBounds_toArray, List.set_cons_zero, List.set_cons_succ, i64_w, i32_w]
              rfl
            refine pure_ (i := 2) (N := some 36) (v := ?_) (a' := ?_) #[true, false, true, false, false, false, false, false, false, false, false, false] rfl rfl (any_of HT_.out (by kernel_rfl)) (fun _ _ _ h => h) (Or.inl ⟨by rfl, ?_⟩) ?_ ?_
            rotate_left
            · intro w'
              go_simp
              with_reducible rfl
            rotate_left
            · simp only [Act.put, List.setIfInBounds_toArray, List.set_cons_zero, List.set_cons_succ, i64_w, i32_w]
              rfl
            refine pure_ (i := 4) (N := some 38) (v := ?_) (a' := ?_) #[true, false, true, false, true, false, false, false, false, false, false, false] rfl rfl (any_of HT_.out (by kernel_rfl)) (fun _ _ _ h => h) (Or.inl ⟨by rfl, ?_⟩) ?_ ?_
            rotate_left
            · intro w'
              go_simp
              with_reducible rfl
            rotate_left
            · simp only [Act.put, List.setIfInBounds_toArray, List.set_cons_zero, List.set_cons_succ, i64_w, i32_w]
              rfl
            refine pure_ (i := 6) (N := some 40) (v := ?_) (a' := ?_) #[true, false, true, false, true, false, true, false, false, false, false, false] rfl rfl (any_of HT_.out (by kernel_rfl)) (fun _ _ _ h => h) (Or.inl ⟨by rfl, ?_⟩) ?_ ?_
            rotate_left
            · intro w'
              go_simp
              with_reducible rfl
            rotate_left
            · simp only [Act.put, List.setIfInBounds_toArray, List.set_cons_zero, List.set_cons_succ, i64_w, i32_w]
              rfl
            refine take_ (i := 1) (N := some 35) (v := ?_) (a' := ?_) #[true, true, true, false, true, false, true, false, false, false, false, false] rfl rfl (take_ofW HT_.out HW_.out (by kernel_rfl)) (fun _ _ _ h => h) (Or.inl ⟨by rfl, ?_⟩) hHeld ?_ ?_
            rotate_left
            · rintro w' ⟨s0, s1⟩
              go_simp
              with_reducible rfl
            rotate_left
            · simp only [Act.put, List.setIfInBounds_toArray, List.set_cons_zero, List.set_cons_succ, i64_w, i32_w]
              rfl
            refine pure_ (i := 3) (N := some 37) (v := ?_) (a' := ?_) #[true, true, true, true, true, false, true, false, false, false, false, false] rfl rfl (any_of HT_.out (by kernel_rfl)) (fun _ _ _ h => h) (Or.inl ⟨by rfl, ?_⟩) ?_ ?_
            rotate_left
            · intro w'
              go_simp
              with_reducible rfl
            rotate_left
            · simp only [Act.put, List.setIfInBounds_toArray, List.set_cons_zero, List.set_cons_succ, i64_w, i32_w]
              rfl
            refine pure_ (i := 10) (N := some 4) (v := ?_) (a' := ?_) #[true, true, true, true, true, false, true, false, false, false, true, false] rfl rfl (any_of HT_.out (by kernel_rfl)) (fun _ _ _ h => h) (Or.inl ⟨by rfl, ?_⟩) ?_ ?_
            rotate_left
            · intro w'
              go_simp
              with_reducible rfl
            rotate_left
            · simp only [Act.put, List.setIfInBounds_toArray, List.set_cons_zero, List.set_cons_succ, i64_w, i32_w]
              rfl
            refine take_ (i := 5) (N := some 39) (v := ?_) (a' := ?_) #[true, true, true, true, true, true, true, false, false, false, true, false] rfl rfl (take_ofW HT_.out HW_.out (by kernel_rfl)) (fun _ _ _ h => h) (Or.inl ⟨by rfl, ?_⟩) hHeld ?_ ?_
            rotate_left
            · rintro w' ⟨s0, s1⟩
              go_simp
              with_reducible rfl
            rotate_left
            · simp only [Act.put, List.setIfInBounds_toArray, List.set_cons_zero, List.set_cons_succ, i64_w, i32_w]
              rfl
            refine take_ (i := 7) (N := some 41) (v := ?_) (a' := ?_) #[true, true, true, true, true, true, true, true, false, false, true, false] rfl rfl (take_ofW HT_.out HW_.out (by kernel_rfl)) (fun _ _ _ h => h) (Or.inl ⟨by rfl, ?_⟩) hHeld ?_ ?_
            rotate_left
            · rintro w' ⟨s0, s1⟩
              go_simp
              with_reducible rfl
            rotate_left
            · simp only [Act.put, List.setIfInBounds_toArray, List.set_cons_zero, List.set_cons_succ, i64_w, i32_w]
              rfl
            refine pure_ (i := 8) (N := some 42) (v := ?_) (a' := ?_) #[true, true, true, true, true, true, true, true, true, false, true, false] rfl rfl (any_of HT_.out (by kernel_rfl)) (fun _ _ _ h => h) (Or.inl ⟨by rfl, ?_⟩) ?_ ?_
            rotate_left
            · intro w'
              go_simp
              with_reducible rfl
            rotate_left
            · simp only [Act.put, List.setIfInBounds_toArray, List.set_cons_zero, List.set_cons_succ, i64_w, i32_w]
              rfl
            refine pure_ (i := 9) (N := some 43) (v := ?_) (a' := ?_) #[true, true, true, true, true, true, true, true, true, true, true, false] rfl rfl (any_of HT_.out (by kernel_rfl)) (fun _ _ _ h => h) (Or.inl ⟨by rfl, ?_⟩) ?_ ?_
            rotate_left
            · intro w'
              go_simp
              with_reducible rfl
            rotate_left
            · simp only [Act.put, List.setIfInBounds_toArray, List.set_cons_zero, List.set_cons_succ, i64_w, i32_w]
              rfl
            refine one_ (i := 11) (N := none) #[true, true, true, true, true, true, true, true, true, true, true, true] rfl rfl (one_of HT_.out (by kernel_rfl)) (by decide) (fun K hK => ?_)
            have hs29 : w28.cell? ⟨gb160, 0, none⟩ = some (.string x161000_1) := (blk_cell BK160.out 0).trans rfl
            have hfs29 := blk_frozen BK160.out 0
            have hns29_0 := NB159_160.out
            have hms29_0 := NB160_159.out
            have hs30 : w28.cell? ⟨gb160, 1, none⟩ = some (.int .i64 x161001_1) := (blk_cell BK160.out 1).trans rfl
            have hfs30 := blk_frozen BK160.out 1
            have hns30_0 := NB159_160.out
            have hms30_0 := NB160_159.out
            refine skip_ (w1 := ?_) (by rfl) rfl ?_ ?_
            rotate_left
            · go_simp
              rfl
            refine hK.out _ _ ⟨((cell_far (p := ⟨gb160, _, none⟩) NB159_160.out _).trans (((cell_far (p := ⟨gb160, _, none⟩) NB159_160.out _).trans (hHeld.1)))), ((cell_far (p := ⟨gb160, _, none⟩) NB159_160.out _).trans (((cell_far (p := ⟨gb160, _, none⟩) NB159_160.out _).trans (hHeld.2))))⟩ (fun hHeld => ?_)
            clear hK K
            refine done_ (done_of HT_.out (by kernel_rfl)) ?_
            try go_wp2
            refine bodyPost_ret (results_tc rfl _ _ gb160 36 #[.string a0_0, .int .i64 (a0_0.size : Int)] (0, 0) _ rfl (by (with_reducible repeat (first | refine blk_drewN ?_ _ | refine blk_drew ?_ | refine blk_alloc ?_ _)); refine blk_put (cs := #[.string a0_0, .int .i64 x161001_1]) ?_ 1 _ rfl; (with_reducible repeat (first | refine blk_drewN ?_ _ | refine blk_drew ?_ | refine blk_alloc ?_ _)); refine blk_put (cs := #[.string x161000_1, .int .i64 x161001_1]) ?_ 0 _ rfl; (with_reducible repeat (first | refine blk_drewN ?_ _ | refine blk_drew ?_ | refine blk_alloc ?_ _)); exact BK160.out) Try.underlying36 rfl (by kernel_rfl)) rfl ?_
            exact ⟨by first | rfl | (simp [errW_none, errW_some] <;> rfl) | (simp [*, errW_none, errW_some] <;> rfl), by repeat (first | (with_reducible first | exact HB.out | apply below_alloc | apply pw_below_drewN | apply below_drew1 | refine below_set ?_ GE159.out | refine below_set ?_ GE160.out) | exact HB.out)⟩
          · rw [if_neg c25] at H
            exact absurd H (by simp)
        · rw [if_neg c24] at H
          exact absurd H (by simp)

end Go.Proofs.Ytlfdempjfjgbdaa.POpIs
