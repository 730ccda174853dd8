-- Written by this session's wip/gen.py (it drives the kit's print over a plain variation's bodies of some functions; their contracts are proved by hand).
import Derived.Test.YtbgihgkobojfaaaPDictNamesx0
import Derived.Test.YtbgihgkobojfaaaPDictNamesx1
import Derived.Test.YtbgihgkobojfaaaPDictNamesx2
import Derived.Test.YtbgihgkobojfaaaPDictNamesx5
import Derived.Test.YtbgihgkobojfaaaPDictNamesx6
namespace Go.Proofs.Ytbgihgkobojfaaa.PDictNames
open Go.RowKit Go.Proofs.YtbgihgkobojfaaaW.PrintWords Go.Proofs.YtbgihgkobojfaaaW.PrintLast Go.Proofs.YtbgihgkobojfaaaW.PrintMore
attribute [local go_sem] max2_int min2_int max_two min_two max_three min_three max_four min_four   -- for this text's walks alone
set_option linter.unusedVariables false
set_option linter.unusedSimpArgs false

attribute [local go_sem high] eqA33 eqA35
/-! ### tenterhooklaw11_DictNames: function 5 -/
mutual
def tenterhooklaw11_DictNames.j0 : Nat → List (S40) → Bool → Bool → ByteArray → Bool → Int → Int → Int → Int → Option (Bool)
  | 0, _, _, _, _, _, _, _, _, _ => none
  | k + 1, x0, x5, x26, x204000, x204001, x204002, x204003, x204004, x204005 => if x26 = true then (some x5) else ((tenterhooklaw11_entries.f k x0).bind fun t206 => ((tenterhooklaw11_entry.f x204000 x204001 x204002 x204003 x204004 x204005).bind fun bt209 => ((dict_Add.f k t206 bt209.1 bt209.2.1 bt209.2.2.1 bt209.2.2.2.1 bt209.2.2.2.2.1 bt209.2.2.2.2.2).bind fun bt215 => (if (x204000.size : Int) = 0 then (tenterhooklaw11_DictNames.j1 k x0 x5 bt215.1 bt215.2 true x204000 x204001 x204002 x204003 x204004 x204005) else (tenterhooklaw11_DictNames.j1 k x0 x5 bt215.1 bt215.2 (decide ((x204000.size : Int) > 31)) x204000 x204001 x204002 x204003 x204004 x204005)))))
def tenterhooklaw11_DictNames.j1 : Nat → List (S40) → Bool → List (S35) → Int → Bool → ByteArray → Bool → Int → Int → Int → Int → Option (Bool)
  | 0, _, _, _, _, _, _, _, _, _, _, _ => none
  | k + 1, x0, x5, x6, x7, x8, x204000, x204001, x204002, x204003, x204004, x204005 => if x7 = 0 then (if (x6.length : Int) = (wrap64 ((x0.length : Int) + 1)) then (if 0 ≤ (x0.length : Int) then (if (x0.length : Int) < (x6.length : Int) then ((dict_Add.f k x6 ((rd_T35 x6 (x0.length : Int)).f0) ((rd_T35 x6 (x0.length : Int)).f1) ((rd_T35 x6 (x0.length : Int)).f2) ((rd_T35 x6 (x0.length : Int)).f3) ((rd_T35 x6 (x0.length : Int)).f4.f0) ((rd_T35 x6 (x0.length : Int)).f4.f1)).bind fun bt221 => (if x5 = true then (if x8 = true then (some false) else ((dict_Sane.f k ((rd_T35 x6 (x0.length : Int)).f0) ((rd_T35 x6 (x0.length : Int)).f1) ((rd_T35 x6 (x0.length : Int)).f2) ((rd_T35 x6 (x0.length : Int)).f3) ((rd_T35 x6 (x0.length : Int)).f4.f0) ((rd_T35 x6 (x0.length : Int)).f4.f1)).bind fun t225 => (if t225 = true then (if (((rd_T35 x6 (x0.length : Int)).f1) == x204001) = true then (if ((rd_T35 x6 (x0.length : Int)).f2) = x204002 then (if ((rd_T35 x6 (x0.length : Int)).f3) = x204003 then (if (((rd_T35 x6 (x0.length : Int)).f4.f0) == x204004 && (((rd_T35 x6 (x0.length : Int)).f4.f1) == x204005)) = true then (if bt221.2 = 0 then (if (bt221.1.length : Int) = (wrap64 ((x6.length : Int) + 1)) then (if 0 ≤ (x6.length : Int) then (if (x6.length : Int) < (bt221.1.length : Int) then (some ((((rd_T35 bt221.1 (x6.length : Int)).f0).toList) == (((rd_T35 x6 (x0.length : Int)).f0).toList) && (((rd_T35 bt221.1 (x6.length : Int)).f1) == ((rd_T35 x6 (x0.length : Int)).f1) && (((rd_T35 bt221.1 (x6.length : Int)).f2) == ((rd_T35 x6 (x0.length : Int)).f2) && (((rd_T35 bt221.1 (x6.length : Int)).f3) == ((rd_T35 x6 (x0.length : Int)).f3) && ((((rd_T35 bt221.1 (x6.length : Int)).f4.f0) == ((rd_T35 x6 (x0.length : Int)).f4.f0) && (((rd_T35 bt221.1 (x6.length : Int)).f4.f1) == ((rd_T35 x6 (x0.length : Int)).f4.f1))))))))) else (none)) else (none)) else (some false)) else (some false)) else (some false)) else (some false)) else (some false)) else (some false)) else (some false)))) else (some false))) else (none)) else (none)) else (some false)) else (if x5 = true then (if ((x7 == (-16)) == x8) = true then (some ((x6.length : Int) == (x0.length : Int))) else (some false)) else (some false))
end
def tenterhooklaw11_DictNames.f (k : Nat) (l0 : List (S40)) (a1_0 : ByteArray) (a1_1 : Bool) (a1_2 : Int) (a1_3 : Int) (a1_4 : Int) (a1_5 : Int) : Option (Bool) := (tenterhooklaw11_awake.f k).bind fun t204 => ((tenterhookref11_Few.f k l0).bind fun t205 => (if t205 = true then (if (a1_0.size : Int) > 100 then (tenterhooklaw11_DictNames.j0 k l0 t204 true a1_0 a1_1 a1_2 a1_3 a1_4 a1_5) else (tenterhooklaw11_DictNames.j0 k l0 t204 (decide ((l0.length : Int) > 500)) a1_0 a1_1 a1_2 a1_3 a1_4 a1_5)) else (tenterhooklaw11_DictNames.j0 k l0 t204 true a1_0 a1_1 a1_2 a1_3 a1_4 a1_5)))
theorem tenterhooklaw11_DictNames.mono_l : ∀ k, (∀ y0 y1 y2 y3 y4 y5 y6 y7 y8, LeO (tenterhooklaw11_DictNames.j0 k y0 y1 y2 y3 y4 y5 y6 y7 y8) (tenterhooklaw11_DictNames.j0 (k + 1) y0 y1 y2 y3 y4 y5 y6 y7 y8)) ∧ (∀ y0 y1 y2 y3 y4 y5 y6 y7 y8 y9 y10, LeO (tenterhooklaw11_DictNames.j1 k y0 y1 y2 y3 y4 y5 y6 y7 y8 y9 y10) (tenterhooklaw11_DictNames.j1 (k + 1) y0 y1 y2 y3 y4 y5 y6 y7 y8 y9 y10))
  | 0 => ⟨fun _ _ _ _ _ _ _ _ _ r h => by simp [tenterhooklaw11_DictNames.j0] at h, fun _ _ _ _ _ _ _ _ _ _ _ r h => by simp [tenterhooklaw11_DictNames.j1] at h⟩
  | k + 1 => by
    obtain ⟨ih0, ih1⟩ := tenterhooklaw11_DictNames.mono_l k
    refine ⟨?_, ?_⟩
    · intro y0 y1 y2 y3 y4 y5 y6 y7 y8
      unfold tenterhooklaw11_DictNames.j0
      repeat' first
      | (with_reducible exact ih0 _ _ _ _ _ _ _ _ _)
      | (with_reducible exact ih1 _ _ _ _ _ _ _ _ _ _ _)
      | (with_reducible exact dict_Add.mono _ _ _ _ _ _ _ _)
      | (with_reducible exact dict_Sane.mono _ _ _ _ _ _ _)
      | (with_reducible exact tenterhooklaw11_awake.mono _)
      | (with_reducible exact tenterhooklaw11_entries.mono _ _)
      | (with_reducible exact tenterhookref11_Few.mono _ _)
      | (with_reducible exact LeO.refl _)
      | (with_reducible exact LeO.none _)
      | (with_reducible refine LeO.ite ?_ ?_)
      | (with_reducible refine LeO.bind ?_ (fun _ => ?_))
      | exact ih0 _ _ _ _ _ _ _ _ _
      | exact ih1 _ _ _ _ _ _ _ _ _ _ _
      | exact dict_Add.mono _ _ _ _ _ _ _ _
      | exact dict_Sane.mono _ _ _ _ _ _ _
      | exact tenterhooklaw11_awake.mono _
      | exact tenterhooklaw11_entries.mono _ _
      | exact tenterhookref11_Few.mono _ _
      | exact LeO.none _
      | refine LeO.ite ?_ ?_
      | refine LeO.bind ?_ (fun _ => ?_)
    · intro y0 y1 y2 y3 y4 y5 y6 y7 y8 y9 y10
      unfold tenterhooklaw11_DictNames.j1
      repeat' first
      | (with_reducible exact ih0 _ _ _ _ _ _ _ _ _)
      | (with_reducible exact ih1 _ _ _ _ _ _ _ _ _ _ _)
      | (with_reducible exact dict_Add.mono _ _ _ _ _ _ _ _)
      | (with_reducible exact dict_Sane.mono _ _ _ _ _ _ _)
      | (with_reducible exact tenterhooklaw11_awake.mono _)
      | (with_reducible exact tenterhooklaw11_entries.mono _ _)
      | (with_reducible exact tenterhookref11_Few.mono _ _)
      | (with_reducible exact LeO.refl _)
      | (with_reducible exact LeO.none _)
      | (with_reducible refine LeO.ite ?_ ?_)
      | (with_reducible refine LeO.bind ?_ (fun _ => ?_))
      | exact ih0 _ _ _ _ _ _ _ _ _
      | exact ih1 _ _ _ _ _ _ _ _ _ _ _
      | exact dict_Add.mono _ _ _ _ _ _ _ _
      | exact dict_Sane.mono _ _ _ _ _ _ _
      | exact tenterhooklaw11_awake.mono _
      | exact tenterhooklaw11_entries.mono _ _
      | exact tenterhookref11_Few.mono _ _
      | exact LeO.none _
      | refine LeO.ite ?_ ?_
      | refine LeO.bind ?_ (fun _ => ?_)
theorem tenterhooklaw11_DictNames.mono : ∀ a0 a1 a2 a3 a4 a5 a6 k, LeO (tenterhooklaw11_DictNames.f k a0 a1 a2 a3 a4 a5 a6) (tenterhooklaw11_DictNames.f (k + 1) a0 a1 a2 a3 a4 a5 a6) := by
  intro a0 a1 a2 a3 a4 a5 a6 k
  obtain ⟨ih0, ih1⟩ := tenterhooklaw11_DictNames.mono_l k
  unfold tenterhooklaw11_DictNames.f
  repeat' first
      | (with_reducible exact ih0 _ _ _ _ _ _ _ _ _)
      | (with_reducible exact ih1 _ _ _ _ _ _ _ _ _ _ _)
      | (with_reducible exact dict_Add.mono _ _ _ _ _ _ _ _)
      | (with_reducible exact dict_Sane.mono _ _ _ _ _ _ _)
      | (with_reducible exact tenterhooklaw11_awake.mono _)
      | (with_reducible exact tenterhooklaw11_entries.mono _ _)
      | (with_reducible exact tenterhookref11_Few.mono _ _)
      | (with_reducible exact LeO.refl _)
      | (with_reducible exact LeO.none _)
      | (with_reducible refine LeO.ite ?_ ?_)
      | (with_reducible refine LeO.bind ?_ (fun _ => ?_))
      | exact ih0 _ _ _ _ _ _ _ _ _
      | exact ih1 _ _ _ _ _ _ _ _ _ _ _
      | exact dict_Add.mono _ _ _ _ _ _ _ _
      | exact dict_Sane.mono _ _ _ _ _ _ _
      | exact tenterhooklaw11_awake.mono _
      | exact tenterhooklaw11_entries.mono _ _
      | exact tenterhookref11_Few.mono _ _
      | exact LeO.none _
      | refine LeO.ite ?_ ?_
      | refine LeO.bind ?_ (fun _ => ?_)
def tenterhooklaw11_DictNames.T4 : Bool × List (List Nat × List Nat) := (true, [([], []), ([0], [0]), ([], []), ([2, 1], [2]), ([1, 3, 3], [1, 3]), ([4], [4]), ([5], [5]), ([5], [5]), ([6, 4, 0, 1, 2, 3, 4, 5, 6], [6]), ([7, 8, 0, 1, 2, 3, 4, 5, 6, 7, 8], [7])])
def tenterhooklaw11_DictNames.B4 : List Nat := [0, 1, 0, 7, 15, 31, 63, 63, 127, 511]
theorem tenterhooklaw11_DictNames.tab4 : rtab .any (opsOf Try.f5 4) = tenterhooklaw11_DictNames.T4 := by kernel_rfl
theorem tenterhooklaw11_DictNames.bits4 : waitsOk tenterhooklaw11_DictNames.T4.2 tenterhooklaw11_DictNames.B4 = true := by kernel_rfl
def tenterhooklaw11_DictNames.T12 : Bool × List (List Nat × List Nat) := (true, [([], []), ([0], [0]), ([1], [1]), ([2, 1], [1, 2]), ([1, 3], [1, 3]), ([4, 1], [4]), ([5], [5]), ([6, 5, 5], [5, 6]), ([5, 7], [5, 7]), ([8, 7], [8]), ([9], [9]), ([10, 9], [9, 10]), ([9], [9]), ([12, 9], [9, 12]), ([11, 13, 9], [9, 11, 13]), ([9, 14], [9, 14]), ([15, 9], [15]), ([16], [16]), ([17, 16], [16, 17]), ([16], [16]), ([19, 16], [16, 19]), ([18, 20, 16], [16, 18, 20]), ([16, 21], [16, 21]), ([22, 16], [22]), ([23], [23]), ([24, 23], [23, 24]), ([23], [23]), ([26, 23], [23, 26]), ([25, 27, 23], [23, 25, 27]), ([23, 28], [23, 28]), ([29, 23], [29]), ([30], [30]), ([31, 30], [30, 31]), ([30], [30]), ([33, 30], [30, 33]), ([32, 34, 30], [30, 32, 34]), ([30, 35], [30, 35]), ([36, 30], [36]), ([37], [37]), ([38, 37], [37, 38]), ([37, 39], [37, 39]), ([40, 37], [40]), ([41], [41]), ([42, 41], [41, 42]), ([41], [41]), ([44, 41], [41, 44]), ([45, 41], [41, 45]), ([43, 46, 41], [41, 43, 46]), ([41, 47], [41, 47]), ([48, 41], [48]), ([49], [49]), ([49], [49]), ([51, 49], [49, 51]), ([50, 52, 49], [49, 50, 52]), ([53, 49], [49, 53]), ([49], [49]), ([54, 55, 49], [49, 54, 55]), ([49, 56], [49, 56]), ([57, 49, 0, 1, 2, 3, 4, 5, 6, 7, 8, 9, 10, 11, 12, 13, 14, 15, 16, 17, 18, 19, 20, 21, 22, 23, 24, 25, 26, 27, 28, 29, 30, 31, 32, 33, 34, 35, 36, 37, 38, 39, 40, 41, 42, 43, 44, 45, 46, 47, 48, 49, 50, 51, 52, 53, 54, 55, 56, 57], [57])])
def tenterhooklaw11_DictNames.B12 : List Nat := [0, 1, 3, 7, 15, 31, 63, 127, 255, 511, 1023, 2047, 1023, 5119, 16383, 32767, 65535, 131071, 262143, 131071, 655359, 2097151, 4194303, 8388607, 16777215, 33554431, 16777215, 83886079, 268435455, 536870911, 1073741823, 2147483647, 4294967295, 2147483647, 10737418239, 34359738367, 68719476735, 137438953471, 274877906943, 549755813887, 1099511627775, 2199023255551, 4398046511103, 8796093022207, 4398046511103, 21990232555519, 57174604644351, 140737488355327, 281474976710655, 562949953421311, 1125899906842623, 1125899906842623, 3377699720527871, 9007199254740991, 18014398509481983, 1125899906842623, 72057594037927935, 144115188075855871, 288230376151711743]
theorem tenterhooklaw11_DictNames.tab12 : rtab .any (opsOf Try.f5 12) = tenterhooklaw11_DictNames.T12 := by kernel_rfl
theorem tenterhooklaw11_DictNames.bits12 : waitsOk tenterhooklaw11_DictNames.T12.2 tenterhooklaw11_DictNames.B12 = true := by kernel_rfl
set_option maxHeartbeats 8000000 in
set_option maxRecDepth 100000 in
theorem tenterhooklaw11_DictNames.calls (k : Nat) (A0 : Option Addr) (c0 : Nat) (l0 : List (S40)) (a1_0 : ByteArray) (a1_1 : Bool) (a1_2 : Int) (a1_3 : Int) (a1_4 : Int) (a1_5 : Int) (r : Bool) (w : World) (hr0 : Kd.C k40 w A0 l0.length l0) (hc0 : l0.length ≤ c0) (h : tenterhooklaw11_DictNames.f k l0 a1_0 a1_1 a1_2 a1_3 a1_4 a1_5 = some r) (hr_ : r = true) :
    Calls Try.prog 5 #[.slice A0 l0.length c0, .agg #[.string a1_0, .bool a1_1, .int .i64 a1_2, .int .i64 a1_3, .int .i64 a1_4, .int .i64 a1_5]] w fun e w' => e = .returned (.bool r) ∧ Below w.heap.size w w' := by
  have HR_ := Aside0.mk hr_
  clear hr_
  have hu40 := Try.underlying40
  have hu35 := Try.underlying35
  have hu33 := Try.underlying33
  have HR0 := Aside0.mk hr0
  have HC0 := Aside0.mk hc0
  clear hr0 hc0
  have HB := Aside0.mk (Below.refl w.heap.size w)
  have H : ((tenterhooklaw11_awake.f k).bind fun t204 => ((tenterhookref11_Few.f k l0).bind fun t205 => (if t205 = true then (if (a1_0.size : Int) > 100 then (tenterhooklaw11_DictNames.j0 k l0 t204 true a1_0 a1_1 a1_2 a1_3 a1_4 a1_5) else (tenterhooklaw11_DictNames.j0 k l0 t204 (decide ((l0.length : Int) > 500)) a1_0 a1_1 a1_2 a1_3 a1_4 a1_5)) else (tenterhooklaw11_DictNames.j0 k l0 t204 true a1_0 a1_1 a1_2 a1_3 a1_4 a1_5)))) = some r := h
  clear h
  replace H := Option.bind_eq_some_iff.mp H
  obtain ⟨t204, A30, H⟩ := H
  replace H : ((tenterhookref11_Few.f k l0).bind fun t205 => (if t205 = true then (if (a1_0.size : Int) > 100 then (tenterhooklaw11_DictNames.j0 k l0 t204 true a1_0 a1_1 a1_2 a1_3 a1_4 a1_5) else (tenterhooklaw11_DictNames.j0 k l0 t204 (decide ((l0.length : Int) > 500)) a1_0 a1_1 a1_2 a1_3 a1_4 a1_5)) else (tenterhooklaw11_DictNames.j0 k l0 t204 true a1_0 a1_1 a1_2 a1_3 a1_4 a1_5))) = some r := H
  have A3 := Aside0.mk A30
  clear A30
  have HC4 := Aside0.mk H
  clear H
  go_enter Try.func5, Try.ntmps5
  go_upto_region 2 with (first | ((with_reducible refine gate_dst (N := 3) rfl ?_); (try (refine gate_guard (by rfl) ?_; dsimp only)); refine box_event ?hg (N := 3) ?hd (cs := #[.string a1_0, .bool a1_1, .int .i64 a1_2, .int .i64 a1_3, .int .i64 a1_4, .int .i64 a1_5]) (t := 40) ?hr ?_; (case hd => rfl); (case hg => rfl); (case hr => first | (go_simp; done) | (go_simp; rfl)); intro gb203 hg w5 hbox hb; have n0_ := Aside0.mk (below_step (by repeat (first | (with_reducible first | exact HB.out | apply below_alloc | apply pw_below_drewN | apply below_drew1) | exact HB.out)) hb); have n1_ := Aside0.mk (hbox); have n2_ := Aside0.mk ((by rw [hg]; exact (below_size (by repeat (first | (with_reducible first | exact HB.out | apply below_alloc | apply pw_below_drewN | apply below_drew1) | exact HB.out))) : w.heap.size ≤ gb203)); have n3_ := Aside0.mk ((by rw [hg]; exact (below_size (by repeat (first | (with_reducible first | exact HB.out | apply below_alloc | apply pw_below_drewN | apply below_drew1) | exact HB.out))) : w.heap.size ≤ gb203)); clear HB; have HB := n0_; have BK203 := n1_; have GW203 := n2_; have GE203 := n3_; clear n0_ n1_ n2_ n3_; clear hb hbox hg) | ((with_reducible refine gate_callee (f := 9) rfl ?_); refine goesL_ (some 12) rfl rfl Try.func9 (by kernel_rfl) rfl #[] rfl (by (try simp only [List.map_toArray, List.map_cons, List.map_nil]); first | done | rfl | (simp only [List.length_drop, List.length_take]; rfl)) ?_; (with_reducible refine (tenterhooklaw11_awake.calls k  t204 _ A3.out).mono ?_); rintro e w6 ⟨rfl, hb⟩; refine ⟨_, rfl, ?_⟩; have n0_ := Aside0.mk (blk_below (g := gb203) (o := .cells #[.string a1_0, .bool a1_1, .int .i64 a1_2, .int .i64 a1_3, .int .i64 a1_4, .int .i64 a1_5] 40 (0, 0)) (by (with_reducible repeat (first | refine blk_drewN ?_ _ | refine blk_drew ?_ | refine blk_alloc ?_ _)); exact BK203.out) hb); have n1_ := Aside0.mk (below_step (by repeat (first | (with_reducible first | exact HB.out | apply below_alloc | apply pw_below_drewN | apply below_drew1 | refine below_set ?_ GE203.out) | exact HB.out)) hb); clear BK203; clear HB; have BK203 := n0_; have HB := n1_; clear n0_ n1_; (try clear hb); (try clear hb2); (try clear hk); (try clear hi)))
  (try simp only [Act.put, List.setIfInBounds_toArray, List.set_cons_zero, List.set_cons_succ])
  go_cut [26] (fun v26 wc => ∃ (kq : Nat) (x26_3 : Bool), v26 = .bool x26_3 ∧ Aside0 (tenterhooklaw11_DictNames.j0 kq l0 t204 x26_3 a1_0 a1_1 a1_2 a1_3 a1_4 a1_5 = some r) ∧ Aside0 (kq ≤ k) ∧ Aside0 (wc.heap[gb203]? = some (.cells #[.string a1_0, .bool a1_1, .int .i64 a1_2, .int .i64 a1_3, .int .i64 a1_4, .int .i64 a1_5] 40 (0, 0))) ∧ Aside0 (Below w.heap.size w wc))
  case first =>
    have H := HC4.out
    clear HC4
    replace H := Option.bind_eq_some_iff.mp H
    obtain ⟨t205, A70, H⟩ := H
    replace H : (if t205 = true then (if (a1_0.size : Int) > 100 then (tenterhooklaw11_DictNames.j0 k l0 t204 true a1_0 a1_1 a1_2 a1_3 a1_4 a1_5) else (tenterhooklaw11_DictNames.j0 k l0 t204 (decide ((l0.length : Int) > 500)) a1_0 a1_1 a1_2 a1_3 a1_4 a1_5)) else (tenterhooklaw11_DictNames.j0 k l0 t204 true a1_0 a1_1 a1_2 a1_3 a1_4 a1_5)) = some r := H
    have A7 := Aside0.mk A70
    clear A70
    by_cases c8 : t205 = true
    · subst c8
      have H1 : (if (a1_0.size : Int) > 100 then (tenterhooklaw11_DictNames.j0 k l0 t204 true a1_0 a1_1 a1_2 a1_3 a1_4 a1_5) else (tenterhooklaw11_DictNames.j0 k l0 t204 (decide ((l0.length : Int) > 500)) a1_0 a1_1 a1_2 a1_3 a1_4 a1_5)) = some r := by rw [if_pos rfl] at H; exact H
      clear H
      have H := H1
      clear H1
      by_cases c9 : (a1_0.size : Int) > 100
      · rw [if_pos c9] at H
        have c9b0 : decide (100 < (a1_0.size : Int)) = true := decide_eq_true c9
        have c9b1 : decide (100 < a1_0.size) = true := decide_eq_true (by omega)
        clear c9
        (first | rw [c9b0] | (simp only [i64_w, i32_w]; rw [c9b0]) | skip)
        have H' := Aside0.mk H
        clear H
        go_wp2_with (first | ((with_reducible refine gate_callee (f := 16) rfl ?_); refine goesL_ (some 14) rfl rfl Try.func16 (by kernel_rfl) rfl #[.slice A0 l0.length c0] rfl (by (try simp only [List.map_toArray, List.map_cons, List.map_nil]); first | done | rfl | (simp only [List.length_drop, List.length_take]; rfl)) ?_; (with_reducible refine (tenterhookref11_Few.calls k _ _ l0 true _ ?side1 ?side2 A7.out).mono ?_); (case side1 => repeat (first | exact (Kd.C_below HR0.out HB.out) | (with_reducible refine Kd.C_alloc ?_ _) | (with_reducible refine Kd.C_drewN ?_ _) | (with_reducible refine Kd.C_drew ?_))); (case side2 => exact HC0.out); rintro e w' ⟨rfl, ⟨nd, rfl⟩⟩; refine ⟨_, rfl, ?_⟩; have hcz10_0 : w6.cell? ⟨gb203, 0, none⟩ = some (.string a1_0) := (blk_cell BK203.out 0).trans rfl; have hcz10_1 : w6.cell? ⟨gb203, 1, none⟩ = some (.bool a1_1) := (blk_cell BK203.out 1).trans rfl; have hcz10_2 : w6.cell? ⟨gb203, 2, none⟩ = some (.int .i64 a1_2) := (blk_cell BK203.out 2).trans rfl; have hcz10_3 : w6.cell? ⟨gb203, 3, none⟩ = some (.int .i64 a1_3) := (blk_cell BK203.out 3).trans rfl; have hcz10_4 : w6.cell? ⟨gb203, 4, none⟩ = some (.int .i64 a1_4) := (blk_cell BK203.out 4).trans rfl; have hcz10_5 : w6.cell? ⟨gb203, 5, none⟩ = some (.int .i64 a1_5) := (blk_cell BK203.out 5).trans rfl; have hfz10_0 := blk_frozen BK203.out 0; have hfz10_1 := blk_frozen BK203.out 1; have hfz10_2 := blk_frozen BK203.out 2; have hfz10_3 := blk_frozen BK203.out 3; have hfz10_4 := blk_frozen BK203.out 4; have hfz10_5 := blk_frozen BK203.out 5))
        go_meet
        case rel => exact ⟨_, (true), (by first | rfl | (simp; done) | (simp [*]; done)), H', ⟨by first | omega | exact Nat.le_refl _⟩, ⟨by (with_reducible repeat (first | refine blk_drewN ?_ _ | refine blk_drew ?_ | refine blk_alloc ?_ _)); exact BK203.out⟩, ⟨by repeat (first | (with_reducible first | exact HB.out | apply below_alloc | apply pw_below_drewN | apply below_drew1 | refine below_set ?_ GE203.out) | exact HB.out)⟩⟩
      · rw [if_neg c9] at H
        have c9b0 : decide (100 < (a1_0.size : Int)) = false := decide_eq_false c9
        have c9b1 : decide (100 < a1_0.size) = false := decide_eq_false (by omega)
        clear c9
        (first | rw [c9b0] | (simp only [i64_w, i32_w]; rw [c9b0]) | skip)
        have H' := Aside0.mk H
        clear H
        go_wp2_with (first | ((with_reducible refine gate_callee (f := 16) rfl ?_); refine goesL_ (some 14) rfl rfl Try.func16 (by kernel_rfl) rfl #[.slice A0 l0.length c0] rfl (by (try simp only [List.map_toArray, List.map_cons, List.map_nil]); first | done | rfl | (simp only [List.length_drop, List.length_take]; rfl)) ?_; (with_reducible refine (tenterhookref11_Few.calls k _ _ l0 true _ ?side1 ?side2 A7.out).mono ?_); (case side1 => repeat (first | exact (Kd.C_below HR0.out HB.out) | (with_reducible refine Kd.C_alloc ?_ _) | (with_reducible refine Kd.C_drewN ?_ _) | (with_reducible refine Kd.C_drew ?_))); (case side2 => exact HC0.out); rintro e w' ⟨rfl, ⟨nd, rfl⟩⟩; refine ⟨_, rfl, ?_⟩; have hcz11_0 : w6.cell? ⟨gb203, 0, none⟩ = some (.string a1_0) := (blk_cell BK203.out 0).trans rfl; have hcz11_1 : w6.cell? ⟨gb203, 1, none⟩ = some (.bool a1_1) := (blk_cell BK203.out 1).trans rfl; have hcz11_2 : w6.cell? ⟨gb203, 2, none⟩ = some (.int .i64 a1_2) := (blk_cell BK203.out 2).trans rfl; have hcz11_3 : w6.cell? ⟨gb203, 3, none⟩ = some (.int .i64 a1_3) := (blk_cell BK203.out 3).trans rfl; have hcz11_4 : w6.cell? ⟨gb203, 4, none⟩ = some (.int .i64 a1_4) := (blk_cell BK203.out 4).trans rfl; have hcz11_5 : w6.cell? ⟨gb203, 5, none⟩ = some (.int .i64 a1_5) := (blk_cell BK203.out 5).trans rfl; have hfz11_0 := blk_frozen BK203.out 0; have hfz11_1 := blk_frozen BK203.out 1; have hfz11_2 := blk_frozen BK203.out 2; have hfz11_3 := blk_frozen BK203.out 3; have hfz11_4 := blk_frozen BK203.out 4; have hfz11_5 := blk_frozen BK203.out 5))
        go_meet
        case rel => exact ⟨_, (decide ((l0.length : Int) > 500)), (by first | rfl | (simp; done) | (simp [*]; done)), H', ⟨by first | omega | exact Nat.le_refl _⟩, ⟨by (with_reducible repeat (first | refine blk_drewN ?_ _ | refine blk_drew ?_ | refine blk_alloc ?_ _)); exact BK203.out⟩, ⟨by repeat (first | (with_reducible first | exact HB.out | apply below_alloc | apply pw_below_drewN | apply below_drew1 | refine below_set ?_ GE203.out) | exact HB.out)⟩⟩
    · replace c8 := Bool.eq_false_iff.mpr c8
      subst c8
      have H1 : (tenterhooklaw11_DictNames.j0 k l0 t204 true a1_0 a1_1 a1_2 a1_3 a1_4 a1_5) = some r := by rw [if_neg (show ¬ (false = true) by decide)] at H; exact H
      clear H
      have H := H1
      clear H1
      have H' := Aside0.mk H
      clear H
      go_wp2_with (first | ((with_reducible refine gate_callee (f := 16) rfl ?_); refine goesL_ (some 14) rfl rfl Try.func16 (by kernel_rfl) rfl #[.slice A0 l0.length c0] rfl (by (try simp only [List.map_toArray, List.map_cons, List.map_nil]); first | done | rfl | (simp only [List.length_drop, List.length_take]; rfl)) ?_; (with_reducible refine (tenterhookref11_Few.calls k _ _ l0 false _ ?side1 ?side2 A7.out).mono ?_); (case side1 => repeat (first | exact (Kd.C_below HR0.out HB.out) | (with_reducible refine Kd.C_alloc ?_ _) | (with_reducible refine Kd.C_drewN ?_ _) | (with_reducible refine Kd.C_drew ?_))); (case side2 => exact HC0.out); rintro e w' ⟨rfl, ⟨nd, rfl⟩⟩; refine ⟨_, rfl, ?_⟩))
      go_meet
      case rel => exact ⟨_, (true), (by first | rfl | (simp; done) | (simp [*]; done)), H', ⟨by first | omega | exact Nat.le_refl _⟩, ⟨by (with_reducible repeat (first | refine blk_drewN ?_ _ | refine blk_drew ?_ | refine blk_alloc ?_ _)); exact BK203.out⟩, ⟨by repeat (first | (with_reducible first | exact HB.out | apply below_alloc | apply pw_below_drewN | apply below_drew1 | refine below_set ?_ GE203.out) | exact HB.out)⟩⟩
  case rest =>
    clear HC4
    try clear c1
    try clear p2
    try clear c5
    try clear c8
    try clear c9
    try clear c9b0
    try clear c9b1
    try clear hcz10_0
    try clear hcz10_1
    try clear hcz10_2
    try clear hcz10_3
    try clear hcz10_4
    try clear hcz10_5
    try clear hcz11_0
    try clear hcz11_1
    try clear hcz11_2
    try clear hcz11_3
    try clear hcz11_4
    try clear hcz11_5
    try clear hfz10_0
    try clear hfz10_1
    try clear hfz10_2
    try clear hfz10_3
    try clear hfz10_4
    try clear hfz10_5
    try clear hfz11_0
    try clear hfz11_1
    try clear hfz11_2
    try clear hfz11_3
    try clear hfz11_4
    try clear hfz11_5
    obtain ⟨kq, x26_3, rfl, HA, HJ3, BK203, HB⟩ := hcut
    cases kq with
    | zero => exact absurd HA.out (by simp [tenterhooklaw11_DictNames.j0])
    | succ kj3 =>
      have H := HA.out
      clear HA
      simp only [tenterhooklaw11_DictNames.j0] at H
      by_cases c12 : x26_3 = true
      · subst c12
        have H1 : (some t204) = some r := by rw [if_pos rfl] at H; exact H
        clear H
        have H := H1
        clear H1
        obtain rfl := Option.some.inj H
        go_wp2
        go_ret
        exact ⟨by first | rfl | (simp [errW_none, errW_some] <;> rfl) | (simp [*, errW_none, errW_some] <;> rfl), by repeat (first | (with_reducible first | exact HB.out | apply below_alloc | apply pw_below_drewN | apply below_drew1 | refine below_set ?_ GE203.out) | exact HB.out)⟩
      · replace c12 := Bool.eq_false_iff.mpr c12
        subst c12
        have H1 : ((tenterhooklaw11_entries.f kj3 l0).bind fun t206 => ((tenterhooklaw11_entry.f a1_0 a1_1 a1_2 a1_3 a1_4 a1_5).bind fun bt209 => ((dict_Add.f kj3 t206 bt209.1 bt209.2.1 bt209.2.2.1 bt209.2.2.2.1 bt209.2.2.2.2.1 bt209.2.2.2.2.2).bind fun bt215 => (if (a1_0.size : Int) = 0 then (tenterhooklaw11_DictNames.j1 kj3 l0 t204 bt215.1 bt215.2 true a1_0 a1_1 a1_2 a1_3 a1_4 a1_5) else (tenterhooklaw11_DictNames.j1 kj3 l0 t204 bt215.1 bt215.2 (decide ((a1_0.size : Int) > 31)) a1_0 a1_1 a1_2 a1_3 a1_4 a1_5))))) = some r := by rw [if_neg (show ¬ (false = true) by decide)] at H; exact H
        clear H
        have H := H1
        clear H1
        replace H := Option.bind_eq_some_iff.mp H
        obtain ⟨t206, A130, H⟩ := H
        replace H : ((tenterhooklaw11_entry.f a1_0 a1_1 a1_2 a1_3 a1_4 a1_5).bind fun bt209 => ((dict_Add.f kj3 t206 bt209.1 bt209.2.1 bt209.2.2.1 bt209.2.2.2.1 bt209.2.2.2.2.1 bt209.2.2.2.2.2).bind fun bt215 => (if (a1_0.size : Int) = 0 then (tenterhooklaw11_DictNames.j1 kj3 l0 t204 bt215.1 bt215.2 true a1_0 a1_1 a1_2 a1_3 a1_4 a1_5) else (tenterhooklaw11_DictNames.j1 kj3 l0 t204 bt215.1 bt215.2 (decide ((a1_0.size : Int) > 31)) a1_0 a1_1 a1_2 a1_3 a1_4 a1_5)))) = some r := H
        have A13 := Aside0.mk A130
        clear A130
        replace H := Option.bind_eq_some_iff.mp H
        obtain ⟨⟨t209, t210, t211, t212, t213, t214⟩, A140, H⟩ := H
        replace H : ((dict_Add.f kj3 t206 t209 t210 t211 t212 t213 t214).bind fun bt215 => (if (a1_0.size : Int) = 0 then (tenterhooklaw11_DictNames.j1 kj3 l0 t204 bt215.1 bt215.2 true a1_0 a1_1 a1_2 a1_3 a1_4 a1_5) else (tenterhooklaw11_DictNames.j1 kj3 l0 t204 bt215.1 bt215.2 (decide ((a1_0.size : Int) > 31)) a1_0 a1_1 a1_2 a1_3 a1_4 a1_5))) = some r := H
        have A14 := Aside0.mk A140
        clear A140
        replace H := Option.bind_eq_some_iff.mp H
        obtain ⟨⟨t215, t218⟩, A150, H⟩ := H
        replace H : (if (a1_0.size : Int) = 0 then (tenterhooklaw11_DictNames.j1 kj3 l0 t204 t215 t218 true a1_0 a1_1 a1_2 a1_3 a1_4 a1_5) else (tenterhooklaw11_DictNames.j1 kj3 l0 t204 t215 t218 (decide ((a1_0.size : Int) > 31)) a1_0 a1_1 a1_2 a1_3 a1_4 a1_5)) = some r := H
        have A15 := Aside0.mk A150
        clear A150
        have HC16 := Aside0.mk H
        clear H
        try go_wp2
        have n0_ := Aside0.mk (blk_drew BK203.out)
        have n1_ := Aside0.mk (below_drew1 HB.out)
        clear BK203
        clear HB
        have BK203 := n0_
        have HB := n1_
        clear n0_ n1_
        refine start_ (n := 10) (S := fun w' => w'.cell? ⟨gb203, 0, none⟩ = some (.string a1_0) ∧ w'.cell? ⟨gb203, 1, none⟩ = some (.bool a1_1) ∧ w'.cell? ⟨gb203, 2, none⟩ = some (.int .i64 a1_2) ∧ w'.cell? ⟨gb203, 3, none⟩ = some (.int .i64 a1_3) ∧ w'.cell? ⟨gb203, 4, none⟩ = some (.int .i64 a1_4) ∧ w'.cell? ⟨gb203, 5, none⟩ = some (.int .i64 a1_5)) (ds := []) #[false, false, false, false, false, false, false, false, false, false] (by kernel_rfl) rfl rfl ⟨(blk_cell BK203.out 0).trans rfl, (blk_cell BK203.out 1).trans rfl, (blk_cell BK203.out 2).trans rfl, (blk_cell BK203.out 3).trans rfl, (blk_cell BK203.out 4).trans rfl, (blk_cell BK203.out 5).trans rfl⟩ (fun hHeld => ?_); refine with_tabW tenterhooklaw11_DictNames.tab4 tenterhooklaw11_DictNames.bits4 (fun HT_ HW_ => ?_)
        generalize wc.drew = w17 at BK203 HB hHeld ⊢
        refine pure_ (i := 0) (N := some 29) (v := ?_) (a' := ?_) #[true, false, false, false, false, false, false, false, false, false] rfl rfl (any_of HT_.out (by kernel_rfl)) (fun _ _ _ h => h) (Or.inl ⟨by rfl, ?_⟩) ?_ ?_
        rotate_left
        · intro w'
          go_simp
          with_reducible rfl
        rotate_left
        · simp only [Act.put, List.setIfInBounds_toArray, List.set_cons_zero, List.set_cons_succ, i64_w, i32_w]
          rfl
        refine take_ (i := 2) (N := some 31) (v := ?_) (a' := ?_) #[true, false, true, false, false, false, false, false, false, false] rfl rfl (take_ofW HT_.out HW_.out (by kernel_rfl)) (fun _ _ _ h => h) (Or.inl ⟨by rfl, ?_⟩) hHeld ?_ ?_
        rotate_left
        · rintro w' ⟨s0, s1, s2, s3, s4, s5⟩
          go_simp
          with_reducible rfl
        rotate_left
        · simp only [Act.put, List.setIfInBounds_toArray, List.set_cons_zero, List.set_cons_succ, i64_w, i32_w]
          rfl
        refine one_ (i := 1) (N := some 30) #[true, true, true, false, false, false, false, false, false, false] rfl rfl (one_of HT_.out (by kernel_rfl)) (by decide) (fun K hK => ?_)
        refine goes_ Try.func18 (by kernel_rfl) rfl #[.slice A0 l0.length c0] (by rfl) rfl rfl (by (try simp only [List.map_toArray, List.map_cons, List.map_nil]); first | done | rfl | (simp only [List.length_drop, List.length_take]; rfl)) ?_
        with_reducible refine (tenterhooklaw11_entries.calls kj3 _ _ l0 t206 _ ?side1 ?side2 A13.out).mono ?_
        (case side1 => repeat (first | exact (Kd.C_below HR0.out HB.out) | (with_reducible refine Kd.C_alloc ?_ _) | (with_reducible refine Kd.C_drewN ?_ _) | (with_reducible refine Kd.C_drew ?_)))
        (case side2 => exact HC0.out)
        rintro e w18 ⟨v207, rfl, ho0, hb⟩
        refine ⟨_, rfl, ?_⟩
        have n0_ := Aside0.mk (Kd.R_lower ho0 (below_size (by repeat (first | (with_reducible first | exact HB.out | apply below_alloc | apply pw_below_drewN | apply below_drew1 | refine below_set ?_ GE203.out) | exact HB.out))))
        have n1_ := Aside0.mk (blk_below (g := gb203) (o := .cells #[.string a1_0, .bool a1_1, .int .i64 a1_2, .int .i64 a1_3, .int .i64 a1_4, .int .i64 a1_5] 40 (0, 0)) (by (with_reducible repeat (first | refine blk_drewN ?_ _ | refine blk_drew ?_ | refine blk_alloc ?_ _)); exact BK203.out) hb)
        have n2_ := Aside0.mk (below_step (by repeat (first | (with_reducible first | exact HB.out | apply below_alloc | apply pw_below_drewN | apply below_drew1 | refine below_set ?_ GE203.out) | exact HB.out)) hb)
        clear BK203
        clear HB
        have HO208 := n0_
        have BK203 := n1_
        have HB := n2_
        clear n0_ n1_ n2_
        (try clear hb)
        (try clear hb2)
        (try clear hk)
        (try clear hi)
        (try clear ho0)
        refine hK.out _ _ ⟨(blk_cell BK203.out 0).trans rfl, (blk_cell BK203.out 1).trans rfl, (blk_cell BK203.out 2).trans rfl, (blk_cell BK203.out 3).trans rfl, (blk_cell BK203.out 4).trans rfl, (blk_cell BK203.out 5).trans rfl⟩ (fun hHeld => ?_)
        clear hK K
        refine norm_ (a' := ?_) ?_ ?_
        rotate_left
        · show Act.put _ (some 30) _ = _
          simp only [Act.put, List.setIfInBounds_toArray, List.set_cons_zero, List.set_cons_succ, i64_w, i32_w]
          rfl
        refine one_ (i := 3) (N := some 32) #[true, true, true, true, false, false, false, false, false, false] rfl rfl (one_of HT_.out (by kernel_rfl)) (by decide) (fun K hK => ?_)
        refine goes_ Try.func19 (by kernel_rfl) rfl #[.agg #[.string a1_0, .bool a1_1, .int .i64 a1_2, .int .i64 a1_3, .int .i64 a1_4, .int .i64 a1_5]] (by rfl) rfl rfl (by (try simp only [List.map_toArray, List.map_cons, List.map_nil]); first | done | rfl | (simp only [List.length_drop, List.length_take]; rfl)) ?_
        with_reducible refine (tenterhooklaw11_entry.calls a1_0 a1_1 a1_2 a1_3 a1_4 a1_5 t209 t210 t211 t212 t213 t214 _ A14.out).mono ?_
        rintro e w19 ⟨rfl, hb⟩
        refine ⟨_, rfl, ?_⟩
        have n0_ := Aside0.mk (Kd.R_below (by (with_reducible repeat (first | apply Kd.R_alloc | apply Kd.R_drewN | apply Kd.R_drew)); exact HO208.out) hb)
        have n1_ := Aside0.mk (blk_below (g := gb203) (o := .cells #[.string a1_0, .bool a1_1, .int .i64 a1_2, .int .i64 a1_3, .int .i64 a1_4, .int .i64 a1_5] 40 (0, 0)) (by (with_reducible repeat (first | refine blk_drewN ?_ _ | refine blk_drew ?_ | refine blk_alloc ?_ _)); exact BK203.out) hb)
        have n2_ := Aside0.mk (below_step (by repeat (first | (with_reducible first | exact HB.out | apply below_alloc | apply pw_below_drewN | apply below_drew1 | refine below_set ?_ GE203.out) | exact HB.out)) hb)
        clear HO208
        clear BK203
        clear HB
        have HO208 := n0_
        have BK203 := n1_
        have HB := n2_
        clear n0_ n1_ n2_
        (try clear hb)
        (try clear hb2)
        (try clear hk)
        (try clear hi)
        obtain ⟨Ao20, co20, eo20⟩ := Kd.R_slice HO208.out
        (first | subst eo20 | (injection eo20 with f1_ f2_ f3_; have f4_ := f1_.symm; have f5_ := f3_.symm; clear f1_ f2_ f3_; subst f4_; subst f5_))
        refine hK.out _ _ ⟨(blk_cell BK203.out 0).trans rfl, (blk_cell BK203.out 1).trans rfl, (blk_cell BK203.out 2).trans rfl, (blk_cell BK203.out 3).trans rfl, (blk_cell BK203.out 4).trans rfl, (blk_cell BK203.out 5).trans rfl⟩ (fun hHeld => ?_)
        clear hK K
        refine norm_ (a' := ?_) ?_ ?_
        rotate_left
        · show Act.put _ (some 32) _ = _
          simp only [Act.put, List.setIfInBounds_toArray, List.set_cons_zero, List.set_cons_succ, i64_w, i32_w]
          rfl
        refine one_ (i := 4) (N := some 33) #[true, true, true, true, true, false, false, false, false, false] rfl rfl (one_of HT_.out (by kernel_rfl)) (by decide) (fun K hK => ?_)
        refine goes_ Try.func17 (by kernel_rfl) rfl #[.slice Ao20 t206.length co20, .agg #[.string t209, .bool t210, .int .i64 t211, .int .i64 t212, .int .i64 t213, .int .i64 t214]] (by rfl) rfl rfl (by (try simp only [List.map_toArray, List.map_cons, List.map_nil]); first | done | rfl | (simp only [List.length_drop, List.length_take]; rfl)) ?_
        with_reducible refine (dict_Add.calls kj3 (fun k_ => some k_ = (.slice Ao20 t206.length co20 : Value).ownBlock) _ _ t206 t209 t210 t211 t212 t213 t214 t215 t218 _ ?side1 A15.out).mono ?_
        (case side1 => exact Kd.R_V (Kd.R_tight rfl (Kd.R_types (HO208.out) BK203.out (by decide))))
        rintro e w21 ⟨v216, rfl, ho0, hb⟩
        refine ⟨_, rfl, ?_⟩
        have n0_ := Aside0.mk (Kd.R_below (by (with_reducible repeat (first | apply Kd.R_alloc | apply Kd.R_drewN | apply Kd.R_drew)); exact HO208.out) hb)
        have n1_ := Aside0.mk (Kd.V_lower (Kd.V_mono (ok' := fun k_ => k_ ≠ gb203) ho0 (fun k_ hk_ => Or.elim hk_ (fun hs_ => ((Kd.R_types (HO208.out) BK203.out (by decide)).1 k_ hs_.symm).2) (fun hn_ => (Kd.freshB (g := gb203) (o := .cells #[.string a1_0, .bool a1_1, .int .i64 a1_2, .int .i64 a1_3, .int .i64 a1_4, .int .i64 a1_5] 40 (0, 0)) (by (with_reducible repeat (first | refine blk_drewN ?_ _ | refine blk_drew ?_ | refine blk_alloc ?_ _)); exact BK203.out) k_ hn_)))) (below_size (by repeat (first | (with_reducible first | exact HB.out | apply below_alloc | apply pw_below_drewN | apply below_drew1 | refine below_set ?_ GE203.out) | exact HB.out))))
        have n2_ := Aside0.mk (blk_below (g := gb203) (o := .cells #[.string a1_0, .bool a1_1, .int .i64 a1_2, .int .i64 a1_3, .int .i64 a1_4, .int .i64 a1_5] 40 (0, 0)) (by (with_reducible repeat (first | refine blk_drewN ?_ _ | refine blk_drew ?_ | refine blk_alloc ?_ _)); exact BK203.out) hb)
        have n3_ := Aside0.mk (below_step (by repeat (first | (with_reducible first | exact HB.out | apply below_alloc | apply pw_below_drewN | apply below_drew1 | refine below_set ?_ GE203.out) | exact HB.out)) hb)
        clear HO208
        clear BK203
        clear HB
        have HO208 := n0_
        have HO217 := n1_
        have BK203 := n2_
        have HB := n3_
        clear n0_ n1_ n2_ n3_
        (try clear hb)
        (try clear hb2)
        (try clear hk)
        (try clear hi)
        (try clear ho0)
        refine hK.out _ _ ⟨(blk_cell BK203.out 0).trans rfl, (blk_cell BK203.out 1).trans rfl, (blk_cell BK203.out 2).trans rfl, (blk_cell BK203.out 3).trans rfl, (blk_cell BK203.out 4).trans rfl, (blk_cell BK203.out 5).trans rfl⟩ (fun hHeld => ?_)
        clear hK K
        refine norm_ (a' := ?_) ?_ ?_
        rotate_left
        · show Act.put _ (some 33) _ = _
          simp only [Act.put, List.setIfInBounds_toArray, List.set_cons_zero, List.set_cons_succ, i64_w, i32_w]
          rfl
        refine pure_ (i := 5) (N := some 28) (v := ?_) (a' := ?_) #[true, true, true, true, true, true, false, false, false, false] rfl rfl (any_of HT_.out (by kernel_rfl)) (fun _ _ _ h => h) (Or.inl ⟨by rfl, ?_⟩) ?_ ?_
        rotate_left
        · intro w'
          go_simp
          with_reducible rfl
        rotate_left
        · simp only [Act.put, List.setIfInBounds_toArray, List.set_cons_zero, List.set_cons_succ, i64_w, i32_w]
          rfl
        refine pure_ (i := 6) (N := some 34) (v := ?_) (a' := ?_) #[true, true, true, true, true, true, true, false, false, false] rfl rfl (any_of HT_.out (by kernel_rfl)) (fun _ _ _ h => h) (Or.inl ⟨by rfl, ?_⟩) ?_ ?_
        rotate_left
        · intro w'
          go_simp
          with_reducible rfl
        rotate_left
        · simp only [Act.put, List.setIfInBounds_toArray, List.set_cons_zero, List.set_cons_succ, i64_w, i32_w]
          rfl
        refine pure_ (i := 7) (N := some 35) (v := ?_) (a' := ?_) #[true, true, true, true, true, true, true, true, false, false] rfl rfl (any_of HT_.out (by kernel_rfl)) (fun _ _ _ h => h) (Or.inl ⟨by rfl, ?_⟩) ?_ ?_
        rotate_left
        · intro w'
          go_simp
          with_reducible rfl
        rotate_left
        · simp only [Act.put, List.setIfInBounds_toArray, List.set_cons_zero, List.set_cons_succ, i64_w, i32_w]
          rfl
        refine pure_ (i := 8) (N := some 6) (v := ?_) (a' := ?_) #[true, true, true, true, true, true, true, true, true, false] rfl rfl (any_of HT_.out (by kernel_rfl)) (fun _ _ _ h => h) (Or.inl ⟨by rfl, ?_⟩) ?_ ?_
        rotate_left
        · intro w'
          go_simp
          with_reducible rfl
        rotate_left
        · simp only [Act.put, List.setIfInBounds_toArray, List.set_cons_zero, List.set_cons_succ, i64_w, i32_w]
          rfl
        refine pure_ (i := 9) (N := some 7) (v := ?_) (a' := ?_) #[true, true, true, true, true, true, true, true, true, true] rfl rfl (any_of HT_.out (by kernel_rfl)) (fun _ _ _ h => h) (Or.inl ⟨by rfl, ?_⟩) ?_ ?_
        rotate_left
        · intro w'
          go_simp
          with_reducible rfl
        rotate_left
        · simp only [Act.put, List.setIfInBounds_toArray, List.set_cons_zero, List.set_cons_succ, i64_w, i32_w]
          rfl
        refine done_ (done_of HT_.out (by kernel_rfl)) ?_
        go_upto_region 5 with (fail)
        go_cut [8] (fun v8 wc => ∃ (kq : Nat) (x8_15 : Bool), v8 = .bool x8_15 ∧ Aside0 (tenterhooklaw11_DictNames.j1 kq l0 t204 t215 t218 x8_15 a1_0 a1_1 a1_2 a1_3 a1_4 a1_5 = some r) ∧ Aside0 (kq ≤ kj3) ∧ Aside0 (Kd.V k35 35 wc w.heap.size (fun k_ => k_ ≠ gb203) v216 t215) ∧ Aside0 (wc.heap[gb203]? = some (.cells #[.string a1_0, .bool a1_1, .int .i64 a1_2, .int .i64 a1_3, .int .i64 a1_4, .int .i64 a1_5] 40 (0, 0))) ∧ Aside0 (Below w.heap.size w wc))
        case first =>
          have H := HC16.out
          clear HC16
          by_cases c22 : (a1_0.size : Int) = 0
          · rw [if_pos c22] at H
            have c22b0 : ((a1_0.size : Int) == 0) = true := beq_iff_eq.mpr c22
            have c22b1 : ((a1_0.size : Int) != 0) = false := bne_eq_false_iff_eq.mpr c22
            clear c22
            (first | rw [c22b0] | (simp only [i64_w, i32_w]; rw [c22b0]) | skip)
            have H' := Aside0.mk H
            clear H
            have hcz23_0 : w21.cell? ⟨gb203, 0, none⟩ = some (.string a1_0) := (blk_cell BK203.out 0).trans rfl
            have hcz23_1 : w21.cell? ⟨gb203, 1, none⟩ = some (.bool a1_1) := (blk_cell BK203.out 1).trans rfl
            have hcz23_2 : w21.cell? ⟨gb203, 2, none⟩ = some (.int .i64 a1_2) := (blk_cell BK203.out 2).trans rfl
            have hcz23_3 : w21.cell? ⟨gb203, 3, none⟩ = some (.int .i64 a1_3) := (blk_cell BK203.out 3).trans rfl
            have hcz23_4 : w21.cell? ⟨gb203, 4, none⟩ = some (.int .i64 a1_4) := (blk_cell BK203.out 4).trans rfl
            have hcz23_5 : w21.cell? ⟨gb203, 5, none⟩ = some (.int .i64 a1_5) := (blk_cell BK203.out 5).trans rfl
            have hfz23_0 := blk_frozen BK203.out 0
            have hfz23_1 := blk_frozen BK203.out 1
            have hfz23_2 := blk_frozen BK203.out 2
            have hfz23_3 := blk_frozen BK203.out 3
            have hfz23_4 := blk_frozen BK203.out 4
            have hfz23_5 := blk_frozen BK203.out 5
            go_wp2
            go_meet
            case rel => exact ⟨_, (true), (by first | rfl | (simp; done) | (simp [*]; done)), H', ⟨by have := HJ3.out; first | omega | exact Nat.le_refl _⟩, ⟨by (with_reducible repeat (first | apply Kd.V_alloc | apply Kd.V_drewN | apply Kd.V_drew)); exact HO217.out⟩, ⟨by (with_reducible repeat (first | refine blk_drewN ?_ _ | refine blk_drew ?_ | refine blk_alloc ?_ _)); exact BK203.out⟩, ⟨by repeat (first | (with_reducible first | exact HB.out | apply below_alloc | apply pw_below_drewN | apply below_drew1 | refine below_set ?_ GE203.out) | exact HB.out)⟩⟩
          · rw [if_neg c22] at H
            have c22b0 : ((a1_0.size : Int) == 0) = false := beq_eq_false_iff_ne.mpr c22
            have c22b1 : ((a1_0.size : Int) != 0) = true := bne_iff_ne.mpr c22
            (first | rw [c22b0] | (simp only [i64_w, i32_w]; rw [c22b0]) | skip)
            have H' := Aside0.mk H
            clear H
            have hcz24_0 : w21.cell? ⟨gb203, 0, none⟩ = some (.string a1_0) := (blk_cell BK203.out 0).trans rfl
            have hcz24_1 : w21.cell? ⟨gb203, 1, none⟩ = some (.bool a1_1) := (blk_cell BK203.out 1).trans rfl
            have hcz24_2 : w21.cell? ⟨gb203, 2, none⟩ = some (.int .i64 a1_2) := (blk_cell BK203.out 2).trans rfl
            have hcz24_3 : w21.cell? ⟨gb203, 3, none⟩ = some (.int .i64 a1_3) := (blk_cell BK203.out 3).trans rfl
            have hcz24_4 : w21.cell? ⟨gb203, 4, none⟩ = some (.int .i64 a1_4) := (blk_cell BK203.out 4).trans rfl
            have hcz24_5 : w21.cell? ⟨gb203, 5, none⟩ = some (.int .i64 a1_5) := (blk_cell BK203.out 5).trans rfl
            have hfz24_0 := blk_frozen BK203.out 0
            have hfz24_1 := blk_frozen BK203.out 1
            have hfz24_2 := blk_frozen BK203.out 2
            have hfz24_3 := blk_frozen BK203.out 3
            have hfz24_4 := blk_frozen BK203.out 4
            have hfz24_5 := blk_frozen BK203.out 5
            go_wp2
            go_meet
            case rel => exact ⟨_, (decide ((a1_0.size : Int) > 31)), (by first | rfl | (simp; done) | (simp [*]; done)), H', ⟨by have := HJ3.out; first | omega | exact Nat.le_refl _⟩, ⟨by (with_reducible repeat (first | apply Kd.V_alloc | apply Kd.V_drewN | apply Kd.V_drew)); exact HO217.out⟩, ⟨by (with_reducible repeat (first | refine blk_drewN ?_ _ | refine blk_drew ?_ | refine blk_alloc ?_ _)); exact BK203.out⟩, ⟨by repeat (first | (with_reducible first | exact HB.out | apply below_alloc | apply pw_below_drewN | apply below_drew1 | refine below_set ?_ GE203.out) | exact HB.out)⟩⟩
        case rest =>
          clear HC16
          try clear c1
          try clear c2
          try clear p2
          try clear c5
          try clear c8
          try clear c9
          try clear c9b0
          try clear c9b1
          try clear c12
          try clear c16
          try clear c17
          try clear c18
          try clear c19
          try clear c22
          try clear c22b0
          try clear c22b1
          try clear hcz10_0
          try clear hcz10_1
          try clear hcz10_2
          try clear hcz10_3
          try clear hcz10_4
          try clear hcz10_5
          try clear hcz11_0
          try clear hcz11_1
          try clear hcz11_2
          try clear hcz11_3
          try clear hcz11_4
          try clear hcz11_5
          try clear hcz23_0
          try clear hcz23_1
          try clear hcz23_2
          try clear hcz23_3
          try clear hcz23_4
          try clear hcz23_5
          try clear hcz24_0
          try clear hcz24_1
          try clear hcz24_2
          try clear hcz24_3
          try clear hcz24_4
          try clear hcz24_5
          try clear hfz10_0
          try clear hfz10_1
          try clear hfz10_2
          try clear hfz10_3
          try clear hfz10_4
          try clear hfz10_5
          try clear hfz11_0
          try clear hfz11_1
          try clear hfz11_2
          try clear hfz11_3
          try clear hfz11_4
          try clear hfz11_5
          try clear hfz23_0
          try clear hfz23_1
          try clear hfz23_2
          try clear hfz23_3
          try clear hfz23_4
          try clear hfz23_5
          try clear hfz24_0
          try clear hfz24_1
          try clear hfz24_2
          try clear hfz24_3
          try clear hfz24_4
          try clear hfz24_5
          try clear p2
          obtain ⟨kq, x8_15, rfl, HA, HJ15, HO_6, BK203, HB⟩ := hcut
          cases kq with
          | zero => exact absurd HA.out (by simp [tenterhooklaw11_DictNames.j1])
          | succ kj15 =>
            have H := HA.out
            clear HA
            simp only [tenterhooklaw11_DictNames.j1] at H
            by_cases c25 : t218 = 0
            · rw [if_pos c25] at H
              have c25b0 : (t218 == 0) = true := beq_iff_eq.mpr c25
              have c25b1 : (t218 != 0) = false := bne_eq_false_iff_eq.mpr c25
              clear c25
              by_cases c26 : (t215.length : Int) = (wrap64 ((l0.length : Int) + 1))
              · rw [if_pos c26] at H
                have c26b0 : ((t215.length : Int) == (wrap64 ((l0.length : Int) + 1))) = true := beq_iff_eq.mpr c26
                have c26b1 : ((t215.length : Int) != (wrap64 ((l0.length : Int) + 1))) = false := bne_eq_false_iff_eq.mpr c26
                clear c26
                by_cases c27 : 0 ≤ (l0.length : Int)
                · rw [if_pos c27] at H
                  have c27b0 : decide (0 ≤ (l0.length : Int)) = true := decide_eq_true c27
                  have c27b1 : decide (0 ≤ l0.length) = true := decide_eq_true (by omega)
                  clear c27
                  by_cases c28 : (l0.length : Int) < (t215.length : Int)
                  · rw [if_pos c28] at H
                    have c28b0 : decide ((l0.length : Int) < (t215.length : Int)) = true := decide_eq_true c28
                    have c28b1 : decide (l0.length < t215.length) = true := decide_eq_true (Int.ofNat_lt.mp c28)
                    clear c28
                    replace H := Option.bind_eq_some_iff.mp H
                    obtain ⟨⟨t221, t224⟩, A290, H⟩ := H
                    replace H : (if t204 = true then (if x8_15 = true then (some false) else ((dict_Sane.f kj15 ((rd_T35 t215 (l0.length : Int)).f0) ((rd_T35 t215 (l0.length : Int)).f1) ((rd_T35 t215 (l0.length : Int)).f2) ((rd_T35 t215 (l0.length : Int)).f3) ((rd_T35 t215 (l0.length : Int)).f4.f0) ((rd_T35 t215 (l0.length : Int)).f4.f1)).bind fun t225 => (if t225 = true then (if (((rd_T35 t215 (l0.length : Int)).f1) == a1_1) = true then (if ((rd_T35 t215 (l0.length : Int)).f2) = a1_2 then (if ((rd_T35 t215 (l0.length : Int)).f3) = a1_3 then (if (((rd_T35 t215 (l0.length : Int)).f4.f0) == a1_4 && (((rd_T35 t215 (l0.length : Int)).f4.f1) == a1_5)) = true then (if t224 = 0 then (if (t221.length : Int) = (wrap64 ((t215.length : Int) + 1)) then (if 0 ≤ (t215.length : Int) then (if (t215.length : Int) < (t221.length : Int) then (some ((((rd_T35 t221 (t215.length : Int)).f0).toList) == (((rd_T35 t215 (l0.length : Int)).f0).toList) && (((rd_T35 t221 (t215.length : Int)).f1) == ((rd_T35 t215 (l0.length : Int)).f1) && (((rd_T35 t221 (t215.length : Int)).f2) == ((rd_T35 t215 (l0.length : Int)).f2) && (((rd_T35 t221 (t215.length : Int)).f3) == ((rd_T35 t215 (l0.length : Int)).f3) && ((((rd_T35 t221 (t215.length : Int)).f4.f0) == ((rd_T35 t215 (l0.length : Int)).f4.f0) && (((rd_T35 t221 (t215.length : Int)).f4.f1) == ((rd_T35 t215 (l0.length : Int)).f4.f1))))))))) else (none)) else (none)) else (some false)) else (some false)) else (some false)) else (some false)) else (some false)) else (some false)) else (some false)))) else (some false)) = some r := H
                    have A29 := Aside0.mk A290
                    clear A290
                    by_cases c30 : t204 = true
                    · subst c30
                      have H1 : (if x8_15 = true then (some false) else ((dict_Sane.f kj15 ((rd_T35 t215 (l0.length : Int)).f0) ((rd_T35 t215 (l0.length : Int)).f1) ((rd_T35 t215 (l0.length : Int)).f2) ((rd_T35 t215 (l0.length : Int)).f3) ((rd_T35 t215 (l0.length : Int)).f4.f0) ((rd_T35 t215 (l0.length : Int)).f4.f1)).bind fun t225 => (if t225 = true then (if (((rd_T35 t215 (l0.length : Int)).f1) == a1_1) = true then (if ((rd_T35 t215 (l0.length : Int)).f2) = a1_2 then (if ((rd_T35 t215 (l0.length : Int)).f3) = a1_3 then (if (((rd_T35 t215 (l0.length : Int)).f4.f0) == a1_4 && (((rd_T35 t215 (l0.length : Int)).f4.f1) == a1_5)) = true then (if t224 = 0 then (if (t221.length : Int) = (wrap64 ((t215.length : Int) + 1)) then (if 0 ≤ (t215.length : Int) then (if (t215.length : Int) < (t221.length : Int) then (some ((((rd_T35 t221 (t215.length : Int)).f0).toList) == (((rd_T35 t215 (l0.length : Int)).f0).toList) && (((rd_T35 t221 (t215.length : Int)).f1) == ((rd_T35 t215 (l0.length : Int)).f1) && (((rd_T35 t221 (t215.length : Int)).f2) == ((rd_T35 t215 (l0.length : Int)).f2) && (((rd_T35 t221 (t215.length : Int)).f3) == ((rd_T35 t215 (l0.length : Int)).f3) && ((((rd_T35 t221 (t215.length : Int)).f4.f0) == ((rd_T35 t215 (l0.length : Int)).f4.f0) && (((rd_T35 t221 (t215.length : Int)).f4.f1) == ((rd_T35 t215 (l0.length : Int)).f4.f1))))))))) else (none)) else (none)) else (some false)) else (some false)) else (some false)) else (some false)) else (some false)) else (some false)) else (some false)))) = some r := by rw [if_pos rfl] at H; exact H
                      clear H
                      have H := H1
                      clear H1
                      by_cases c31 : x8_15 = true
                      · subst c31
                        have H1 : (some false) = some r := by rw [if_pos rfl] at H; exact H
                        exact absurd ((Option.some.inj H1).trans HR_.out) (by decide)
                      · replace c31 := Bool.eq_false_iff.mpr c31
                        subst c31
                        have H1 : ((dict_Sane.f kj15 ((rd_T35 t215 (l0.length : Int)).f0) ((rd_T35 t215 (l0.length : Int)).f1) ((rd_T35 t215 (l0.length : Int)).f2) ((rd_T35 t215 (l0.length : Int)).f3) ((rd_T35 t215 (l0.length : Int)).f4.f0) ((rd_T35 t215 (l0.length : Int)).f4.f1)).bind fun t225 => (if t225 = true then (if (((rd_T35 t215 (l0.length : Int)).f1) == a1_1) = true then (if ((rd_T35 t215 (l0.length : Int)).f2) = a1_2 then (if ((rd_T35 t215 (l0.length : Int)).f3) = a1_3 then (if (((rd_T35 t215 (l0.length : Int)).f4.f0) == a1_4 && (((rd_T35 t215 (l0.length : Int)).f4.f1) == a1_5)) = true then (if t224 = 0 then (if (t221.length : Int) = (wrap64 ((t215.length : Int) + 1)) then (if 0 ≤ (t215.length : Int) then (if (t215.length : Int) < (t221.length : Int) then (some ((((rd_T35 t221 (t215.length : Int)).f0).toList) == (((rd_T35 t215 (l0.length : Int)).f0).toList) && (((rd_T35 t221 (t215.length : Int)).f1) == ((rd_T35 t215 (l0.length : Int)).f1) && (((rd_T35 t221 (t215.length : Int)).f2) == ((rd_T35 t215 (l0.length : Int)).f2) && (((rd_T35 t221 (t215.length : Int)).f3) == ((rd_T35 t215 (l0.length : Int)).f3) && ((((rd_T35 t221 (t215.length : Int)).f4.f0) == ((rd_T35 t215 (l0.length : Int)).f4.f0) && (((rd_T35 t221 (t215.length : Int)).f4.f1) == ((rd_T35 t215 (l0.length : Int)).f4.f1))))))))) else (none)) else (none)) else (some false)) else (some false)) else (some false)) else (some false)) else (some false)) else (some false)) else (some false))) = some r := by rw [if_neg (show ¬ (false = true) by decide)] at H; exact H
                        clear H
                        have H := H1
                        clear H1
                        replace H := Option.bind_eq_some_iff.mp H
                        obtain ⟨t225, A400, H⟩ := H
                        replace H : (if t225 = true then (if (((rd_T35 t215 (l0.length : Int)).f1) == a1_1) = true then (if ((rd_T35 t215 (l0.length : Int)).f2) = a1_2 then (if ((rd_T35 t215 (l0.length : Int)).f3) = a1_3 then (if (((rd_T35 t215 (l0.length : Int)).f4.f0) == a1_4 && (((rd_T35 t215 (l0.length : Int)).f4.f1) == a1_5)) = true then (if t224 = 0 then (if (t221.length : Int) = (wrap64 ((t215.length : Int) + 1)) then (if 0 ≤ (t215.length : Int) then (if (t215.length : Int) < (t221.length : Int) then (some ((((rd_T35 t221 (t215.length : Int)).f0).toList) == (((rd_T35 t215 (l0.length : Int)).f0).toList) && (((rd_T35 t221 (t215.length : Int)).f1) == ((rd_T35 t215 (l0.length : Int)).f1) && (((rd_T35 t221 (t215.length : Int)).f2) == ((rd_T35 t215 (l0.length : Int)).f2) && (((rd_T35 t221 (t215.length : Int)).f3) == ((rd_T35 t215 (l0.length : Int)).f3) && ((((rd_T35 t221 (t215.length : Int)).f4.f0) == ((rd_T35 t215 (l0.length : Int)).f4.f0) && (((rd_T35 t221 (t215.length : Int)).f4.f1) == ((rd_T35 t215 (l0.length : Int)).f4.f1))))))))) else (none)) else (none)) else (some false)) else (some false)) else (some false)) else (some false)) else (some false)) else (some false)) else (some false)) = some r := H
                        have A40 := Aside0.mk A400
                        clear A400
                        by_cases c41 : t225 = true
                        · subst c41
                          have H1 : (if (((rd_T35 t215 (l0.length : Int)).f1) == a1_1) = true then (if ((rd_T35 t215 (l0.length : Int)).f2) = a1_2 then (if ((rd_T35 t215 (l0.length : Int)).f3) = a1_3 then (if (((rd_T35 t215 (l0.length : Int)).f4.f0) == a1_4 && (((rd_T35 t215 (l0.length : Int)).f4.f1) == a1_5)) = true then (if t224 = 0 then (if (t221.length : Int) = (wrap64 ((t215.length : Int) + 1)) then (if 0 ≤ (t215.length : Int) then (if (t215.length : Int) < (t221.length : Int) then (some ((((rd_T35 t221 (t215.length : Int)).f0).toList) == (((rd_T35 t215 (l0.length : Int)).f0).toList) && (((rd_T35 t221 (t215.length : Int)).f1) == ((rd_T35 t215 (l0.length : Int)).f1) && (((rd_T35 t221 (t215.length : Int)).f2) == ((rd_T35 t215 (l0.length : Int)).f2) && (((rd_T35 t221 (t215.length : Int)).f3) == ((rd_T35 t215 (l0.length : Int)).f3) && ((((rd_T35 t221 (t215.length : Int)).f4.f0) == ((rd_T35 t215 (l0.length : Int)).f4.f0) && (((rd_T35 t221 (t215.length : Int)).f4.f1) == ((rd_T35 t215 (l0.length : Int)).f4.f1))))))))) else (none)) else (none)) else (some false)) else (some false)) else (some false)) else (some false)) else (some false)) else (some false)) = some r := by rw [if_pos rfl] at H; exact H
                          clear H
                          have H := H1
                          clear H1
                          by_cases c42 : (((rd_T35 t215 (l0.length : Int)).f1) == a1_1) = true
                          · rw [if_pos c42] at H
                            have c42b0 : (((rd_T35 t215 (l0.length : Int)).f1) == a1_1) = true := c42
                            (try (have c42b1 : decide (((rd_T35 t215 (l0.length : Int)).f1) = a1_1) = true := by simpa using c42))
                            (try (have c42b2 : (((rd_T35 t215 (l0.length : Int)).f1) == a1_1) = true := by simpa using c42))
                            clear c42
                            by_cases c43 : ((rd_T35 t215 (l0.length : Int)).f2) = a1_2
                            · rw [if_pos c43] at H
                              have c43b0 : (((rd_T35 t215 (l0.length : Int)).f2) == a1_2) = true := beq_iff_eq.mpr c43
                              have c43b1 : (((rd_T35 t215 (l0.length : Int)).f2) != a1_2) = false := bne_eq_false_iff_eq.mpr c43
                              clear c43
                              by_cases c44 : ((rd_T35 t215 (l0.length : Int)).f3) = a1_3
                              · rw [if_pos c44] at H
                                have c44b0 : (((rd_T35 t215 (l0.length : Int)).f3) == a1_3) = true := beq_iff_eq.mpr c44
                                have c44b1 : (((rd_T35 t215 (l0.length : Int)).f3) != a1_3) = false := bne_eq_false_iff_eq.mpr c44
                                clear c44
                                by_cases c45 : (((rd_T35 t215 (l0.length : Int)).f4.f0) == a1_4 && (((rd_T35 t215 (l0.length : Int)).f4.f1) == a1_5)) = true
                                · rw [if_pos c45] at H
                                  have c45b0 : (((rd_T35 t215 (l0.length : Int)).f4.f0) == a1_4 && (((rd_T35 t215 (l0.length : Int)).f4.f1) == a1_5)) = true := c45
                                  (try (have c45b1 : decide (((rd_T35 t215 (l0.length : Int)).f4.f0) = a1_4 && (((rd_T35 t215 (l0.length : Int)).f4.f1) == a1_5)) = true := by simpa using c45))
                                  (try (have c45b2 : (((rd_T35 t215 (l0.length : Int)).f4.f0) == a1_4 && (((rd_T35 t215 (l0.length : Int)).f4.f1) == a1_5)) = true := by simpa using c45))
                                  clear c45
                                  by_cases c46 : t224 = 0
                                  · rw [if_pos c46] at H
                                    have c46b0 : (t224 == 0) = true := beq_iff_eq.mpr c46
                                    have c46b1 : (t224 != 0) = false := bne_eq_false_iff_eq.mpr c46
                                    clear c46
                                    by_cases c47 : (t221.length : Int) = (wrap64 ((t215.length : Int) + 1))
                                    · rw [if_pos c47] at H
                                      have c47b0 : ((t221.length : Int) == (wrap64 ((t215.length : Int) + 1))) = true := beq_iff_eq.mpr c47
                                      have c47b1 : ((t221.length : Int) != (wrap64 ((t215.length : Int) + 1))) = false := bne_eq_false_iff_eq.mpr c47
                                      clear c47
                                      by_cases c48 : 0 ≤ (t215.length : Int)
                                      · rw [if_pos c48] at H
                                        have c48b0 : decide (0 ≤ (t215.length : Int)) = true := decide_eq_true c48
                                        have c48b1 : decide (0 ≤ t215.length) = true := decide_eq_true (by omega)
                                        clear c48
                                        by_cases c49 : (t215.length : Int) < (t221.length : Int)
                                        · rw [if_pos c49] at H
                                          have c49b0 : decide ((t215.length : Int) < (t221.length : Int)) = true := decide_eq_true c49
                                          have c49b1 : decide (t215.length < t221.length) = true := decide_eq_true (Int.ofNat_lt.mp c49)
                                          clear c49
                                          obtain rfl := Option.some.inj H
                                          obtain ⟨Ao50, co50, eo50⟩ := Kd.V_slice HO_6.out
                                          subst eo50
                                          have p219 : 0 ≤ ((l0.length : Int) : Int) := of_decide_eq_true (by first | (with_reducible assumption) | assumption)
                                          have q219 : (l0.length : Int) < (t215.length : Int) := of_decide_eq_true (by first | (with_reducible assumption) | assumption)
                                          obtain ⟨ad219, e219, hx219_0, hx219_1, hx219_2, hx219_3, hx219_4, hx219_5⟩ := at_T35 (Kd.V_reads' HO_6.out).2.2 (l0.length : Int) p219 q219
                                          cases e219
                                          (try simp only [Go.IntWalk.toNatUp] at hx219_0)
                                          (try simp only [Go.IntWalk.toNatUp] at hx219_1)
                                          (try simp only [Go.IntWalk.toNatUp] at hx219_2)
                                          (try simp only [Go.IntWalk.toNatUp] at hx219_3)
                                          (try simp only [Go.IntWalk.toNatUp] at hx219_4)
                                          (try simp only [Go.IntWalk.toNatUp] at hx219_5)
                                          replace p219 := eq_true p219
                                          replace q219 := eq_true q219
                                          try go_wp2_with (first | ((with_reducible refine gate_dst (N := 9) rfl ?_); (try (refine gate_guard (by rfl) ?_; dsimp only)); refine box_event ?hg (N := 9) ?hd (cs := #[.string (⟨#[]⟩ : ByteArray), .bool false, .int .i64 0, .int .i64 0, .int .i64 0, .int .i64 0]) (t := 35) ?hr ?_; (case hd => rfl); (case hg => rfl); (case hr => first | (go_simp; done) | (go_simp; rfl)); intro gb220 hg w51 hbox hb; have n0_ := Aside0.mk (Kd.V_below (Kd.V_elderB (by (with_reducible repeat (first | apply Kd.V_alloc | apply Kd.V_drewN | apply Kd.V_drew)); exact HO_6.out) gb220 (Nat.le_of_eq hg.symm)) hb); have n1_ := Aside0.mk (blk_below (g := gb203) (o := .cells #[.string a1_0, .bool a1_1, .int .i64 a1_2, .int .i64 a1_3, .int .i64 a1_4, .int .i64 a1_5] 40 (0, 0)) (by (with_reducible repeat (first | refine blk_drewN ?_ _ | refine blk_drew ?_ | refine blk_alloc ?_ _)); exact BK203.out) hb); have n2_ := Aside0.mk (below_step (by repeat (first | (with_reducible first | exact HB.out | apply below_alloc | apply pw_below_drewN | apply below_drew1 | refine below_set ?_ GE203.out) | exact HB.out)) hb); have n3_ := Aside0.mk (hbox); have n4_ := Aside0.mk ((by rw [hg]; exact (below_size (by repeat (first | (with_reducible first | exact HB.out | apply below_alloc | apply pw_below_drewN | apply below_drew1 | refine below_set ?_ GE203.out) | exact HB.out))) : w.heap.size ≤ gb220)); have n5_ := Aside0.mk ((by rw [hg]; exact (below_size (by repeat (first | (with_reducible first | exact HB.out | apply below_alloc | apply pw_below_drewN | apply below_drew1 | refine below_set ?_ GE203.out) | exact HB.out))) : w.heap.size ≤ gb220)); have n6_ := Aside0.mk ((by rw [hg]; exact Nat.ne_of_lt (blk_lt (g := gb203) (o := .cells #[.string a1_0, .bool a1_1, .int .i64 a1_2, .int .i64 a1_3, .int .i64 a1_4, .int .i64 a1_5] 40 (0, 0)) (by (with_reducible repeat (first | refine blk_drewN ?_ _ | refine blk_drew ?_ | refine blk_alloc ?_ _)); exact BK203.out)) : gb203 ≠ gb220)); have n7_ := Aside0.mk ((by rw [hg]; exact Nat.ne_of_gt (blk_lt (g := gb203) (o := .cells #[.string a1_0, .bool a1_1, .int .i64 a1_2, .int .i64 a1_3, .int .i64 a1_4, .int .i64 a1_5] 40 (0, 0)) (by (with_reducible repeat (first | refine blk_drewN ?_ _ | refine blk_drew ?_ | refine blk_alloc ?_ _)); exact BK203.out)) : gb220 ≠ gb203)); clear HO_6; clear BK203; clear HB; have HO_6 := n0_; have BK203 := n1_; have HB := n2_; have BK220 := n3_; have GW220 := n4_; have GE220 := n5_; have NB203_220 := n6_; have NB220_203 := n7_; clear n0_ n1_ n2_ n3_ n4_ n5_ n6_ n7_; clear hb hbox hg; have hnb52 := NB220_203.out; have hnc52 := NB203_220.out; have hcz53_0 : w51.cell? ⟨gb220, 0, none⟩ = some (.string (⟨#[]⟩ : ByteArray)) := (blk_cell BK220.out 0).trans rfl; have hcz53_1 : w51.cell? ⟨gb220, 1, none⟩ = some (.bool false) := (blk_cell BK220.out 1).trans rfl; have hcz53_2 : w51.cell? ⟨gb220, 2, none⟩ = some (.int .i64 0) := (blk_cell BK220.out 2).trans rfl; have hcz53_3 : w51.cell? ⟨gb220, 3, none⟩ = some (.int .i64 0) := (blk_cell BK220.out 3).trans rfl; have hcz53_4 : w51.cell? ⟨gb220, 4, none⟩ = some (.int .i64 0) := (blk_cell BK220.out 4).trans rfl; have hcz53_5 : w51.cell? ⟨gb220, 5, none⟩ = some (.int .i64 0) := (blk_cell BK220.out 5).trans rfl; have hfz53_0 := blk_frozen BK220.out 0; have hfz53_1 := blk_frozen BK220.out 1; have hfz53_2 := blk_frozen BK220.out 2; have hfz53_3 := blk_frozen BK220.out 3; have hfz53_4 := blk_frozen BK220.out 4; have hfz53_5 := blk_frozen BK220.out 5) | ((with_reducible refine gate_store (t := 35) (p := 9) rfl ?_); refine store_event (t := 35) (p := 9) (v := ?vo_w54) (w1 := ((((((w51.setCell ⟨gb220, 0, none⟩ (.string ((rd_T35 t215 (l0.length : Int)).f0))).setCell ⟨gb220, 1, none⟩ (.bool ((rd_T35 t215 (l0.length : Int)).f1))).setCell ⟨gb220, 2, none⟩ (.int .i64 ((rd_T35 t215 (l0.length : Int)).f2))).setCell ⟨gb220, 3, none⟩ (.int .i64 ((rd_T35 t215 (l0.length : Int)).f3))).setCell ⟨gb220, 4, none⟩ (.int .i64 ((rd_T35 t215 (l0.length : Int)).f4.f0))).setCell ⟨gb220, 5, none⟩ (.int .i64 ((rd_T35 t215 (l0.length : Int)).f4.f1)))) ?hg ?ho ?hn ?hr ?_; (case ho => rfl); (case hg => rfl); (case hn => rfl); (case hr => first | (go_simp; done) | (go_simp; rfl)); intro w54 hw; have n0_ : Aside0 (Kd.V k35 35 w54 w.heap.size (fun k_ => k_ ≠ gb203 ∧ k_ ≠ gb220) (.slice (some ad219) t215.length co50) t215) := ⟨(by rw [hw]; exact (by (with_reducible repeat (first | apply Kd.V_alloc | apply Kd.V_drewN | apply Kd.V_drew)); exact Kd.V_mono (Kd.V_far (p := ⟨gb220, 5, none⟩) (Kd.V_far (p := ⟨gb220, 4, none⟩) (Kd.V_far (p := ⟨gb220, 3, none⟩) (Kd.V_far (p := ⟨gb220, 2, none⟩) (Kd.V_far (p := ⟨gb220, 1, none⟩) (Kd.V_far (p := ⟨gb220, 0, none⟩) (Kd.V_mono HO_6.out (fun k_ hk => (⟨hk, hk.2⟩ : _ ∧ k_ ≠ gb220))) (fun _ hk => hk.2) (.string ((rd_T35 t215 (l0.length : Int)).f0))) (fun _ hk => hk.2) (.bool ((rd_T35 t215 (l0.length : Int)).f1))) (fun _ hk => hk.2) (.int .i64 ((rd_T35 t215 (l0.length : Int)).f2))) (fun _ hk => hk.2) (.int .i64 ((rd_T35 t215 (l0.length : Int)).f3))) (fun _ hk => hk.2) (.int .i64 ((rd_T35 t215 (l0.length : Int)).f4.f0))) (fun _ hk => hk.2) (.int .i64 ((rd_T35 t215 (l0.length : Int)).f4.f1))) (fun _ hk => ⟨hk.1.1, hk.1.2⟩)))⟩; have n1_ : Aside0 (w54.heap[gb203]? = some (.cells #[.string a1_0, .bool a1_1, .int .i64 a1_2, .int .i64 a1_3, .int .i64 a1_4, .int .i64 a1_5] 40 (0, 0))) := ⟨(by rw [hw]; exact (by (with_reducible repeat (first | refine blk_drewN ?_ _ | refine blk_drew ?_ | refine blk_alloc ?_ _)); refine blk_far ?_ NB203_220.out _; (with_reducible repeat (first | refine blk_drewN ?_ _ | refine blk_drew ?_ | refine blk_alloc ?_ _)); refine blk_far ?_ NB203_220.out _; (with_reducible repeat (first | refine blk_drewN ?_ _ | refine blk_drew ?_ | refine blk_alloc ?_ _)); refine blk_far ?_ NB203_220.out _; (with_reducible repeat (first | refine blk_drewN ?_ _ | refine blk_drew ?_ | refine blk_alloc ?_ _)); refine blk_far ?_ NB203_220.out _; (with_reducible repeat (first | refine blk_drewN ?_ _ | refine blk_drew ?_ | refine blk_alloc ?_ _)); refine blk_far ?_ NB203_220.out _; (with_reducible repeat (first | refine blk_drewN ?_ _ | refine blk_drew ?_ | refine blk_alloc ?_ _)); refine blk_far ?_ NB203_220.out _; (with_reducible repeat (first | refine blk_drewN ?_ _ | refine blk_drew ?_ | refine blk_alloc ?_ _)); exact BK203.out))⟩; have n2_ : Aside0 (w54.heap[gb220]? = some (.cells #[.string ((rd_T35 t215 (l0.length : Int)).f0), .bool ((rd_T35 t215 (l0.length : Int)).f1), .int .i64 ((rd_T35 t215 (l0.length : Int)).f2), .int .i64 ((rd_T35 t215 (l0.length : Int)).f3), .int .i64 ((rd_T35 t215 (l0.length : Int)).f4.f0), .int .i64 ((rd_T35 t215 (l0.length : Int)).f4.f1)] 35 (0, 0))) := ⟨(by rw [hw]; exact (by (with_reducible repeat (first | refine blk_drewN ?_ _ | refine blk_drew ?_ | refine blk_alloc ?_ _)); refine blk_put (cs := #[.string ((rd_T35 t215 (l0.length : Int)).f0), .bool ((rd_T35 t215 (l0.length : Int)).f1), .int .i64 ((rd_T35 t215 (l0.length : Int)).f2), .int .i64 ((rd_T35 t215 (l0.length : Int)).f3), .int .i64 ((rd_T35 t215 (l0.length : Int)).f4.f0), .int .i64 0]) ?_ 5 _ rfl; (with_reducible repeat (first | refine blk_drewN ?_ _ | refine blk_drew ?_ | refine blk_alloc ?_ _)); refine blk_put (cs := #[.string ((rd_T35 t215 (l0.length : Int)).f0), .bool ((rd_T35 t215 (l0.length : Int)).f1), .int .i64 ((rd_T35 t215 (l0.length : Int)).f2), .int .i64 ((rd_T35 t215 (l0.length : Int)).f3), .int .i64 0, .int .i64 0]) ?_ 4 _ rfl; (with_reducible repeat (first | refine blk_drewN ?_ _ | refine blk_drew ?_ | refine blk_alloc ?_ _)); refine blk_put (cs := #[.string ((rd_T35 t215 (l0.length : Int)).f0), .bool ((rd_T35 t215 (l0.length : Int)).f1), .int .i64 ((rd_T35 t215 (l0.length : Int)).f2), .int .i64 0, .int .i64 0, .int .i64 0]) ?_ 3 _ rfl; (with_reducible repeat (first | refine blk_drewN ?_ _ | refine blk_drew ?_ | refine blk_alloc ?_ _)); refine blk_put (cs := #[.string ((rd_T35 t215 (l0.length : Int)).f0), .bool ((rd_T35 t215 (l0.length : Int)).f1), .int .i64 0, .int .i64 0, .int .i64 0, .int .i64 0]) ?_ 2 _ rfl; (with_reducible repeat (first | refine blk_drewN ?_ _ | refine blk_drew ?_ | refine blk_alloc ?_ _)); refine blk_put (cs := #[.string ((rd_T35 t215 (l0.length : Int)).f0), .bool false, .int .i64 0, .int .i64 0, .int .i64 0, .int .i64 0]) ?_ 1 _ rfl; (with_reducible repeat (first | refine blk_drewN ?_ _ | refine blk_drew ?_ | refine blk_alloc ?_ _)); refine blk_put (cs := #[.string (⟨#[]⟩ : ByteArray), .bool false, .int .i64 0, .int .i64 0, .int .i64 0, .int .i64 0]) ?_ 0 _ rfl; (with_reducible repeat (first | refine blk_drewN ?_ _ | refine blk_drew ?_ | refine blk_alloc ?_ _)); exact BK220.out))⟩; have n3_ : Aside0 (Below w.heap.size w w54) := ⟨(by rw [hw]; exact (by repeat (first | (with_reducible first | exact HB.out | apply below_alloc | apply pw_below_drewN | apply below_drew1 | refine below_set ?_ GE203.out | refine below_set ?_ GE220.out) | exact HB.out)))⟩; clear hw; clear HO_6; clear BK203; clear BK220; clear HB; have HO_6 := n0_; have BK203 := n1_; have BK220 := n2_; have HB := n3_; clear n0_ n1_ n2_ n3_; have hcz55_0 : w54.cell? ⟨gb220, 0, none⟩ = some (.string ((rd_T35 t215 (l0.length : Int)).f0)) := (blk_cell BK220.out 0).trans rfl; have hcz55_1 : w54.cell? ⟨gb220, 1, none⟩ = some (.bool ((rd_T35 t215 (l0.length : Int)).f1)) := (blk_cell BK220.out 1).trans rfl; have hcz55_2 : w54.cell? ⟨gb220, 2, none⟩ = some (.int .i64 ((rd_T35 t215 (l0.length : Int)).f2)) := (blk_cell BK220.out 2).trans rfl; have hcz55_3 : w54.cell? ⟨gb220, 3, none⟩ = some (.int .i64 ((rd_T35 t215 (l0.length : Int)).f3)) := (blk_cell BK220.out 3).trans rfl; have hcz55_4 : w54.cell? ⟨gb220, 4, none⟩ = some (.int .i64 ((rd_T35 t215 (l0.length : Int)).f4.f0)) := (blk_cell BK220.out 4).trans rfl; have hcz55_5 : w54.cell? ⟨gb220, 5, none⟩ = some (.int .i64 ((rd_T35 t215 (l0.length : Int)).f4.f1)) := (blk_cell BK220.out 5).trans rfl; have hfz55_0 := blk_frozen BK220.out 0; have hfz55_1 := blk_frozen BK220.out 1; have hfz55_2 := blk_frozen BK220.out 2; have hfz55_3 := blk_frozen BK220.out 3; have hfz55_4 := blk_frozen BK220.out 4; have hfz55_5 := blk_frozen BK220.out 5) | ((with_reducible refine gate_callee (f := 17) rfl ?_); refine goesL_ (some 76) rfl rfl Try.func17 (by kernel_rfl) rfl #[.slice (some ad219) t215.length co50, .agg #[.string ((rd_T35 t215 (l0.length : Int)).f0), .bool ((rd_T35 t215 (l0.length : Int)).f1), .int .i64 ((rd_T35 t215 (l0.length : Int)).f2), .int .i64 ((rd_T35 t215 (l0.length : Int)).f3), .int .i64 ((rd_T35 t215 (l0.length : Int)).f4.f0), .int .i64 ((rd_T35 t215 (l0.length : Int)).f4.f1)]] rfl (by (try simp only [List.map_toArray, List.map_cons, List.map_nil]); first | done | rfl | (simp only [List.length_drop, List.length_take]; rfl)) ?_; (with_reducible refine (dict_Add.calls kj15 (fun k_ => (k_ ≠ gb203 ∧ k_ ≠ gb220)) _ _ t215 ((rd_T35 t215 (l0.length : Int)).f0) ((rd_T35 t215 (l0.length : Int)).f1) ((rd_T35 t215 (l0.length : Int)).f2) ((rd_T35 t215 (l0.length : Int)).f3) ((rd_T35 t215 (l0.length : Int)).f4.f0) ((rd_T35 t215 (l0.length : Int)).f4.f1) t221 t224 _ ?side1 A29.out).mono ?_); (case side1 => exact HO_6.out); rintro e w56 ⟨v222, rfl, ho0, hb⟩; refine ⟨_, rfl, ?_⟩; have n0_ := Aside0.mk (Kd.V_below (by (with_reducible repeat (first | apply Kd.V_alloc | apply Kd.V_drewN | apply Kd.V_drew)); exact HO_6.out) hb); have n1_ := Aside0.mk (Kd.V_lower (Kd.V_mono (ok' := fun k_ => k_ ≠ gb203 ∧ k_ ≠ gb220) ho0 (fun k_ hk_ => ⟨Or.elim hk_ (fun hs_ => hs_.1) (fun hn_ => (Kd.freshB (g := gb203) (o := .cells #[.string a1_0, .bool a1_1, .int .i64 a1_2, .int .i64 a1_3, .int .i64 a1_4, .int .i64 a1_5] 40 (0, 0)) (by (with_reducible repeat (first | refine blk_drewN ?_ _ | refine blk_drew ?_ | refine blk_alloc ?_ _)); exact BK203.out) k_ hn_)), Or.elim hk_ (fun hs_ => hs_.2) (fun hn_ => (Kd.freshB (g := gb220) (o := .cells #[.string ((rd_T35 t215 (l0.length : Int)).f0), .bool ((rd_T35 t215 (l0.length : Int)).f1), .int .i64 ((rd_T35 t215 (l0.length : Int)).f2), .int .i64 ((rd_T35 t215 (l0.length : Int)).f3), .int .i64 ((rd_T35 t215 (l0.length : Int)).f4.f0), .int .i64 ((rd_T35 t215 (l0.length : Int)).f4.f1)] 35 (0, 0)) (by (with_reducible repeat (first | refine blk_drewN ?_ _ | refine blk_drew ?_ | refine blk_alloc ?_ _)); exact BK220.out) k_ hn_))⟩)) (below_size (by repeat (first | (with_reducible first | exact HB.out | apply below_alloc | apply pw_below_drewN | apply below_drew1 | refine below_set ?_ GE203.out | refine below_set ?_ GE220.out) | exact HB.out)))); have n2_ := Aside0.mk (blk_below (g := gb203) (o := .cells #[.string a1_0, .bool a1_1, .int .i64 a1_2, .int .i64 a1_3, .int .i64 a1_4, .int .i64 a1_5] 40 (0, 0)) (by (with_reducible repeat (first | refine blk_drewN ?_ _ | refine blk_drew ?_ | refine blk_alloc ?_ _)); exact BK203.out) hb); have n3_ := Aside0.mk (blk_below (g := gb220) (o := .cells #[.string ((rd_T35 t215 (l0.length : Int)).f0), .bool ((rd_T35 t215 (l0.length : Int)).f1), .int .i64 ((rd_T35 t215 (l0.length : Int)).f2), .int .i64 ((rd_T35 t215 (l0.length : Int)).f3), .int .i64 ((rd_T35 t215 (l0.length : Int)).f4.f0), .int .i64 ((rd_T35 t215 (l0.length : Int)).f4.f1)] 35 (0, 0)) (by (with_reducible repeat (first | refine blk_drewN ?_ _ | refine blk_drew ?_ | refine blk_alloc ?_ _)); exact BK220.out) hb); have n4_ := Aside0.mk (below_step (by repeat (first | (with_reducible first | exact HB.out | apply below_alloc | apply pw_below_drewN | apply below_drew1 | refine below_set ?_ GE203.out | refine below_set ?_ GE220.out) | exact HB.out)) hb); clear HO_6; clear BK203; clear BK220; clear HB; have HO_6 := n0_; have HO223 := n1_; have BK203 := n2_; have BK220 := n3_; have HB := n4_; clear n0_ n1_ n2_ n3_ n4_; (try clear hb); (try clear hb2); (try clear hk); (try clear hi); (try clear ho0)))
                                          have n0_ := Aside0.mk (Kd.V_drew HO_6.out)
                                          have n1_ := Aside0.mk (Kd.V_drew HO223.out)
                                          have n2_ := Aside0.mk (blk_drew BK203.out)
                                          have n3_ := Aside0.mk (blk_drew BK220.out)
                                          have n4_ := Aside0.mk (below_drew1 HB.out)
                                          clear HO_6
                                          clear HO223
                                          clear BK203
                                          clear BK220
                                          clear HB
                                          have HO_6 := n0_
                                          have HO223 := n1_
                                          have BK203 := n2_
                                          have BK220 := n3_
                                          have HB := n4_
                                          clear n0_ n1_ n2_ n3_ n4_
                                          have p226 : 0 ≤ ((t215.length : Int) : Int) := of_decide_eq_true (by first | (with_reducible assumption) | assumption)
                                          have q226 : (t215.length : Int) < (t221.length : Int) := of_decide_eq_true (by first | (with_reducible assumption) | assumption)
                                          (try (obtain ⟨A_, c_, hv_, _⟩ := HO223.out; subst hv_))
                                          obtain ⟨ad226, e226, hx226_0, hx226_1, hx226_2, hx226_3, hx226_4, hx226_5⟩ := at_T35 (Kd.V_reads' HO223.out).2.2 (t215.length : Int) p226 q226
                                          cases e226
                                          (try simp only [Go.IntWalk.toNatUp] at hx226_0)
                                          (try simp only [Go.IntWalk.toNatUp] at hx226_1)
                                          (try simp only [Go.IntWalk.toNatUp] at hx226_2)
                                          (try simp only [Go.IntWalk.toNatUp] at hx226_3)
                                          (try simp only [Go.IntWalk.toNatUp] at hx226_4)
                                          (try simp only [Go.IntWalk.toNatUp] at hx226_5)
                                          replace p226 := eq_true p226
                                          replace q226 := eq_true q226
                                          refine start_ (n := 59) (S := fun w' => w'.cell? ⟨gb220, 0, none⟩ = some (.string ((rd_T35 t215 (l0.length : Int)).f0)) ∧ w'.cell? ⟨gb220, 1, none⟩ = some (.bool ((rd_T35 t215 (l0.length : Int)).f1)) ∧ w'.cell? ⟨gb220, 2, none⟩ = some (.int .i64 ((rd_T35 t215 (l0.length : Int)).f2)) ∧ w'.cell? ⟨gb220, 3, none⟩ = some (.int .i64 ((rd_T35 t215 (l0.length : Int)).f3)) ∧ w'.cell? ⟨gb220, 4, none⟩ = some (.int .i64 ((rd_T35 t215 (l0.length : Int)).f4.f0)) ∧ w'.cell? ⟨gb220, 5, none⟩ = some (.int .i64 ((rd_T35 t215 (l0.length : Int)).f4.f1)) ∧ w'.cell? ⟨gb203, 0, none⟩ = some (.string a1_0) ∧ w'.cell? ⟨gb203, 1, none⟩ = some (.bool a1_1) ∧ w'.cell? ⟨gb203, 2, none⟩ = some (.int .i64 a1_2) ∧ w'.cell? ⟨gb203, 3, none⟩ = some (.int .i64 a1_3) ∧ w'.cell? ⟨gb203, 4, none⟩ = some (.int .i64 a1_4) ∧ w'.cell? ⟨gb203, 5, none⟩ = some (.int .i64 a1_5) ∧ w'.cell? (ad226.add (t215.length * 6)) = some (.string ((rd_T35 t221 (t215.length : Int)).f0)) ∧ w'.cell? ⟨(ad226.add (t215.length * 6)).block, (ad226.add (t215.length * 6)).off + 1, none⟩ = some (.bool ((rd_T35 t221 (t215.length : Int)).f1)) ∧ w'.cell? ⟨(ad226.add (t215.length * 6)).block, (ad226.add (t215.length * 6)).off + 2, none⟩ = some (.int .i64 ((rd_T35 t221 (t215.length : Int)).f2)) ∧ w'.cell? ⟨(ad226.add (t215.length * 6)).block, (ad226.add (t215.length * 6)).off + 3, none⟩ = some (.int .i64 ((rd_T35 t221 (t215.length : Int)).f3)) ∧ w'.cell? ⟨(ad226.add (t215.length * 6)).block, (ad226.add (t215.length * 6)).off + 4, none⟩ = some (.int .i64 ((rd_T35 t221 (t215.length : Int)).f4.f0)) ∧ w'.cell? ⟨(ad226.add (t215.length * 6)).block, (ad226.add (t215.length * 6)).off + 5, none⟩ = some (.int .i64 ((rd_T35 t221 (t215.length : Int)).f4.f1))) (ds := []) #[false, false, false, false, false, false, false, false, false, false, false, false, false, false, false, false, false, false, false, false, false, false, false, false, false, false, false, false, false, false, false, false, false, false, false, false, false, false, false, false, false, false, false, false, false, false, false, false, false, false, false, false, false, false, false, false, false, false, false] (by kernel_rfl) rfl rfl ⟨(blk_cell BK220.out 0).trans rfl, (blk_cell BK220.out 1).trans rfl, (blk_cell BK220.out 2).trans rfl, (blk_cell BK220.out 3).trans rfl, (blk_cell BK220.out 4).trans rfl, (blk_cell BK220.out 5).trans rfl, (blk_cell BK203.out 0).trans rfl, (blk_cell BK203.out 1).trans rfl, (blk_cell BK203.out 2).trans rfl, (blk_cell BK203.out 3).trans rfl, (blk_cell BK203.out 4).trans rfl, (blk_cell BK203.out 5).trans rfl, hx226_0, hx226_1, hx226_2, hx226_3, hx226_4, hx226_5⟩ (fun hHeld => ?_); refine with_tabW tenterhooklaw11_DictNames.tab12 tenterhooklaw11_DictNames.bits12 (fun HT_ HW_ => ?_)
                                          generalize w56.drew = w57 at HO_6 HO223 BK203 BK220 HB hx226_0 hx226_1 hx226_2 hx226_3 hx226_4 hx226_5 hHeld ⊢
                                          refine pure_ (i := 0) (N := some 79) (v := ?_) (a' := ?_) #[true, false, false, false, false, false, false, false, false, false, false, false, false, false, false, false, false, false, false, false, false, false, false, false, false, false, false, false, false, false, false, false, false, false, false, false, false, false, false, false, false, false, false, false, false, false, false, false, false, false, false, false, false, false, false, false, false, false, false] rfl rfl (any_of HT_.out (by kernel_rfl)) (fun _ _ _ h => h) (Or.inl ⟨by rfl, ?_⟩) ?_ ?_
                                          rotate_left
                                          · intro w'
                                            go_simp
                                            with_reducible rfl
                                          rotate_left
                                          · simp only [Act.put, List.setIfInBounds_toArray, List.set_cons_zero, List.set_cons_succ, i64_w, i32_w]
                                            rfl
                                          refine pure_ (i := 1) (N := some 80) (v := ?_) (a' := ?_) #[true, true, false, false, false, false, false, false, false, false, false, false, false, false, false, false, false, false, false, false, false, false, false, false, false, false, false, false, false, false, false, false, false, false, false, false, false, false, false, false, false, false, false, false, false, false, false, false, false, false, false, false, false, false, false, false, false, false, false] rfl rfl (any_of HT_.out (by kernel_rfl)) (fun _ _ _ h => h) (Or.inl ⟨by rfl, ?_⟩) ?_ ?_
                                          rotate_left
                                          · intro w'
                                            go_simp
                                            with_reducible rfl
                                          rotate_left
                                          · simp only [Act.put, List.setIfInBounds_toArray, List.set_cons_zero, List.set_cons_succ, i64_w, i32_w]
                                            rfl
                                          refine pure_ (i := 2) (N := some 81) (v := ?_) (a' := ?_) #[true, true, true, false, false, false, false, false, false, false, false, false, false, false, false, false, false, false, false, false, false, false, false, false, false, false, false, false, false, false, false, false, false, false, false, false, false, false, false, false, false, false, false, false, false, false, false, false, false, false, false, false, false, false, false, false, false, false, false] rfl rfl (any_of HT_.out (by kernel_rfl)) (fun _ _ _ h => h) (Or.inl ⟨by rfl, ?_⟩) ?_ ?_
                                          rotate_left
                                          · intro w'
                                            go_simp
                                            with_reducible rfl
                                          rotate_left
                                          · simp only [Act.put, List.setIfInBounds_toArray, List.set_cons_zero, List.set_cons_succ, i64_w, i32_w]
                                            rfl
                                          refine pure_ (i := 3) (N := some 82) (v := ?_) (a' := ?_) #[true, true, true, true, false, false, false, false, false, false, false, false, false, false, false, false, false, false, false, false, false, false, false, false, false, false, false, false, false, false, false, false, false, false, false, false, false, false, false, false, false, false, false, false, false, false, false, false, false, false, false, false, false, false, false, false, false, false, false] rfl rfl (any_of HT_.out (by kernel_rfl)) (fun _ _ _ h => h) (Or.inl ⟨by rfl, ?_⟩) ?_ ?_
                                          rotate_left
                                          · intro w'
                                            go_simp
                                            with_reducible rfl
                                          rotate_left
                                          · simp only [Act.put, List.setIfInBounds_toArray, List.set_cons_zero, List.set_cons_succ, i64_w, i32_w]
                                            rfl
                                          refine pure_ (i := 4) (N := some 83) (v := ?_) (a' := ?_) #[true, true, true, true, true, false, false, false, false, false, false, false, false, false, false, false, false, false, false, false, false, false, false, false, false, false, false, false, false, false, false, false, false, false, false, false, false, false, false, false, false, false, false, false, false, false, false, false, false, false, false, false, false, false, false, false, false, false, false] rfl rfl (any_of HT_.out (by kernel_rfl)) (fun _ _ _ h => h) (Or.inl ⟨by rfl, ?_⟩) ?_ ?_
                                          rotate_left
                                          · intro w'
                                            go_simp
                                            with_reducible rfl
                                          rotate_left
                                          · simp only [Act.put, List.setIfInBounds_toArray, List.set_cons_zero, List.set_cons_succ, i64_w, i32_w]
                                            rfl
                                          refine pure_ (i := 5) (N := some 84) (v := ?_) (a' := ?_) #[true, true, true, true, true, true, false, false, false, false, false, false, false, false, false, false, false, false, false, false, false, false, false, false, false, false, false, false, false, false, false, false, false, false, false, false, false, false, false, false, false, false, false, false, false, false, false, false, false, false, false, false, false, false, false, false, false, false, false] rfl rfl (any_of HT_.out (by kernel_rfl)) (fun _ _ _ h => h) (Or.inl ⟨by rfl, ?_⟩) ?_ ?_
                                          rotate_left
                                          · intro w'
                                            go_simp
                                            with_reducible rfl
                                          rotate_left
                                          · simp only [Act.put, List.setIfInBounds_toArray, List.set_cons_zero, List.set_cons_succ, i64_w, i32_w]
                                            rfl
                                          refine take_ (i := 6) (N := some 85) (v := ?_) (a' := ?_) #[true, true, true, true, true, true, true, false, false, false, false, false, false, false, false, false, false, false, false, false, false, false, false, false, false, false, false, false, false, false, false, false, false, false, false, false, false, false, false, false, false, false, false, false, false, false, false, false, false, false, false, false, false, false, false, false, false, false, false] rfl rfl (take_ofW HT_.out HW_.out (by kernel_rfl)) (fun _ _ _ h => h) (Or.inl ⟨by rfl, ?_⟩) hHeld ?_ ?_
                                          rotate_left
                                          · rintro w' ⟨s0, s1, s2, s3, s4, s5, s6, s7, s8, s9, s10, s11, s12, s13, s14, s15, s16, s17⟩
                                            go_simp
                                            with_reducible rfl
                                          rotate_left
                                          · simp only [Act.put, List.setIfInBounds_toArray, List.set_cons_zero, List.set_cons_succ, i64_w, i32_w]
                                            rfl
                                          refine one_ (i := 7) (N := some 86) #[true, true, true, true, true, true, true, true, false, false, false, false, false, false, false, false, false, false, false, false, false, false, false, false, false, false, false, false, false, false, false, false, false, false, false, false, false, false, false, false, false, false, false, false, false, false, false, false, false, false, false, false, false, false, false, false, false, false, false] rfl rfl (one_of HT_.out (by kernel_rfl)) (by decide) (fun K hK => ?_)
                                          refine goes_ Try.func15 (by kernel_rfl) rfl #[.agg #[.string ((rd_T35 t215 (l0.length : Int)).f0), .bool ((rd_T35 t215 (l0.length : Int)).f1), .int .i64 ((rd_T35 t215 (l0.length : Int)).f2), .int .i64 ((rd_T35 t215 (l0.length : Int)).f3), .int .i64 ((rd_T35 t215 (l0.length : Int)).f4.f0), .int .i64 ((rd_T35 t215 (l0.length : Int)).f4.f1)]] (by rfl) rfl rfl (by (try simp only [List.map_toArray, List.map_cons, List.map_nil]); first | done | rfl | (simp only [List.length_drop, List.length_take]; rfl)) ?_
                                          with_reducible refine (dict_Sane.calls kj15 ((rd_T35 t215 (l0.length : Int)).f0) ((rd_T35 t215 (l0.length : Int)).f1) ((rd_T35 t215 (l0.length : Int)).f2) ((rd_T35 t215 (l0.length : Int)).f3) ((rd_T35 t215 (l0.length : Int)).f4.f0) ((rd_T35 t215 (l0.length : Int)).f4.f1) true _ A40.out).mono ?_
                                          rintro e w58 ⟨rfl, hb⟩
                                          have HS12_ := (hb.cell (World.block_lt_of_cell? _ _ (hHeld.2.2.2.2.2.2.2.2.2.2.2.2.1))).trans (hHeld.2.2.2.2.2.2.2.2.2.2.2.2.1)
                                          have HS13_ := (hb.cell (World.block_lt_of_cell? _ _ (hHeld.2.2.2.2.2.2.2.2.2.2.2.2.2.1))).trans (hHeld.2.2.2.2.2.2.2.2.2.2.2.2.2.1)
                                          have HS14_ := (hb.cell (World.block_lt_of_cell? _ _ (hHeld.2.2.2.2.2.2.2.2.2.2.2.2.2.2.1))).trans (hHeld.2.2.2.2.2.2.2.2.2.2.2.2.2.2.1)
                                          have HS15_ := (hb.cell (World.block_lt_of_cell? _ _ (hHeld.2.2.2.2.2.2.2.2.2.2.2.2.2.2.2.1))).trans (hHeld.2.2.2.2.2.2.2.2.2.2.2.2.2.2.2.1)
                                          have HS16_ := (hb.cell (World.block_lt_of_cell? _ _ (hHeld.2.2.2.2.2.2.2.2.2.2.2.2.2.2.2.2.1))).trans (hHeld.2.2.2.2.2.2.2.2.2.2.2.2.2.2.2.2.1)
                                          have HS17_ := (hb.cell (World.block_lt_of_cell? _ _ (hHeld.2.2.2.2.2.2.2.2.2.2.2.2.2.2.2.2.2))).trans (hHeld.2.2.2.2.2.2.2.2.2.2.2.2.2.2.2.2.2)
                                          refine ⟨_, rfl, ?_⟩
                                          have n0_ := Aside0.mk (Kd.V_below (by (with_reducible repeat (first | apply Kd.V_alloc | apply Kd.V_drewN | apply Kd.V_drew)); exact HO_6.out) hb)
                                          have n1_ := Aside0.mk (Kd.V_below (by (with_reducible repeat (first | apply Kd.V_alloc | apply Kd.V_drewN | apply Kd.V_drew)); exact HO223.out) hb)
                                          have n2_ := Aside0.mk (blk_below (g := gb203) (o := .cells #[.string a1_0, .bool a1_1, .int .i64 a1_2, .int .i64 a1_3, .int .i64 a1_4, .int .i64 a1_5] 40 (0, 0)) (by (with_reducible repeat (first | refine blk_drewN ?_ _ | refine blk_drew ?_ | refine blk_alloc ?_ _)); exact BK203.out) hb)
                                          have n3_ := Aside0.mk (blk_below (g := gb220) (o := .cells #[.string ((rd_T35 t215 (l0.length : Int)).f0), .bool ((rd_T35 t215 (l0.length : Int)).f1), .int .i64 ((rd_T35 t215 (l0.length : Int)).f2), .int .i64 ((rd_T35 t215 (l0.length : Int)).f3), .int .i64 ((rd_T35 t215 (l0.length : Int)).f4.f0), .int .i64 ((rd_T35 t215 (l0.length : Int)).f4.f1)] 35 (0, 0)) (by (with_reducible repeat (first | refine blk_drewN ?_ _ | refine blk_drew ?_ | refine blk_alloc ?_ _)); exact BK220.out) hb)
                                          have n4_ := Aside0.mk (below_step (by repeat (first | (with_reducible first | exact HB.out | apply below_alloc | apply pw_below_drewN | apply below_drew1 | refine below_set ?_ GE203.out | refine below_set ?_ GE220.out) | exact HB.out)) hb)
                                          clear HO_6
                                          clear HO223
                                          clear BK203
                                          clear BK220
                                          clear HB
                                          have HO_6 := n0_
                                          have HO223 := n1_
                                          have BK203 := n2_
                                          have BK220 := n3_
                                          have HB := n4_
                                          clear n0_ n1_ n2_ n3_ n4_
                                          (try clear hb)
                                          (try clear hb2)
                                          (try clear hk)
                                          (try clear hi)
                                          obtain ⟨Ao59, co59, eo59⟩ := Kd.V_slice HO223.out
                                          (first | subst eo59 | (injection eo59 with f1_ f2_ f3_; have f4_ := f1_.symm; have f5_ := f3_.symm; clear f1_ f2_ f3_; subst f4_; subst f5_))
                                          refine hK.out _ _ ⟨(blk_cell BK220.out 0).trans rfl, (blk_cell BK220.out 1).trans rfl, (blk_cell BK220.out 2).trans rfl, (blk_cell BK220.out 3).trans rfl, (blk_cell BK220.out 4).trans rfl, (blk_cell BK220.out 5).trans rfl, (blk_cell BK203.out 0).trans rfl, (blk_cell BK203.out 1).trans rfl, (blk_cell BK203.out 2).trans rfl, (blk_cell BK203.out 3).trans rfl, (blk_cell BK203.out 4).trans rfl, (blk_cell BK203.out 5).trans rfl, HS12_, HS13_, HS14_, HS15_, HS16_, HS17_⟩ (fun hHeld => ?_)
                                          clear hK K
                                          refine norm_ (a' := ?_) ?_ ?_
                                          rotate_left
                                          · show Act.put _ (some 86) _ = _
                                            simp only [Act.put, List.setIfInBounds_toArray, List.set_cons_zero, List.set_cons_succ, i64_w, i32_w]
                                            rfl
                                          refine pure_ (i := 8) (N := some 87) (v := ?_) (a' := ?_) #[true, true, true, true, true, true, true, true, true, false, false, false, false, false, false, false, false, false, false, false, false, false, false, false, false, false, false, false, false, false, false, false, false, false, false, false, false, false, false, false, false, false, false, false, false, false, false, false, false, false, false, false, false, false, false, false, false, false, false] rfl rfl (any_of HT_.out (by kernel_rfl)) (fun _ _ _ h => h) (Or.inl ⟨by rfl, ?_⟩) ?_ ?_
                                          rotate_left
                                          · intro w'
                                            go_simp
                                            with_reducible rfl
                                          rotate_left
                                          · simp only [Act.put, List.setIfInBounds_toArray, List.set_cons_zero, List.set_cons_succ, i64_w, i32_w]
                                            rfl
                                          refine pure_ (i := 9) (N := some 88) (v := ?_) (a' := ?_) #[true, true, true, true, true, true, true, true, true, true, false, false, false, false, false, false, false, false, false, false, false, false, false, false, false, false, false, false, false, false, false, false, false, false, false, false, false, false, false, false, false, false, false, false, false, false, false, false, false, false, false, false, false, false, false, false, false, false, false] rfl rfl (any_of HT_.out (by kernel_rfl)) (fun _ _ _ h => h) (Or.inl ⟨by rfl, ?_⟩) ?_ ?_
                                          rotate_left
                                          · intro w'
                                            go_simp
                                            with_reducible rfl
                                          rotate_left
                                          · simp only [Act.put, List.setIfInBounds_toArray, List.set_cons_zero, List.set_cons_succ, i64_w, i32_w]
                                            rfl
                                          refine pure_ (i := 10) (N := some 89) (v := ?_) (a' := ?_) #[true, true, true, true, true, true, true, true, true, true, true, false, false, false, false, false, false, false, false, false, false, false, false, false, false, false, false, false, false, false, false, false, false, false, false, false, false, false, false, false, false, false, false, false, false, false, false, false, false, false, false, false, false, false, false, false, false, false, false] rfl rfl (any_of HT_.out (by kernel_rfl)) (fun _ _ _ h => h) (Or.inl ⟨by rfl, ?_⟩) ?_ ?_
                                          rotate_left
                                          · intro w'
                                            go_simp
                                            with_reducible rfl
                                          rotate_left
                                          · simp only [Act.put, List.setIfInBounds_toArray, List.set_cons_zero, List.set_cons_succ, i64_w, i32_w]
                                            rfl
                                          refine pure_ (i := 12) (N := some 91) (v := ?_) (a' := ?_) #[true, true, true, true, true, true, true, true, true, true, true, false, true, false, false, false, false, false, false, false, false, false, false, false, false, false, false, false, false, false, false, false, false, false, false, false, false, false, false, false, false, false, false, false, false, false, false, false, false, false, false, false, false, false, false, false, false, false, false] rfl rfl (any_of HT_.out (by kernel_rfl)) (fun _ _ _ h => h) (Or.inl ⟨by rfl, ?_⟩) ?_ ?_
                                          rotate_left
                                          · intro w'
                                            go_simp
                                            with_reducible rfl
                                          rotate_left
                                          · simp only [Act.put, List.setIfInBounds_toArray, List.set_cons_zero, List.set_cons_succ, i64_w, i32_w]
                                            rfl
                                          refine take_ (i := 11) (N := some 90) (v := ?_) (a' := ?_) #[true, true, true, true, true, true, true, true, true, true, true, true, true, false, false, false, false, false, false, false, false, false, false, false, false, false, false, false, false, false, false, false, false, false, false, false, false, false, false, false, false, false, false, false, false, false, false, false, false, false, false, false, false, false, false, false, false, false, false] rfl rfl (take_ofW HT_.out HW_.out (by kernel_rfl)) (fun _ _ _ h => h) (Or.inl ⟨by rfl, ?_⟩) hHeld ?_ ?_
                                          rotate_left
                                          · rintro w' ⟨s0, s1, s2, s3, s4, s5, s6, s7, s8, s9, s10, s11, s12, s13, s14, s15, s16, s17⟩
                                            go_simp
                                            with_reducible rfl
                                          rotate_left
                                          · simp only [Act.put, List.setIfInBounds_toArray, List.set_cons_zero, List.set_cons_succ, i64_w, i32_w]
                                            rfl
                                          refine take_ (i := 13) (N := some 92) (v := ?_) (a' := ?_) #[true, true, true, true, true, true, true, true, true, true, true, true, true, true, false, false, false, false, false, false, false, false, false, false, false, false, false, false, false, false, false, false, false, false, false, false, false, false, false, false, false, false, false, false, false, false, false, false, false, false, false, false, false, false, false, false, false, false, false] rfl rfl (take_ofW HT_.out HW_.out (by kernel_rfl)) (fun _ _ _ h => h) (Or.inl ⟨by rfl, ?_⟩) hHeld ?_ ?_
                                          rotate_left
                                          · rintro w' ⟨s0, s1, s2, s3, s4, s5, s6, s7, s8, s9, s10, s11, s12, s13, s14, s15, s16, s17⟩
                                            go_simp
                                            with_reducible rfl
                                          rotate_left
                                          · simp only [Act.put, List.setIfInBounds_toArray, List.set_cons_zero, List.set_cons_succ, i64_w, i32_w]
                                            rfl
                                          refine pure_ (i := 14) (N := some 93) (v := ?_) (a' := ?_) #[true, true, true, true, true, true, true, true, true, true, true, true, true, true, true, false, false, false, false, false, false, false, false, false, false, false, false, false, false, false, false, false, false, false, false, false, false, false, false, false, false, false, false, false, false, false, false, false, false, false, false, false, false, false, false, false, false, false, false] rfl rfl (any_of HT_.out (by kernel_rfl)) (fun _ _ _ h => h) (Or.inl ⟨by rfl, ?_⟩) ?_ ?_
                                          rotate_left
                                          · intro w'
                                            go_simp
                                            with_reducible rfl
                                          rotate_left
                                          · simp only [Act.put, List.setIfInBounds_toArray, List.set_cons_zero, List.set_cons_succ, i64_w, i32_w]
                                            rfl
                                          refine pure_ (i := 15) (N := some 94) (v := ?_) (a' := ?_) #[true, true, true, true, true, true, true, true, true, true, true, true, true, true, true, true, false, false, false, false, false, false, false, false, false, false, false, false, false, false, false, false, false, false, false, false, false, false, false, false, false, false, false, false, false, false, false, false, false, false, false, false, false, false, false, false, false, false, false] rfl rfl (any_of HT_.out (by kernel_rfl)) (fun _ _ _ h => h) (Or.inl ⟨by rfl, ?_⟩) ?_ ?_
                                          rotate_left
                                          · intro w'
                                            go_simp
                                            with_reducible rfl
                                          rotate_left
                                          · simp only [Act.put, List.setIfInBounds_toArray, List.set_cons_zero, List.set_cons_succ, i64_w, i32_w]
                                            rfl
                                          refine pure_ (i := 16) (N := some 95) (v := ?_) (a' := ?_) #[true, true, true, true, true, true, true, true, true, true, true, true, true, true, true, true, true, false, false, false, false, false, false, false, false, false, false, false, false, false, false, false, false, false, false, false, false, false, false, false, false, false, false, false, false, false, false, false, false, false, false, false, false, false, false, false, false, false, false] rfl rfl (any_of HT_.out (by kernel_rfl)) (fun _ _ _ h => h) (Or.inl ⟨by rfl, ?_⟩) ?_ ?_
                                          rotate_left
                                          · intro w'
                                            go_simp
                                            with_reducible rfl
                                          rotate_left
                                          · simp only [Act.put, List.setIfInBounds_toArray, List.set_cons_zero, List.set_cons_succ, i64_w, i32_w]
                                            rfl
                                          refine pure_ (i := 17) (N := some 96) (v := ?_) (a' := ?_) #[true, true, true, true, true, true, true, true, true, true, true, true, true, true, true, true, true, true, false, false, false, false, false, false, false, false, false, false, false, false, false, false, false, false, false, false, false, false, false, false, false, false, false, false, false, false, false, false, false, false, false, false, false, false, false, false, false, false, false] rfl rfl (any_of HT_.out (by kernel_rfl)) (fun _ _ _ h => h) (Or.inl ⟨by rfl, ?_⟩) ?_ ?_
                                          rotate_left
                                          · intro w'
                                            go_simp
                                            with_reducible rfl
                                          rotate_left
                                          · simp only [Act.put, List.setIfInBounds_toArray, List.set_cons_zero, List.set_cons_succ, i64_w, i32_w]
                                            rfl
                                          refine pure_ (i := 19) (N := some 98) (v := ?_) (a' := ?_) #[true, true, true, true, true, true, true, true, true, true, true, true, true, true, true, true, true, true, false, true, false, false, false, false, false, false, false, false, false, false, false, false, false, false, false, false, false, false, false, false, false, false, false, false, false, false, false, false, false, false, false, false, false, false, false, false, false, false, false] rfl rfl (any_of HT_.out (by kernel_rfl)) (fun _ _ _ h => h) (Or.inl ⟨by rfl, ?_⟩) ?_ ?_
                                          rotate_left
                                          · intro w'
                                            go_simp
                                            with_reducible rfl
                                          rotate_left
                                          · simp only [Act.put, List.setIfInBounds_toArray, List.set_cons_zero, List.set_cons_succ, i64_w, i32_w]
                                            rfl
                                          refine take_ (i := 18) (N := some 97) (v := ?_) (a' := ?_) #[true, true, true, true, true, true, true, true, true, true, true, true, true, true, true, true, true, true, true, true, false, false, false, false, false, false, false, false, false, false, false, false, false, false, false, false, false, false, false, false, false, false, false, false, false, false, false, false, false, false, false, false, false, false, false, false, false, false, false] rfl rfl (take_ofW HT_.out HW_.out (by kernel_rfl)) (fun _ _ _ h => h) (Or.inl ⟨by rfl, ?_⟩) hHeld ?_ ?_
                                          rotate_left
                                          · rintro w' ⟨s0, s1, s2, s3, s4, s5, s6, s7, s8, s9, s10, s11, s12, s13, s14, s15, s16, s17⟩
                                            go_simp
                                            with_reducible rfl
                                          rotate_left
                                          · simp only [Act.put, List.setIfInBounds_toArray, List.set_cons_zero, List.set_cons_succ, i64_w, i32_w]
                                            rfl
                                          refine take_ (i := 20) (N := some 99) (v := ?_) (a' := ?_) #[true, true, true, true, true, true, true, true, true, true, true, true, true, true, true, true, true, true, true, true, true, false, false, false, false, false, false, false, false, false, false, false, false, false, false, false, false, false, false, false, false, false, false, false, false, false, false, false, false, false, false, false, false, false, false, false, false, false, false] rfl rfl (take_ofW HT_.out HW_.out (by kernel_rfl)) (fun _ _ _ h => h) (Or.inl ⟨by rfl, ?_⟩) hHeld ?_ ?_
                                          rotate_left
                                          · rintro w' ⟨s0, s1, s2, s3, s4, s5, s6, s7, s8, s9, s10, s11, s12, s13, s14, s15, s16, s17⟩
                                            go_simp
                                            with_reducible rfl
                                          rotate_left
                                          · simp only [Act.put, List.setIfInBounds_toArray, List.set_cons_zero, List.set_cons_succ, i64_w, i32_w]
                                            rfl
                                          refine pure_ (i := 21) (N := some 100) (v := ?_) (a' := ?_) #[true, true, true, true, true, true, true, true, true, true, true, true, true, true, true, true, true, true, true, true, true, true, false, false, false, false, false, false, false, false, false, false, false, false, false, false, false, false, false, false, false, false, false, false, false, false, false, false, false, false, false, false, false, false, false, false, false, false, false] rfl rfl (any_of HT_.out (by kernel_rfl)) (fun _ _ _ h => h) (Or.inl ⟨by rfl, ?_⟩) ?_ ?_
                                          rotate_left
                                          · intro w'
                                            go_simp
                                            with_reducible rfl
                                          rotate_left
                                          · simp only [Act.put, List.setIfInBounds_toArray, List.set_cons_zero, List.set_cons_succ, i64_w, i32_w]
                                            rfl
                                          refine pure_ (i := 22) (N := some 101) (v := ?_) (a' := ?_) #[true, true, true, true, true, true, true, true, true, true, true, true, true, true, true, true, true, true, true, true, true, true, true, false, false, false, false, false, false, false, false, false, false, false, false, false, false, false, false, false, false, false, false, false, false, false, false, false, false, false, false, false, false, false, false, false, false, false, false] rfl rfl (any_of HT_.out (by kernel_rfl)) (fun _ _ _ h => h) (Or.inl ⟨by rfl, ?_⟩) ?_ ?_
                                          rotate_left
                                          · intro w'
                                            go_simp
                                            with_reducible rfl
                                          rotate_left
                                          · simp only [Act.put, List.setIfInBounds_toArray, List.set_cons_zero, List.set_cons_succ, i64_w, i32_w]
                                            rfl
                                          refine pure_ (i := 23) (N := some 102) (v := ?_) (a' := ?_) #[true, true, true, true, true, true, true, true, true, true, true, true, true, true, true, true, true, true, true, true, true, true, true, true, false, false, false, false, false, false, false, false, false, false, false, false, false, false, false, false, false, false, false, false, false, false, false, false, false, false, false, false, false, false, false, false, false, false, false] rfl rfl (any_of HT_.out (by kernel_rfl)) (fun _ _ _ h => h) (Or.inl ⟨by rfl, ?_⟩) ?_ ?_
                                          rotate_left
                                          · intro w'
                                            go_simp
                                            with_reducible rfl
                                          rotate_left
                                          · simp only [Act.put, List.setIfInBounds_toArray, List.set_cons_zero, List.set_cons_succ, i64_w, i32_w]
                                            rfl
                                          refine pure_ (i := 24) (N := some 103) (v := ?_) (a' := ?_) #[true, true, true, true, true, true, true, true, true, true, true, true, true, true, true, true, true, true, true, true, true, true, true, true, true, false, false, false, false, false, false, false, false, false, false, false, false, false, false, false, false, false, false, false, false, false, false, false, false, false, false, false, false, false, false, false, false, false, false] rfl rfl (any_of HT_.out (by kernel_rfl)) (fun _ _ _ h => h) (Or.inl ⟨by rfl, ?_⟩) ?_ ?_
                                          rotate_left
                                          · intro w'
                                            go_simp
                                            with_reducible rfl
                                          rotate_left
                                          · simp only [Act.put, List.setIfInBounds_toArray, List.set_cons_zero, List.set_cons_succ, i64_w, i32_w]
                                            rfl
                                          refine pure_ (i := 26) (N := some 105) (v := ?_) (a' := ?_) #[true, true, true, true, true, true, true, true, true, true, true, true, true, true, true, true, true, true, true, true, true, true, true, true, true, false, true, false, false, false, false, false, false, false, false, false, false, false, false, false, false, false, false, false, false, false, false, false, false, false, false, false, false, false, false, false, false, false, false] rfl rfl (any_of HT_.out (by kernel_rfl)) (fun _ _ _ h => h) (Or.inl ⟨by rfl, ?_⟩) ?_ ?_
                                          rotate_left
                                          · intro w'
                                            go_simp
                                            with_reducible rfl
                                          rotate_left
                                          · simp only [Act.put, List.setIfInBounds_toArray, List.set_cons_zero, List.set_cons_succ, i64_w, i32_w]
                                            rfl
                                          refine take_ (i := 25) (N := some 104) (v := ?_) (a' := ?_) #[true, true, true, true, true, true, true, true, true, true, true, true, true, true, true, true, true, true, true, true, true, true, true, true, true, true, true, false, false, false, false, false, false, false, false, false, false, false, false, false, false, false, false, false, false, false, false, false, false, false, false, false, false, false, false, false, false, false, false] rfl rfl (take_ofW HT_.out HW_.out (by kernel_rfl)) (fun _ _ _ h => h) (Or.inl ⟨by rfl, ?_⟩) hHeld ?_ ?_
                                          rotate_left
                                          · rintro w' ⟨s0, s1, s2, s3, s4, s5, s6, s7, s8, s9, s10, s11, s12, s13, s14, s15, s16, s17⟩
                                            go_simp
                                            with_reducible rfl
                                          rotate_left
                                          · simp only [Act.put, List.setIfInBounds_toArray, List.set_cons_zero, List.set_cons_succ, i64_w, i32_w]
                                            rfl
                                          refine take_ (i := 27) (N := some 106) (v := ?_) (a' := ?_) #[true, true, true, true, true, true, true, true, true, true, true, true, true, true, true, true, true, true, true, true, true, true, true, true, true, true, true, true, false, false, false, false, false, false, false, false, false, false, false, false, false, false, false, false, false, false, false, false, false, false, false, false, false, false, false, false, false, false, false] rfl rfl (take_ofW HT_.out HW_.out (by kernel_rfl)) (fun _ _ _ h => h) (Or.inl ⟨by rfl, ?_⟩) hHeld ?_ ?_
                                          rotate_left
                                          · rintro w' ⟨s0, s1, s2, s3, s4, s5, s6, s7, s8, s9, s10, s11, s12, s13, s14, s15, s16, s17⟩
                                            go_simp
                                            with_reducible rfl
                                          rotate_left
                                          · simp only [Act.put, List.setIfInBounds_toArray, List.set_cons_zero, List.set_cons_succ, i64_w, i32_w]
                                            rfl
                                          refine pure_ (i := 28) (N := some 107) (v := ?_) (a' := ?_) #[true, true, true, true, true, true, true, true, true, true, true, true, true, true, true, true, true, true, true, true, true, true, true, true, true, true, true, true, true, false, false, false, false, false, false, false, false, false, false, false, false, false, false, false, false, false, false, false, false, false, false, false, false, false, false, false, false, false, false] rfl rfl (any_of HT_.out (by kernel_rfl)) (fun _ _ _ h => h) (Or.inl ⟨by rfl, ?_⟩) ?_ ?_
                                          rotate_left
                                          · intro w'
                                            go_simp
                                            with_reducible rfl
                                          rotate_left
                                          · simp only [Act.put, List.setIfInBounds_toArray, List.set_cons_zero, List.set_cons_succ, i64_w, i32_w]
                                            rfl
                                          refine pure_ (i := 29) (N := some 108) (v := ?_) (a' := ?_) #[true, true, true, true, true, true, true, true, true, true, true, true, true, true, true, true, true, true, true, true, true, true, true, true, true, true, true, true, true, true, false, false, false, false, false, false, false, false, false, false, false, false, false, false, false, false, false, false, false, false, false, false, false, false, false, false, false, false, false] rfl rfl (any_of HT_.out (by kernel_rfl)) (fun _ _ _ h => h) (Or.inl ⟨by rfl, ?_⟩) ?_ ?_
                                          rotate_left
                                          · intro w'
                                            go_simp
                                            with_reducible rfl
                                          rotate_left
                                          · simp only [Act.put, List.setIfInBounds_toArray, List.set_cons_zero, List.set_cons_succ, i64_w, i32_w]
                                            rfl
                                          refine pure_ (i := 30) (N := some 109) (v := ?_) (a' := ?_) #[true, true, true, true, true, true, true, true, true, true, true, true, true, true, true, true, true, true, true, true, true, true, true, true, true, true, true, true, true, true, true, false, false, false, false, false, false, false, false, false, false, false, false, false, false, false, false, false, false, false, false, false, false, false, false, false, false, false, false] rfl rfl (any_of HT_.out (by kernel_rfl)) (fun _ _ _ h => h) (Or.inl ⟨by rfl, ?_⟩) ?_ ?_
                                          rotate_left
                                          · intro w'
                                            go_simp
                                            with_reducible rfl
                                          rotate_left
                                          · simp only [Act.put, List.setIfInBounds_toArray, List.set_cons_zero, List.set_cons_succ, i64_w, i32_w]
                                            rfl
                                          refine pure_ (i := 31) (N := some 110) (v := ?_) (a' := ?_) #[true, true, true, true, true, true, true, true, true, true, true, true, true, true, true, true, true, true, true, true, true, true, true, true, true, true, true, true, true, true, true, true, false, false, false, false, false, false, false, false, false, false, false, false, false, false, false, false, false, false, false, false, false, false, false, false, false, false, false] rfl rfl (any_of HT_.out (by kernel_rfl)) (fun _ _ _ h => h) (Or.inl ⟨by rfl, ?_⟩) ?_ ?_
                                          rotate_left
                                          · intro w'
                                            go_simp
                                            with_reducible rfl
                                          rotate_left
                                          · simp only [Act.put, List.setIfInBounds_toArray, List.set_cons_zero, List.set_cons_succ, i64_w, i32_w]
                                            rfl
                                          refine pure_ (i := 33) (N := some 112) (v := ?_) (a' := ?_) #[true, true, true, true, true, true, true, true, true, true, true, true, true, true, true, true, true, true, true, true, true, true, true, true, true, true, true, true, true, true, true, true, false, true, false, false, false, false, false, false, false, false, false, false, false, false, false, false, false, false, false, false, false, false, false, false, false, false, false] rfl rfl (any_of HT_.out (by kernel_rfl)) (fun _ _ _ h => h) (Or.inl ⟨by rfl, ?_⟩) ?_ ?_
                                          rotate_left
                                          · intro w'
                                            go_simp
                                            with_reducible rfl
                                          rotate_left
                                          · simp only [Act.put, List.setIfInBounds_toArray, List.set_cons_zero, List.set_cons_succ, i64_w, i32_w]
                                            rfl
                                          refine take_ (i := 32) (N := some 111) (v := ?_) (a' := ?_) #[true, true, true, true, true, true, true, true, true, true, true, true, true, true, true, true, true, true, true, true, true, true, true, true, true, true, true, true, true, true, true, true, true, true, false, false, false, false, false, false, false, false, false, false, false, false, false, false, false, false, false, false, false, false, false, false, false, false, false] rfl rfl (take_ofW HT_.out HW_.out (by kernel_rfl)) (fun _ _ _ h => h) (Or.inl ⟨by rfl, ?_⟩) hHeld ?_ ?_
                                          rotate_left
                                          · rintro w' ⟨s0, s1, s2, s3, s4, s5, s6, s7, s8, s9, s10, s11, s12, s13, s14, s15, s16, s17⟩
                                            go_simp
                                            with_reducible rfl
                                          rotate_left
                                          · simp only [Act.put, List.setIfInBounds_toArray, List.set_cons_zero, List.set_cons_succ, i64_w, i32_w]
                                            rfl
                                          refine take_ (i := 34) (N := some 113) (v := ?_) (a' := ?_) #[true, true, true, true, true, true, true, true, true, true, true, true, true, true, true, true, true, true, true, true, true, true, true, true, true, true, true, true, true, true, true, true, true, true, true, false, false, false, false, false, false, false, false, false, false, false, false, false, false, false, false, false, false, false, false, false, false, false, false] rfl rfl (take_ofW HT_.out HW_.out (by kernel_rfl)) (fun _ _ _ h => h) (Or.inl ⟨by rfl, ?_⟩) hHeld ?_ ?_
                                          rotate_left
                                          · rintro w' ⟨s0, s1, s2, s3, s4, s5, s6, s7, s8, s9, s10, s11, s12, s13, s14, s15, s16, s17⟩
                                            go_simp
                                            with_reducible rfl
                                          rotate_left
                                          · simp only [Act.put, List.setIfInBounds_toArray, List.set_cons_zero, List.set_cons_succ, i64_w, i32_w]
                                            rfl
                                          refine pure_ (i := 35) (N := some 114) (v := ?_) (a' := ?_) #[true, true, true, true, true, true, true, true, true, true, true, true, true, true, true, true, true, true, true, true, true, true, true, true, true, true, true, true, true, true, true, true, true, true, true, true, false, false, false, false, false, false, false, false, false, false, false, false, false, false, false, false, false, false, false, false, false, false, false] rfl rfl (any_of HT_.out (by kernel_rfl)) (fun _ _ _ h => h) (Or.inl ⟨by rfl, ?_⟩) ?_ ?_
                                          rotate_left
                                          · intro w'
                                            go_simp
                                            with_reducible rfl
                                          rotate_left
                                          · simp only [Act.put, List.setIfInBounds_toArray, List.set_cons_zero, List.set_cons_succ, i64_w, i32_w]
                                            rfl
                                          refine pure_ (i := 36) (N := some 115) (v := ?_) (a' := ?_) #[true, true, true, true, true, true, true, true, true, true, true, true, true, true, true, true, true, true, true, true, true, true, true, true, true, true, true, true, true, true, true, true, true, true, true, true, true, false, false, false, false, false, false, false, false, false, false, false, false, false, false, false, false, false, false, false, false, false, false] rfl rfl (any_of HT_.out (by kernel_rfl)) (fun _ _ _ h => h) (Or.inl ⟨by rfl, ?_⟩) ?_ ?_
                                          rotate_left
                                          · intro w'
                                            go_simp
                                            with_reducible rfl
                                          rotate_left
                                          · simp only [Act.put, List.setIfInBounds_toArray, List.set_cons_zero, List.set_cons_succ, i64_w, i32_w]
                                            rfl
                                          refine pure_ (i := 37) (N := some 116) (v := ?_) (a' := ?_) #[true, true, true, true, true, true, true, true, true, true, true, true, true, true, true, true, true, true, true, true, true, true, true, true, true, true, true, true, true, true, true, true, true, true, true, true, true, true, false, false, false, false, false, false, false, false, false, false, false, false, false, false, false, false, false, false, false, false, false] rfl rfl (any_of HT_.out (by kernel_rfl)) (fun _ _ _ h => h) (Or.inl ⟨by rfl, ?_⟩) ?_ ?_
                                          rotate_left
                                          · intro w'
                                            go_simp
                                            with_reducible rfl
                                          rotate_left
                                          · simp only [Act.put, List.setIfInBounds_toArray, List.set_cons_zero, List.set_cons_succ, i64_w, i32_w]
                                            rfl
                                          refine pure_ (i := 38) (N := some 117) (v := ?_) (a' := ?_) #[true, true, true, true, true, true, true, true, true, true, true, true, true, true, true, true, true, true, true, true, true, true, true, true, true, true, true, true, true, true, true, true, true, true, true, true, true, true, true, false, false, false, false, false, false, false, false, false, false, false, false, false, false, false, false, false, false, false, false] rfl rfl (any_of HT_.out (by kernel_rfl)) (fun _ _ _ h => h) (Or.inl ⟨by rfl, ?_⟩) ?_ ?_
                                          rotate_left
                                          · intro w'
                                            go_simp
                                            with_reducible rfl
                                          rotate_left
                                          · simp only [Act.put, List.setIfInBounds_toArray, List.set_cons_zero, List.set_cons_succ, i64_w, i32_w]
                                            rfl
                                          refine pure_ (i := 39) (N := some 118) (v := ?_) (a' := ?_) #[true, true, true, true, true, true, true, true, true, true, true, true, true, true, true, true, true, true, true, true, true, true, true, true, true, true, true, true, true, true, true, true, true, true, true, true, true, true, true, true, false, false, false, false, false, false, false, false, false, false, false, false, false, false, false, false, false, false, false] rfl rfl (any_of HT_.out (by kernel_rfl)) (fun _ _ _ h => h) (Or.inl ⟨by rfl, ?_⟩) ?_ ?_
                                          rotate_left
                                          · intro w'
                                            go_simp
                                            with_reducible rfl
                                          rotate_left
                                          · simp only [Act.put, List.setIfInBounds_toArray, List.set_cons_zero, List.set_cons_succ, i64_w, i32_w]
                                            rfl
                                          refine pure_ (i := 40) (N := some 119) (v := ?_) (a' := ?_) #[true, true, true, true, true, true, true, true, true, true, true, true, true, true, true, true, true, true, true, true, true, true, true, true, true, true, true, true, true, true, true, true, true, true, true, true, true, true, true, true, true, false, false, false, false, false, false, false, false, false, false, false, false, false, false, false, false, false, false] rfl rfl (any_of HT_.out (by kernel_rfl)) (fun _ _ _ h => h) (Or.inl ⟨by rfl, ?_⟩) ?_ ?_
                                          rotate_left
                                          · intro w'
                                            go_simp
                                            with_reducible rfl
                                          rotate_left
                                          · simp only [Act.put, List.setIfInBounds_toArray, List.set_cons_zero, List.set_cons_succ, i64_w, i32_w]
                                            rfl
                                          refine pure_ (i := 41) (N := some 120) (v := ?_) (a' := ?_) #[true, true, true, true, true, true, true, true, true, true, true, true, true, true, true, true, true, true, true, true, true, true, true, true, true, true, true, true, true, true, true, true, true, true, true, true, true, true, true, true, true, true, false, false, false, false, false, false, false, false, false, false, false, false, false, false, false, false, false] rfl rfl (any_of HT_.out (by kernel_rfl)) (fun _ _ _ h => h) (Or.inl ⟨by rfl, ?_⟩) ?_ ?_
                                          rotate_left
                                          · intro w'
                                            go_simp
                                            with_reducible rfl
                                          rotate_left
                                          · simp only [Act.put, List.setIfInBounds_toArray, List.set_cons_zero, List.set_cons_succ, i64_w, i32_w]
                                            rfl
                                          refine pure_ (i := 42) (N := some 121) (v := ?_) (a' := ?_) #[true, true, true, true, true, true, true, true, true, true, true, true, true, true, true, true, true, true, true, true, true, true, true, true, true, true, true, true, true, true, true, true, true, true, true, true, true, true, true, true, true, true, true, false, false, false, false, false, false, false, false, false, false, false, false, false, false, false, false] rfl rfl (any_of HT_.out (by kernel_rfl)) (fun _ _ _ h => h) (Or.inl ⟨by rfl, ?_⟩) ?_ ?_
                                          rotate_left
                                          · intro w'
                                            go_simp
                                            with_reducible rfl
                                          rotate_left
                                          · simp only [Act.put, List.setIfInBounds_toArray, List.set_cons_zero, List.set_cons_succ, i64_w, i32_w]
                                            rfl
                                          refine pure_ (i := 43) (N := some 122) (v := ?_) (a' := ?_) #[true, true, true, true, true, true, true, true, true, true, true, true, true, true, true, true, true, true, true, true, true, true, true, true, true, true, true, true, true, true, true, true, true, true, true, true, true, true, true, true, true, true, true, true, false, false, false, false, false, false, false, false, false, false, false, false, false, false, false] rfl rfl (any_of HT_.out (by kernel_rfl)) (fun _ _ _ h => h) (Or.inl ⟨by rfl, ?_⟩) ?_ ?_
                                          rotate_left
                                          · intro w'
                                            go_simp
                                            with_reducible rfl
                                          rotate_left
                                          · simp only [Act.put, List.setIfInBounds_toArray, List.set_cons_zero, List.set_cons_succ, i64_w, i32_w]
                                            rfl
                                          refine pure_ (i := 44) (N := some 123) (v := ?_) (a' := ?_) #[true, true, true, true, true, true, true, true, true, true, true, true, true, true, true, true, true, true, true, true, true, true, true, true, true, true, true, true, true, true, true, true, true, true, true, true, true, true, true, true, true, true, true, true, true, false, false, false, false, false, false, false, false, false, false, false, false, false, false] rfl rfl (any_of HT_.out (by kernel_rfl)) (fun _ _ _ h => h) (Or.inl ⟨by rfl, ?_⟩) ?_ ?_
                                          rotate_left
                                          · intro w'
                                            go_simp
                                            with_reducible rfl
                                          rotate_left
                                          · simp only [Act.put, List.setIfInBounds_toArray, List.set_cons_zero, List.set_cons_succ, i64_w, i32_w]
                                            rfl
                                          refine pure_ (i := 45) (N := some 124) (v := ?_) (a' := ?_) #[true, true, true, true, true, true, true, true, true, true, true, true, true, true, true, true, true, true, true, true, true, true, true, true, true, true, true, true, true, true, true, true, true, true, true, true, true, true, true, true, true, true, true, true, true, true, false, false, false, false, false, false, false, false, false, false, false, false, false] rfl rfl (any_of HT_.out (by kernel_rfl)) (fun _ _ _ h => h) (Or.inl ⟨by rfl, ?_⟩) ?_ ?_
                                          rotate_left
                                          · intro w'
                                            go_simp
                                            with_reducible rfl
                                          rotate_left
                                          · simp only [Act.put, List.setIfInBounds_toArray, List.set_cons_zero, List.set_cons_succ, i64_w, i32_w]
                                            rfl
                                          refine pure_ (i := 46) (N := some 125) (v := ?_) (a' := ?_) #[true, true, true, true, true, true, true, true, true, true, true, true, true, true, true, true, true, true, true, true, true, true, true, true, true, true, true, true, true, true, true, true, true, true, true, true, true, true, true, true, true, true, true, true, true, true, true, false, false, false, false, false, false, false, false, false, false, false, false] rfl rfl (any_of HT_.out (by kernel_rfl)) (fun _ _ _ h => h) (Or.inl ⟨by rfl, ?_⟩) ?_ ?_
                                          rotate_left
                                          · intro w'
                                            go_simp
                                            with_reducible rfl
                                          rotate_left
                                          · simp only [Act.put, List.setIfInBounds_toArray, List.set_cons_zero, List.set_cons_succ, i64_w, i32_w]
                                            rfl
                                          refine pure_ (i := 47) (N := some 126) (v := ?_) (a' := ?_) #[true, true, true, true, true, true, true, true, true, true, true, true, true, true, true, true, true, true, true, true, true, true, true, true, true, true, true, true, true, true, true, true, true, true, true, true, true, true, true, true, true, true, true, true, true, true, true, true, false, false, false, false, false, false, false, false, false, false, false] rfl rfl (any_of HT_.out (by kernel_rfl)) (fun _ _ _ h => h) (Or.inl ⟨by rfl, ?_⟩) ?_ ?_
                                          rotate_left
                                          · intro w'
                                            go_simp
                                            with_reducible rfl
                                          rotate_left
                                          · simp only [Act.put, List.setIfInBounds_toArray, List.set_cons_zero, List.set_cons_succ, i64_w, i32_w]
                                            rfl
                                          refine pure_ (i := 48) (N := some 127) (v := ?_) (a' := ?_) #[true, true, true, true, true, true, true, true, true, true, true, true, true, true, true, true, true, true, true, true, true, true, true, true, true, true, true, true, true, true, true, true, true, true, true, true, true, true, true, true, true, true, true, true, true, true, true, true, true, false, false, false, false, false, false, false, false, false, false] rfl rfl (any_of HT_.out (by kernel_rfl)) (fun _ _ _ h => h) (Or.inl ⟨by rfl, ?_⟩) ?_ ?_
                                          rotate_left
                                          · intro w'
                                            go_simp
                                            with_reducible rfl
                                          rotate_left
                                          · simp only [Act.put, List.setIfInBounds_toArray, List.set_cons_zero, List.set_cons_succ, i64_w, i32_w]
                                            rfl
                                          refine pure_ (i := 49) (N := some 128) (v := ?_) (a' := ?_) #[true, true, true, true, true, true, true, true, true, true, true, true, true, true, true, true, true, true, true, true, true, true, true, true, true, true, true, true, true, true, true, true, true, true, true, true, true, true, true, true, true, true, true, true, true, true, true, true, true, true, false, false, false, false, false, false, false, false, false] rfl rfl (any_of HT_.out (by kernel_rfl)) (fun _ _ _ h => h) (Or.inl ⟨by rfl, ?_⟩) ?_ ?_
                                          rotate_left
                                          · intro w'
                                            go_simp
                                            with_reducible rfl
                                          rotate_left
                                          · simp only [Act.put, List.setIfInBounds_toArray, List.set_cons_zero, List.set_cons_succ, i64_w, i32_w]
                                            rfl
                                          refine pure_ (i := 50) (N := some 129) (v := ?_) (a' := ?_) #[true, true, true, true, true, true, true, true, true, true, true, true, true, true, true, true, true, true, true, true, true, true, true, true, true, true, true, true, true, true, true, true, true, true, true, true, true, true, true, true, true, true, true, true, true, true, true, true, true, true, true, false, false, false, false, false, false, false, false] rfl rfl (any_of HT_.out (by kernel_rfl)) (fun _ _ _ h => h) (Or.inl ⟨by rfl, ?_⟩) ?_ ?_
                                          rotate_left
                                          · intro w'
                                            go_simp
                                            with_reducible rfl
                                          rotate_left
                                          · simp only [Act.put, List.setIfInBounds_toArray, List.set_cons_zero, List.set_cons_succ, i64_w, i32_w]
                                            rfl
                                          refine pure_ (i := 51) (N := some 130) (v := ?_) (a' := ?_) #[true, true, true, true, true, true, true, true, true, true, true, true, true, true, true, true, true, true, true, true, true, true, true, true, true, true, true, true, true, true, true, true, true, true, true, true, true, true, true, true, true, true, true, true, true, true, true, true, true, true, true, true, false, false, false, false, false, false, false] rfl rfl (any_of HT_.out (by kernel_rfl)) (fun _ _ _ h => h) (Or.inl ⟨by rfl, ?_⟩) ?_ ?_
                                          rotate_left
                                          · intro w'
                                            go_simp
                                            with_reducible rfl
                                          rotate_left
                                          · simp only [Act.put, List.setIfInBounds_toArray, List.set_cons_zero, List.set_cons_succ, i64_w, i32_w]
                                            rfl
                                          refine pure_ (i := 52) (N := some 131) (v := ?_) (a' := ?_) #[true, true, true, true, true, true, true, true, true, true, true, true, true, true, true, true, true, true, true, true, true, true, true, true, true, true, true, true, true, true, true, true, true, true, true, true, true, true, true, true, true, true, true, true, true, true, true, true, true, true, true, true, true, false, false, false, false, false, false] rfl rfl (any_of HT_.out (by kernel_rfl)) (fun _ _ _ h => h) (Or.inl ⟨by rfl, ?_⟩) ?_ ?_
                                          rotate_left
                                          · intro w'
                                            go_simp
                                            with_reducible rfl
                                          rotate_left
                                          · simp only [Act.put, List.setIfInBounds_toArray, List.set_cons_zero, List.set_cons_succ, i64_w, i32_w]
                                            rfl
                                          refine pure_ (i := 53) (N := some 132) (v := ?_) (a' := ?_) #[true, true, true, true, true, true, true, true, true, true, true, true, true, true, true, true, true, true, true, true, true, true, true, true, true, true, true, true, true, true, true, true, true, true, true, true, true, true, true, true, true, true, true, true, true, true, true, true, true, true, true, true, true, true, false, false, false, false, false] rfl rfl (any_of HT_.out (by kernel_rfl)) (fun _ _ _ h => h) (Or.inl ⟨by rfl, ?_⟩) ?_ ?_
                                          rotate_left
                                          · intro w'
                                            go_simp
                                            with_reducible rfl
                                          rotate_left
                                          · simp only [Act.put, List.setIfInBounds_toArray, List.set_cons_zero, List.set_cons_succ, i64_w, i32_w]
                                            rfl
                                          refine take_ (i := 54) (N := some 133) (v := ?_) (a' := ?_) #[true, true, true, true, true, true, true, true, true, true, true, true, true, true, true, true, true, true, true, true, true, true, true, true, true, true, true, true, true, true, true, true, true, true, true, true, true, true, true, true, true, true, true, true, true, true, true, true, true, true, true, true, true, true, true, false, false, false, false] rfl rfl (take_ofW HT_.out HW_.out (by kernel_rfl)) (fun _ _ _ h => h) (Or.inl ⟨by rfl, ?_⟩) hHeld ?_ ?_
                                          rotate_left
                                          · rintro w' ⟨s0, s1, s2, s3, s4, s5, s6, s7, s8, s9, s10, s11, s12, s13, s14, s15, s16, s17⟩
                                            go_simp
                                            with_reducible rfl
                                          rotate_left
                                          · simp only [Act.put, List.setIfInBounds_toArray, List.set_cons_zero, List.set_cons_succ, i64_w, i32_w]
                                            rfl
                                          refine take_ (i := 55) (N := some 134) (v := ?_) (a' := ?_) #[true, true, true, true, true, true, true, true, true, true, true, true, true, true, true, true, true, true, true, true, true, true, true, true, true, true, true, true, true, true, true, true, true, true, true, true, true, true, true, true, true, true, true, true, true, true, true, true, true, true, true, true, true, true, true, true, false, false, false] rfl rfl (take_ofW HT_.out HW_.out (by kernel_rfl)) (fun _ _ _ h => h) (Or.inl ⟨by rfl, ?_⟩) hHeld ?_ ?_
                                          rotate_left
                                          · rintro w' ⟨s0, s1, s2, s3, s4, s5, s6, s7, s8, s9, s10, s11, s12, s13, s14, s15, s16, s17⟩
                                            go_simp
                                            with_reducible rfl
                                          rotate_left
                                          · simp only [Act.put, List.setIfInBounds_toArray, List.set_cons_zero, List.set_cons_succ, i64_w, i32_w]
                                            rfl
                                          refine pure_ (i := 56) (N := some 135) (v := ?_) (a' := ?_) #[true, true, true, true, true, true, true, true, true, true, true, true, true, true, true, true, true, true, true, true, true, true, true, true, true, true, true, true, true, true, true, true, true, true, true, true, true, true, true, true, true, true, true, true, true, true, true, true, true, true, true, true, true, true, true, true, true, false, false] rfl rfl (any_of HT_.out (by kernel_rfl)) (fun _ _ _ h => h) (Or.inl ⟨by rfl, ?_⟩) ?_ ?_
                                          rotate_left
                                          · intro w'
                                            go_simp
                                            with_reducible rfl
                                          rotate_left
                                          · simp only [Act.put, List.setIfInBounds_toArray, List.set_cons_zero, List.set_cons_succ, i64_w, i32_w]
                                            rfl
                                          refine pure_ (i := 57) (N := some 136) (v := ?_) (a' := ?_) #[true, true, true, true, true, true, true, true, true, true, true, true, true, true, true, true, true, true, true, true, true, true, true, true, true, true, true, true, true, true, true, true, true, true, true, true, true, true, true, true, true, true, true, true, true, true, true, true, true, true, true, true, true, true, true, true, true, true, false] rfl rfl (any_of HT_.out (by kernel_rfl)) (fun _ _ _ h => h) (Or.inl ⟨by rfl, ?_⟩) ?_ ?_
                                          rotate_left
                                          · intro w'
                                            go_simp
                                            with_reducible rfl
                                          rotate_left
                                          · simp only [Act.put, List.setIfInBounds_toArray, List.set_cons_zero, List.set_cons_succ, i64_w, i32_w]
                                            rfl
                                          refine pure_ (i := 58) (N := some 4) (v := ?_) (a' := ?_) #[true, true, true, true, true, true, true, true, true, true, true, true, true, true, true, true, true, true, true, true, true, true, true, true, true, true, true, true, true, true, true, true, true, true, true, true, true, true, true, true, true, true, true, true, true, true, true, true, true, true, true, true, true, true, true, true, true, true, true] rfl rfl (any_of HT_.out (by kernel_rfl)) (fun _ _ _ h => h) (Or.inl ⟨by rfl, ?_⟩) ?_ ?_
                                          rotate_left
                                          · intro w'
                                            go_simp
                                            with_reducible rfl
                                          rotate_left
                                          · simp only [Act.put, List.setIfInBounds_toArray, List.set_cons_zero, List.set_cons_succ, i64_w, i32_w]
                                            rfl
                                          refine done_ (done_of HT_.out (by kernel_rfl)) ?_
                                          try go_wp2
                                          go_ret
                                          exact ⟨by first | rfl | (simp [errW_none, errW_some] <;> rfl) | (simp [*, errW_none, errW_some] <;> rfl), by repeat (first | (with_reducible first | exact HB.out | apply below_alloc | apply pw_below_drewN | apply below_drew1 | refine below_set ?_ GE203.out | refine below_set ?_ GE220.out) | exact HB.out)⟩
                                        · rw [if_neg c49] at H
                                          exact absurd H (by simp)
                                      · rw [if_neg c48] at H
                                        exact absurd H (by simp)
                                    · rw [if_neg c47] at H
                                      exact absurd ((Option.some.inj H).trans HR_.out) (by decide)
                                  · rw [if_neg c46] at H
                                    exact absurd ((Option.some.inj H).trans HR_.out) (by decide)
                                · rw [if_neg c45] at H
                                  exact absurd ((Option.some.inj H).trans HR_.out) (by decide)
                              · rw [if_neg c44] at H
                                exact absurd ((Option.some.inj H).trans HR_.out) (by decide)
                            · rw [if_neg c43] at H
                              exact absurd ((Option.some.inj H).trans HR_.out) (by decide)
                          · rw [if_neg c42] at H
                            exact absurd ((Option.some.inj H).trans HR_.out) (by decide)
                        · replace c41 := Bool.eq_false_iff.mpr c41
                          subst c41
                          have H1 : (some false) = some r := by rw [if_neg (show ¬ (false = true) by decide)] at H; exact H
                          exact absurd ((Option.some.inj H1).trans HR_.out) (by decide)
                    · replace c30 := Bool.eq_false_iff.mpr c30
                      subst c30
                      have H1 : (some false) = some r := by rw [if_neg (show ¬ (false = true) by decide)] at H; exact H
                      exact absurd ((Option.some.inj H1).trans HR_.out) (by decide)
                  · rw [if_neg c28] at H
                    exact absurd H (by simp)
                · rw [if_neg c27] at H
                  exact absurd H (by simp)
              · rw [if_neg c26] at H
                exact absurd ((Option.some.inj H).trans HR_.out) (by decide)
            · rw [if_neg c25] at H
              have c25b0 : (t218 == 0) = false := beq_eq_false_iff_ne.mpr c25
              have c25b1 : (t218 != 0) = true := bne_iff_ne.mpr c25
              by_cases c133 : t204 = true
              · subst c133
                have H1 : (if ((t218 == (-16)) == x8_15) = true then (some ((t215.length : Int) == (l0.length : Int))) else (some false)) = some r := by rw [if_pos rfl] at H; exact H
                clear H
                have H := H1
                clear H1
                by_cases c134 : ((t218 == (-16)) == x8_15) = true
                · rw [if_pos c134] at H
                  have c134b0 : ((t218 == (-16)) == x8_15) = true := c134
                  (try (have c134b1 : decide ((t218 == (-16)) = x8_15) = true := by simpa using c134))
                  (try (have c134b2 : ((t218 == (-16)) == x8_15) = true := by simpa using c134))
                  clear c134
                  obtain rfl := Option.some.inj H
                  obtain ⟨Ao135, co135, eo135⟩ := Kd.V_slice HO_6.out
                  subst eo135
                  go_wp2
                  go_ret
                  exact ⟨by first | rfl | (simp [errW_none, errW_some] <;> rfl) | (simp [*, errW_none, errW_some] <;> rfl), by repeat (first | (with_reducible first | exact HB.out | apply below_alloc | apply pw_below_drewN | apply below_drew1 | refine below_set ?_ GE203.out) | exact HB.out)⟩
                · rw [if_neg c134] at H
                  exact absurd ((Option.some.inj H).trans HR_.out) (by decide)
              · replace c133 := Bool.eq_false_iff.mpr c133
                subst c133
                have H1 : (some false) = some r := by rw [if_neg (show ¬ (false = true) by decide)] at H; exact H
                exact absurd ((Option.some.inj H1).trans HR_.out) (by decide)

end Go.Proofs.Ytbgihgkobojfaaa.PDictNames
