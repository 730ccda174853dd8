/- Evf16D1: a part of the proof. -/
import Derived.Test.YtoihpjpgihhcjaaEvf16C2
import Derived.IntWalk
open Go Go.Proofs.YtoihpjpgihhcjaaEv Go.Proofs.YtoihpjpgihhcjaaR Go.IntWalk Go.Proofs
set_option maxRecDepth 20000
set_option maxHeartbeats 8000000
set_option linter.unusedVariables false
set_option linter.unusedSimpArgs false
namespace Go.Proofs.YtoihpjpgihhcjaaR
theorem bin_lss (x y : Nat) : binV .lss (.flt .f64 x) (.flt .f64 y) = some (.bool (Ieee.double.order x y == some .lt)) := rfl
theorem bin_gtr (x y : Nat) : binV .gtr (.flt .f64 x) (.flt .f64 y) = some (.bool (Ieee.double.order x y == some .gt)) := rfl
theorem bin_neq (x y : Nat) : binV .neq (.flt .f64 x) (.flt .f64 y) = some (.bool (!(Ieee.double.order x y == some .eq))) := rfl
theorem cmp_lt {a b : Int} (h : a < b) : compare a b = .lt := by show compareOfLessAndEq a b = _; unfold compareOfLessAndEq; rw [if_pos h]
theorem cmp_eq {a b : Int} (h : a = b) : compare a b = .eq := by show compareOfLessAndEq a b = _; unfold compareOfLessAndEq; rw [if_neg (by omega), if_pos h]
theorem cmp_gt {a b : Int} (h : b < a) : compare a b = .gt := by show compareOfLessAndEq a b = _; unfold compareOfLessAndEq; rw [if_neg (by omega), if_neg (by omega)]
theorem k_lssF {cf : CF} {new : Nat} {T : List PV} {H : Heap} {u v : X} {x y : Nat} {a b : Int} (hx : FV x a) (hy : FV y b) (hu : valT T u = .flt .f64 x) (hv : valT T v = .flt .f64 y) : EK cf (.bin .lss u v) new T H (.bool (decide (a < b))) [] := ⟨by
  simp only [evalK, hu, hv, bin_lss, fv_order hx hy]
  rcases Int.lt_trichotomy a b with h | h | h
  · rw [cmp_lt h, decide_eq_true h]; rfl
  · rw [cmp_eq h, decide_eq_false (by omega)]; rfl
  · rw [cmp_gt h, decide_eq_false (by omega)]; rfl⟩
theorem k_gtrF {cf : CF} {new : Nat} {T : List PV} {H : Heap} {u v : X} {x y : Nat} {a b : Int} (hx : FV x a) (hy : FV y b) (hu : valT T u = .flt .f64 x) (hv : valT T v = .flt .f64 y) : EK cf (.bin .gtr u v) new T H (.bool (decide (b < a))) [] := ⟨by
  simp only [evalK, hu, hv, bin_gtr, fv_order hx hy]
  rcases Int.lt_trichotomy a b with h | h | h
  · rw [cmp_lt h, decide_eq_false (by omega)]; rfl
  · rw [cmp_eq h, decide_eq_false (by omega)]; rfl
  · rw [cmp_gt h, decide_eq_true h]; rfl⟩
theorem k_neqF {cf : CF} {new : Nat} {T : List PV} {H : Heap} {u v : X} {x : Nat} {a : Int} (hx : FV x a) (hu : valT T u = .flt .f64 x) (hv : valT T v = .flt .f64 x) : EK cf (.bin .neq u v) new T H (.bool false) [] := ⟨by
  simp only [evalK, hu, hv, bin_neq, fv_order hx hx, cmp_eq (rfl : a = a)]
  rfl⟩
def withinB (n m : Int) : Bool := decide (0 ≤ n) && decide (n ≤ m)
theorem within_iff {n m : Int} : withinB n m = true ↔ 0 ≤ n ∧ n ≤ m := by unfold withinB; simp
abbrev It := Int × Int × Int
def encX (x : It) : List PV := [.int .i64 x.1, .int .i64 x.2.1, .int .i64 x.2.2]
def slX (l : List It) : PV := .sl l.length false (flat encX l)
def cmpI (a b : Int) : Int := if a < b then -1 else if b < a then 1 else 0
/-- which of two stands ahead -/
def ordI (a b : It) : Int := if cmpI (-a.2.1) (-b.2.1) ≠ 0 then cmpI (-a.2.1) (-b.2.1) else cmpI a.2.2 b.2.2
def mayB (nx : Int) (x : It) : Bool := withinB x.1 7 && (withinB x.2.1 4 && withinB x.2.2 (nx - 1))
/-- small enough for floats -/
structure Sml (x : It) : Prop where
  p0 : 0 ≤ x.2.1
  p1 : x.2.1 ≤ 4
  t0 : 0 ≤ x.2.2
  t1 : x.2.2 ≤ 1099511627776
def fRe (x : It) : Nat := Op.negFloat .f64 (FloatKind.f64.nearest x.2.1)
def fIm (x : It) : Nat := FloatKind.f64.nearest x.2.2
theorem Sml.re {x : It} (h : Sml x) : FV (fRe x) (-x.2.1) := by
  obtain ⟨k, hk⟩ : ∃ k : Nat, x.2.1 = k := ⟨x.2.1.toNat, by have := h.p0; omega⟩
  unfold fRe
  rw [hk]
  exact fv_neg (by have := h.p1; omega)
theorem Sml.im {x : It} (h : Sml x) : FV (fIm x) x.2.2 := fv_nearest (by have := h.t0; have := h.t1; omega)
section
variable {cf : CF} (hcf : cf = ev env)
include hcf
theorem s25 (n m : Int) : Sp cf 25 [.int .i64 n, .int .i64 m] (.bool (withinB n m)) := by
  refine sp_of hcf env25 ?_
  unfold withinB
  conv => arg 2; simp only [ir25]
  conv => arg 3; simp only [ir25, Go.Proofs.YtoihpjpgihhcjaaEv.start, List.length, Nat.reduceAdd, Nat.reduceSub, List.reduceReplicate, List.append_eq, List.cons_append, List.nil_append]
  conv => arg 4; simp only [heapOf]
  try conv => arg 5; simp only [List.length, Nat.reduceAdd]
  try conv => arg 6; simp only [List.length, Nat.reduceAdd]
  by_cases h : 0 ≤ n
  · have h' : n ≥ 0 := h
    rw [decide_eq_true h, Bool.true_and]
    refine EVgo9 (h') trivial trivial trivial trivial trivial trivial trivial trivial trivial trivial trivial ?_
    exact EVret trivial
  · have h' : ¬ n ≥ 0 := h
    rw [decide_eq_false h, Bool.false_and]
    refine EVgo9 (h') trivial trivial trivial trivial trivial trivial trivial trivial trivial trivial trivial ?_
    exact EVret trivial
theorem s26 (x : It) (nx : Int) (h0 : -1000 ≤ nx) (h1 : nx ≤ 9000000000000000000) : Sp cf 26 [.agg (encX x), .int .i64 nx] (.bool (mayB nx x)) := by
  obtain ⟨a, b, c⟩ := x
  have e1 := s25 hcf a 7
  have e2 := s25 hcf b 4
  have e3 := s25 hcf c (nx - 1)
  have w0 : IntKind.i64.wrap (nx - 1) = nx - 1 := i64_in _ (by omega)
  refine sp_of hcf env26 ?_
  unfold mayB
  simp only [encX]
  cases c1 : withinB a 7 with
  | false =>
    rw [c1] at e1
    conv => arg 2; simp only [ir26]
    conv => arg 3; simp only [ir26, Go.Proofs.YtoihpjpgihhcjaaEv.start, List.length, Nat.reduceAdd, Nat.reduceSub, List.reduceReplicate, List.append_eq, List.cons_append, List.nil_append]
    conv => arg 4; simp only [heapOf]
    try conv => arg 5; simp only [List.length, Nat.reduceAdd]
    try conv => arg 6; simp only [List.length, Nat.reduceAdd]
    refine EVgo9 trivial (e1) trivial trivial trivial trivial trivial trivial trivial trivial trivial trivial ?_
    exact EVret trivial
  | true =>
    rw [c1] at e1
    cases c2 : withinB b 4 with
    | false =>
      rw [c2] at e2
      conv => arg 2; simp only [ir26]
      conv => arg 3; simp only [ir26, Go.Proofs.YtoihpjpgihhcjaaEv.start, List.length, Nat.reduceAdd, Nat.reduceSub, List.reduceReplicate, List.append_eq, List.cons_append, List.nil_append]
      conv => arg 4; simp only [heapOf]
      try conv => arg 5; simp only [List.length, Nat.reduceAdd]
      try conv => arg 6; simp only [List.length, Nat.reduceAdd]
      refine EVgo9 trivial (e1) (e2) trivial trivial trivial trivial trivial trivial trivial trivial trivial ?_
      exact EVret trivial
    | true =>
      rw [c2] at e2
      conv => arg 2; simp only [ir26]
      conv => arg 3; simp only [ir26, Go.Proofs.YtoihpjpgihhcjaaEv.start, List.length, Nat.reduceAdd, Nat.reduceSub, List.reduceReplicate, List.append_eq, List.cons_append, List.nil_append]
      conv => arg 4; simp only [heapOf]
      try conv => arg 5; simp only [List.length, Nat.reduceAdd]
      try conv => arg 6; simp only [List.length, Nat.reduceAdd]
      refine EVgo9 (w0) (e1) (e2) (e3) trivial trivial trivial trivial trivial trivial trivial trivial ?_
      exact EVret trivial
theorem s45 {x : Nat} {a : Int} (hx : FV x a) : cf 45 [.flt .f64 x] [] = some (.bool false, []) := by
  refine ev_ofC' hcf env45 ?_
  conv => arg 2; simp only [ir45]
  conv => arg 3; simp only [ir45, Go.Proofs.YtoihpjpgihhcjaaEv.start, List.length, Nat.reduceAdd, Nat.reduceSub, List.reduceReplicate, List.append_eq, List.cons_append, List.nil_append]
  conv => arg 4; simp only [heapOf]
  try conv => arg 5; simp only [List.length, Nat.reduceAdd]
  try conv => arg 6; simp only [List.length, Nat.reduceAdd]
  refine EVgo9 trivial trivial trivial trivial trivial trivial trivial trivial trivial trivial (k_neqF hx) trivial ?_
  exact WQ.ret rfl
theorem s39 {x y : Nat} {a b : Int} (hx : FV x a) (hy : FV y b) : cf 39 [.flt .f64 x, .flt .f64 y] [] = some (.int .i64 (cmpI a b), []) := by
  have h1 := s45 hcf hx
  have h2 := s45 hcf hy
  refine ev_ofC' hcf env39 ?_
  unfold cmpI
  conv => arg 2; simp only [ir39]
  conv => arg 3; simp only [ir39, Go.Proofs.YtoihpjpgihhcjaaEv.start, List.length, Nat.reduceAdd, Nat.reduceSub, List.reduceReplicate, List.append_eq, List.cons_append, List.nil_append]
  conv => arg 4; simp only [heapOf]
  try conv => arg 5; simp only [List.length, Nat.reduceAdd]
  try conv => arg 6; simp only [List.length, Nat.reduceAdd]
  by_cases h : a < b
  · rw [if_pos h]
    refine EVgo9 (h) (h1) (h2) trivial trivial trivial trivial trivial trivial trivial (k_lssF hx hy) trivial ?_
    exact WQ.ret rfl
  · rw [if_neg h]
    by_cases g : b < a
    · rw [if_pos g]
      refine EVgo9 (And.intro (h) (g)) (h1) (h2) trivial trivial trivial trivial trivial trivial trivial (k_lssF hx hy) (k_gtrF hx hy) ?_
      exact WQ.ret rfl
    · rw [if_neg g]
      refine EVgo9 (And.intro (h) (g)) (h1) (h2) trivial trivial trivial trivial trivial trivial trivial (k_lssF hx hy) (k_gtrF hx hy) ?_
      exact WQ.ret rfl
theorem s37 (x : It) : Sp cf 37 [.agg (encX x)] (.cpx .f64 (fRe x) (fIm x)) := by
  obtain ⟨a, b, c⟩ := x
  refine sp_of hcf env37 ?_
  simp only [encX, fRe, fIm]
  conv => arg 2; simp only [ir37]
  conv => arg 3; simp only [ir37, Go.Proofs.YtoihpjpgihhcjaaEv.start, List.length, Nat.reduceAdd, Nat.reduceSub, List.reduceReplicate, List.append_eq, List.cons_append, List.nil_append]
  conv => arg 4; simp only [heapOf]
  try conv => arg 5; simp only [List.length, Nat.reduceAdd]
  try conv => arg 6; simp only [List.length, Nat.reduceAdd]
  refine EVgo9 trivial trivial trivial trivial trivial trivial trivial trivial trivial trivial trivial trivial ?_
  exact EVret trivial
theorem s38 (a b : Int) : cf 38 [.sl 2 false [.int .i64 a, .int .i64 b]] [] = some (.int .i64 (if a ≠ 0 then a else b), []) := by
  refine ev_ofC' hcf env38 ?_
  have w1 : IntKind.i64.wrap ((0 : Int) + 1) = 1 := rfl
  have w2 : IntKind.i64.wrap ((1 : Int) + 1) = 2 := rfl
  conv => arg 2; simp only [ir38]
  conv => arg 3; simp only [ir38, Go.Proofs.YtoihpjpgihhcjaaEv.start, List.length, Nat.reduceAdd, Nat.reduceSub, List.reduceReplicate, List.append_eq, List.cons_append, List.nil_append]
  conv => arg 4; simp only [heapOf]
  try conv => arg 5; simp only [List.length, Nat.reduceAdd]
  try conv => arg 6; simp only [List.length, Nat.reduceAdd]
  refine EVgo9 trivial trivial trivial trivial trivial trivial trivial trivial trivial trivial trivial trivial ?_
  refine WC.loop (T' := _) (H' := _) (n' := _) rfl (?_ : WC cf _ (mkT 18 [(3, .int .i64 0), (6, .sl 2 false [.int .i64 a, .int .i64 b]), (7, .int .i64 2), (8, .int .i64 0)]) [] 0 0 _)
  by_cases h : a = 0
  · subst h
    have q : ((0 : Int) != 0) = false := rfl
    rw [if_neg (by simp)]
    conv => arg 3; simp only [mkT, putT, List.reduceReplicate, List.set]
    refine EVgo9 (And.intro (q) (w1)) trivial trivial trivial trivial trivial trivial trivial trivial trivial trivial trivial ?_
    refine WC.loop (T' := _) (H' := _) (n' := _) rfl (?_ : WC cf _ (mkT 18 [(3, .int .i64 0), (6, .sl 2 false [.int .i64 0, .int .i64 b]), (7, .int .i64 2), (8, .int .i64 1)]) [] 0 0 _)
    by_cases g : b = 0
    · subst g
      conv => arg 3; simp only [mkT, putT, List.reduceReplicate, List.set]
      refine EVgo9 (And.intro (q) (w2)) trivial trivial trivial trivial trivial trivial trivial trivial trivial trivial trivial ?_
      refine WC.loop (T' := _) (H' := _) (n' := _) rfl (?_ : WC cf _ (mkT 18 [(3, .int .i64 0), (6, .sl 2 false [.int .i64 0, .int .i64 0]), (7, .int .i64 2), (8, .int .i64 2)]) [] 0 0 _)
      conv => arg 3; simp only [mkT, putT, List.reduceReplicate, List.set]
      refine EVgo9 trivial trivial trivial trivial trivial trivial trivial trivial trivial trivial trivial trivial ?_
      exact WQ.ret rfl
    · have q2 : (b != 0) = true := bne_iff_ne.2 g
      conv => arg 3; simp only [mkT, putT, List.reduceReplicate, List.set]
      refine EVgo9 (And.intro (q2) (w2)) trivial trivial trivial trivial trivial trivial trivial trivial trivial trivial trivial ?_
      exact WQ.ret rfl
  · have q2 : (a != 0) = true := bne_iff_ne.2 h
    rw [if_pos h]
    conv => arg 3; simp only [mkT, putT, List.reduceReplicate, List.set]
    refine EVgo9 (q2) trivial trivial trivial trivial trivial trivial trivial trivial trivial trivial trivial ?_
    exact WQ.ret rfl
theorem s27 (x y : It) (hx : Sml x) (hy : Sml y) : Sp cf 27 [.agg (encX x), .agg (encX y)] (.int .i64 (ordI x y)) := by
  have h1 := s37 hcf x
  have h2 := s37 hcf y
  have h3 := s39 hcf hx.re hy.re
  have h4 := s39 hcf hx.im hy.im
  have h5 := s38 hcf (cmpI (-x.2.1) (-y.2.1)) (cmpI x.2.2 y.2.2)
  refine sp_of hcf env27 ?_
  unfold ordI
  generalize cmpI (-x.2.1) (-y.2.1) = c1 at *
  generalize cmpI x.2.2 y.2.2 = c2 at *
  generalize fRe x = f1 at *
  generalize fIm x = f2 at *
  generalize fRe y = f3 at *
  generalize fIm y = f4 at *
  obtain ⟨a, b, c⟩ := x
  obtain ⟨d, e, f⟩ := y
  simp only [encX] at *
  conv => arg 2; simp only [ir27]
  conv => arg 3; simp only [ir27, Go.Proofs.YtoihpjpgihhcjaaEv.start, List.length, Nat.reduceAdd, Nat.reduceSub, List.reduceReplicate, List.append_eq, List.cons_append, List.nil_append]
  conv => arg 4; simp only [heapOf]
  try conv => arg 5; simp only [List.length, Nat.reduceAdd]
  try conv => arg 6; simp only [List.length, Nat.reduceAdd]
  refine EVgo9 trivial (h1) (h2) trivial trivial trivial trivial trivial trivial trivial trivial trivial ?_
  refine EVgo9 trivial (h3) (h4) (h5) trivial trivial trivial trivial trivial trivial trivial trivial ?_
  exact EVret trivial
end
end Go.Proofs.YtoihpjpgihhcjaaR
