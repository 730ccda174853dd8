/- Evf08D: a part of the proof. -/
import Derived.Test.YtcphpiboamlanaaEvf08C
open Go Go.Proofs.YtcphpiboamlanaaEv Go.Proofs.YtcphpiboamlanaaR Go.IntWalk
set_option maxRecDepth 20000
set_option maxHeartbeats 8000000
set_option linter.unusedVariables false
set_option linter.unusedSimpArgs false
namespace Go.Proofs.YtcphpiboamlanaaR
def topP (m : List Pr) (below : Nat) (kind : Int) : Int × Bool := if below + 1 ≤ m.length ∧ (m.getD (m.length - 1 - below) (0, 0)).1 = kind then ((m.getD (m.length - 1 - below) (0, 0)).2, true) else (0, false)
structure Sm (b : Bd) : Prop where
  c : b.c.length ≤ 1000000
  m : b.m.length ≤ 1000000
  o : b.o.length ≤ 1000000
section
variable {cf : CF} (hcf : cf = ev env)
include hcf
theorem s28 (b : Bd) (tc tm tq l : List Pr) (hr : Rw b tc tm tq) (hb : Sm b) (hl : l.length ≤ 1000000) (h : b.c.length + l.length ≤ 4096) : cf 28 [.ptr 0 0, .sl l.length false (flat encP l)] (hB b tc tm tq) = some (.int .i64 0,
    [some (.box [.own 4 2 0 (b.c ++ l).length, .own 2 2 0 b.m.length, .own 3 2 0 b.o.length]), none, some (.row (flat encP tm)), some (.row (flat encP tq)), some (.row (flat encP (b.c ++ l)))]) := by
  have hc := hb.c
  refine ev_ofC' hcf env28 ?_
  simp only [hB]
  conv => arg 2; simp only [ir28]
  conv => arg 3; simp only [ir28, Go.Proofs.YtcphpiboamlanaaEv.start, List.length, Nat.reduceAdd, Nat.reduceSub, List.reduceReplicate, List.append_eq, List.cons_append, List.nil_append]
  conv => arg 4; simp only [heapOf]
  try conv => arg 5; simp only [List.length, Nat.reduceAdd]
  try conv => arg 6; simp only [List.length, Nat.reduceAdd]
  have w : IntKind.i64.wrap ((b.c.length : Int) + (l.length : Int)) = (b.c.length : Int) + l.length := by rw [i64_in _ (by omega)]
  have h1 : ¬ ((b.c.length : Int) + l.length > 4096) := by omega
  have hk := hr.c
  have hkl := take_le hk
  refine EVgo9 (And.intro (w) ( And.intro (h1) ( And.intro (lenP) ( And.intro (takeP) ( And.intro (hk) (appP)))))) trivial trivial trivial trivial trivial trivial trivial trivial trivial trivial trivial ?_
  rw [List.length_append]
  exact WQ.ret rfl
theorem s28n (b : Bd) (tc tm tq l : List Pr) (hr : Rw b tc tm tq) (hb : Sm b) (hl : l.length ≤ 1000000) (h : ¬ b.c.length + l.length ≤ 4096) : cf 28 [.ptr 0 0, .sl l.length false (flat encP l)] (hB b tc tm tq) = some (.int .i64 (-8), hB b tc tm tq) := by
  have hc := hb.c
  refine ev_ofC' hcf env28 ?_
  simp only [hB]
  conv => arg 2; simp only [ir28]
  conv => arg 3; simp only [ir28, Go.Proofs.YtcphpiboamlanaaEv.start, List.length, Nat.reduceAdd, Nat.reduceSub, List.reduceReplicate, List.append_eq, List.cons_append, List.nil_append]
  conv => arg 4; simp only [heapOf]
  try conv => arg 5; simp only [List.length, Nat.reduceAdd]
  try conv => arg 6; simp only [List.length, Nat.reduceAdd]
  have w : IntKind.i64.wrap ((b.c.length : Int) + (l.length : Int)) = (b.c.length : Int) + l.length := by rw [i64_in _ (by omega)]
  have h1 : (b.c.length : Int) + l.length > 4096 := by omega
  refine EVgo9 (And.intro (w) (h1)) trivial trivial trivial trivial trivial trivial trivial trivial trivial trivial trivial ?_
  exact WQ.ret rfl
theorem s73 (b : Bd) (tc tm tq : List Pr) (k a : Int) (hr : Rw b tc tm tq) (hb : Sm b) : cf 73 [.ptr 0 0, .int .i64 k, .int .i64 a] (hB b tc tm tq) = some (.tup [],
    [some (.box [.own 1 2 0 b.c.length, .own 4 2 0 (b.m ++ [(k, a)]).length, .own 3 2 0 b.o.length]), some (.row (flat encP tc)), none, some (.row (flat encP tq)), some (.row (flat encP (b.m ++ [(k, a)])))]) := by
  have hm := hb.m
  have hk := hr.m
  have hkl := take_le hk
  refine ev_ofC' hcf env73 ?_
  simp only [hB]
  conv => arg 2; simp only [ir73]
  conv => arg 3; simp only [ir73, Go.Proofs.YtcphpiboamlanaaEv.start, List.length, Nat.reduceAdd, Nat.reduceSub, List.reduceReplicate, List.append_eq, List.cons_append, List.nil_append]
  conv => arg 4; simp only [heapOf]
  try conv => arg 5; simp only [List.length, Nat.reduceAdd]
  try conv => arg 6; simp only [List.length, Nat.reduceAdd]
  refine EVgo9 (And.intro (lenP) ( And.intro (takeP) ( And.intro (hk) (snocP)))) trivial trivial trivial trivial trivial trivial trivial trivial trivial trivial trivial ?_
  rw [List.length_append]
  exact WQ.fin rfl
theorem s72 (b : Bd) (tc tm tq : List Pr) (n : Nat) (hr : Rw b tc tm tq) (hb : Sm b) (hn : n ≤ b.m.length) : cf 72 [.ptr 0 0, .int .i64 n] (hB b tc tm tq) = some (.tup [],
    [some (.box [.own 1 2 0 b.c.length, .own 2 2 0 (b.m.length - n), .own 3 2 0 b.o.length]), some (.row (flat encP tc)), some (.row (flat encP tm)), some (.row (flat encP tq))]) := by
  have hm := hb.m
  have w : IntKind.i64.wrap ((b.m.length : Int) - (n : Int)) = ((b.m.length - n : Nat) : Int) := by rw [i64_in _ (by omega)]; omega
  refine ev_ofC' hcf env72 ?_
  simp only [hB]
  conv => arg 2; simp only [ir72]
  conv => arg 3; simp only [ir72, Go.Proofs.YtcphpiboamlanaaEv.start, List.length, Nat.reduceAdd, Nat.reduceSub, List.reduceReplicate, List.append_eq, List.cons_append, List.nil_append]
  conv => arg 4; simp only [heapOf]
  try conv => arg 5; simp only [List.length, Nat.reduceAdd]
  try conv => arg 6; simp only [List.length, Nat.reduceAdd]
  refine EVgo9 (w) trivial trivial trivial trivial trivial trivial trivial trivial trivial trivial trivial ?_
  exact WQ.fin rfl
theorem s70 (x0 x2 : PV) (m : List Pr) (below : Nat) (kind : Int) (hm : m.length ≤ 1000000) (hb : below ≤ 10) : cf 70 [.rop [x0, slP m, x2], .int .i64 below, .int .i64 kind] [] = some (.tup [.int .i64 (topP m below kind).1, .bool (topP m below kind).2], []) := by
  have w1 : IntKind.i64.wrap ((m.length : Int) - 1) = (m.length : Int) - 1 := i64_in _ (by omega)
  have w2 : IntKind.i64.wrap ((m.length : Int) - 1 - (below : Int)) = (m.length : Int) - 1 - (below : Int) := i64_in _ (by omega)
  refine ev_ofC' hcf env70 ?_
  simp only [slP]
  conv => arg 2; simp only [ir70]
  conv => arg 3; simp only [ir70, Go.Proofs.YtcphpiboamlanaaEv.start, List.length, Nat.reduceAdd, Nat.reduceSub, List.reduceReplicate, List.append_eq, List.cons_append, List.nil_append]
  conv => arg 4; simp only [heapOf]
  try conv => arg 5; simp only [List.length, Nat.reduceAdd]
  try conv => arg 6; simp only [List.length, Nat.reduceAdd]
  by_cases h1 : below + 1 ≤ m.length
  · have e1 : (m.length : Int) - 1 - (below : Int) = ((m.length - 1 - below : Nat) : Int) := by omega
    have n1 : ¬ (((m.length - 1 - below : Nat) : Int) < 0) := by omega
    have e0 := at_P (l := m) (i := m.length - 1 - below) (by omega)
    replace w2 := w2.trans e1
    by_cases h2 : (m.getD (m.length - 1 - below) (0, 0)).1 = kind
    · have h2' : ((m.getD (m.length - 1 - below) (0, 0)).1 != kind) = false := by rw [h2]; simp
      simp only [topP, if_pos (And.intro h1 h2)]
      refine EVgo9 (And.intro (w1) ( And.intro (w2) ( And.intro (n1) ( And.intro (e0) (h2'))))) trivial trivial trivial trivial trivial trivial trivial trivial trivial trivial trivial ?_
      exact WQ.ret rfl
    · have h2' : ((m.getD (m.length - 1 - below) (0, 0)).1 != kind) = true := bne_iff_ne.2 h2
      simp only [topP, if_neg (show ¬ (below + 1 ≤ m.length ∧ (m.getD (m.length - 1 - below) (0, 0)).1 = kind) from fun q => h2 q.2)]
      refine EVgo9 (And.intro (w1) ( And.intro (w2) ( And.intro (n1) ( And.intro (e0) (h2'))))) trivial trivial trivial trivial trivial trivial trivial trivial trivial trivial trivial ?_
      exact WQ.ret rfl
  · have n1 : (m.length : Int) - 1 - (below : Int) < 0 := by omega
    simp only [topP, if_neg (show ¬ (below + 1 ≤ m.length ∧ (m.getD (m.length - 1 - below) (0, 0)).1 = kind) from fun q => h1 q.1)]
    refine EVgo9 (And.intro (w1) ( And.intro (w2) (n1))) trivial trivial trivial trivial trivial trivial trivial trivial trivial trivial trivial ?_
    exact WQ.ret rfl
/-- a place that leads to the end -/
def resR (c r : List Pr) (a : Nat) : List Pr := r.take a ++ [((r.getD a (0, 0)).1, (c.length : Int))] ++ r.drop (a + 1)
def resC (c : List Pr) (a : Nat) : List Pr := resR c c a
omit hcf in
theorem resC_len (c : List Pr) {a : Nat} (h : a < c.length) : (resC c a).length = c.length := by
  unfold resC resR
  simp only [List.length_append, List.length_take, List.length_cons, List.length_nil, List.length_drop]
  omega
omit hcf in
theorem resR_take {c r : List Pr} (hr : r.take c.length = c) {a : Nat} (h : a < c.length) : (resR c r a).take (resC c a).length = resC c a := by
  have hl := take_le hr
  rw [resC_len c h]
  obtain ⟨t, rfl⟩ : ∃ t, r = c ++ t := ⟨r.drop c.length, by conv => lhs; rw [← List.take_append_drop c.length r, hr]⟩
  unfold resC resR
  have e : (c ++ t).getD a (0, 0) = c.getD a (0, 0) := by
    rw [List.getD_eq_getElem?_getD, List.getD_eq_getElem?_getD, List.getElem?_append_left h]
  have e1 : (c ++ t).take a = c.take a := List.take_append_of_le_length (by omega)
  have e2 : (c ++ t).drop (a + 1) = c.drop (a + 1) ++ t := List.drop_append_of_le_length (by omega)
  rw [e, e1, e2, ← List.append_assoc]
  exact List.take_left' (by simp only [List.length_append, List.length_take, List.length_cons, List.length_nil, List.length_drop]; omega)
omit hcf in
theorem set2 (l : List Pr) {a : Nat} (h : a < l.length) (v : Int) : (flat encP l).take (a * 2 + 1) ++ [PV.int .i64 v] ++ (flat encP l).drop (a * 2 + 1 + 1) = flat encP (l.take a ++ [((l.getD a (0, 0)).1, v)] ++ l.drop (a + 1)) := by
  have e1 : (flat encP l).take (a * 2 + 1) = flat encP (l.take a) ++ [.int .i64 (l.getD a (0, 0)).1] := by
    rw [List.take_add, takeP, at_P h]
    rfl
  have e2 : (flat encP l).drop (a * 2 + 1 + 1) = flat encP (l.drop (a + 1)) := by
    rw [show a * 2 + 1 + 1 = (a + 1) * 2 by omega, dropP]
  rw [e1, e2, ← appP, ← appP]
  simp only [List.append_assoc]
  rfl
omit hcf in
theorem resC_row {c r : List Pr} (hr : r.take c.length = c) {a : Nat} (h : a < c.length) : (flat encP r).take (a * 2 + 1) ++ [PV.int .i64 (c.length : Int)] ++ (flat encP r).drop (a * 2 + 1 + 1) = flat encP (resR c r a) := by
  have hl := take_le hr
  rw [set2 r (by omega)]
  rfl
theorem s71 (b : Bd) (tc tm tq : List Pr) (a : Nat) (hr : Rw b tc tm tq) (hb : Sm b) (ha : a < b.c.length) : cf 71 [.ptr 0 0, .int .i64 a] (hB b tc tm tq) = some (.tup [], hB ⟨resC b.c a, b.m, b.o⟩ (resR b.c tc a) tm tq) := by
  have hc := hb.c
  have hl := resC_len b.c ha
  have hkl := take_le hr.c
  refine ev_ofC' hcf env71 ?_
  simp only [hB, hl]
  conv => arg 2; simp only [ir71]
  conv => arg 3; simp only [ir71, Go.Proofs.YtcphpiboamlanaaEv.start, List.length, Nat.reduceAdd, Nat.reduceSub, List.reduceReplicate, List.append_eq, List.cons_append, List.nil_append]
  conv => arg 4; simp only [heapOf]
  try conv => arg 5; simp only [List.length, Nat.reduceAdd]
  try conv => arg 6; simp only [List.length, Nat.reduceAdd]
  refine EVgo9 trivial trivial trivial trivial trivial trivial trivial trivial trivial trivial trivial trivial ?_
  have hrow := resC_row hr.c ha
  first | refine WO.step (k_store_row rfl rfl rfl rfl (by rw [lenP]; omega) rfl) ?_ | refine WOc.step (k_store_row rfl rfl rfl rfl (by rw [lenP]; omega) rfl) ?_
  conv => arg 2; simp only [setOpt, List.set, Nat.reduceLT, Int.reduceToNat, List.drop_drop, valT, List.getD_cons_zero, List.getD_cons_succ, Int.reduceLT, Int.reduceLE, Int.reduceAdd, Int.reduceSub, Int.reduceMul, Int.reduceNeg, Int.reduceEq, Int.reduceNe, Int.cast_ofNat_Int, Int.natCast_zero, Int.natCast_one, ge_iff_le, gt_iff_lt, decide_true, decide_false, Bool.not_true, Bool.not_false, Int.toNat_natCast, Nat.sub_zero, Nat.mul_one, Option.isSome_some, Option.isSome_none, Bool.false_eq_true, Bool.and_true, Bool.true_and, Bool.and_false, Bool.false_and, Nat.zero_add, Nat.zero_mul, List.drop_zero, reduceIte, setRange, PV.cells, fillB, List.take, List.drop, List.append_eq, List.cons_append, List.nil_append, List.length, List.map, List.zip, List.zipWith, List.replicate, List.flatten, Nat.reduceAdd, Nat.reduceMul, Nat.reduceSub, PV.mapId, mapIds, Option.map, Blk.mapId, sigN, sigS, hrow]
  try conv => arg 3; simp only [Nat.reduceLT, List.reduceReplicate, List.flatten_cons, List.flatten_nil, List.append_nil, Nat.reduceMul, Nat.mul_one, Nat.one_mul, Nat.zero_mul, Nat.zero_add, List.drop_zero, List.drop_succ_cons, List.drop_nil, List.take_succ_cons, List.take_zero, List.take_nil, List.drop_drop, setRange, PV.cells, valT, List.getD_cons_zero, List.getD_cons_succ, List.take, List.length, Nat.reduceAdd, List.nil_append, applyU, hset, hdel, Nat.reduceEqDiff, reduceIte, List.append_eq, List.cons_append, List.nil_append, frz, rowsOf, updsNew, updsAt, sigN, sigS, PV.mapId, mapIds, Option.map, Blk.mapId, List.drop, heapOf, hrow]
  conv => arg 5; simp only [stride, Nat.reduceAdd]
  refine EVgo9 trivial trivial trivial trivial trivial trivial trivial trivial trivial trivial trivial trivial ?_
  exact WQ.fin rfl
theorem s75 (b : Bd) (tc tm tq : List Pr) (a : Int) (hr : Rw b tc tm tq) (hb : Sm b) : cf 75 [.ptr 0 0, .int .i64 a] (hB b tc tm tq) = some (.tup [],
    [some (.box [.own 1 2 0 b.c.length, .own 2 2 0 b.m.length, .own 4 2 0 (b.o ++ [((deep b.m : Int), a)]).length]), some (.row (flat encP tc)), some (.row (flat encP tm)), none, some (.row (flat encP (b.o ++ [((deep b.m : Int), a)])))]) := by
  have ho := hb.o
  have hm := hb.m
  have h34 := s34 hcf (fun _ _ => rfl) (own2 b.c tc) (own2 b.o tq) b.m (by omega)
  rw [← own2_eq b.m tm hr.m] at h34
  have hk := hr.o
  have hkl := take_le hk
  refine ev_ofC' hcf env75 ?_
  simp only [hB]
  conv => arg 2; simp only [ir75]
  conv => arg 3; simp only [ir75, Go.Proofs.YtcphpiboamlanaaEv.start, List.length, Nat.reduceAdd, Nat.reduceSub, List.reduceReplicate, List.append_eq, List.cons_append, List.nil_append]
  conv => arg 4; simp only [heapOf]
  try conv => arg 5; simp only [List.length, Nat.reduceAdd]
  try conv => arg 6; simp only [List.length, Nat.reduceAdd]
  refine EVgo9 (And.intro (lenP) ( And.intro (takeP) ( And.intro (hk) (snocP)))) (h34) trivial trivial trivial trivial trivial trivial trivial trivial trivial trivial ?_
  rw [List.length_append]
  exact WQ.fin rfl
end
end Go.Proofs.YtcphpiboamlanaaR
