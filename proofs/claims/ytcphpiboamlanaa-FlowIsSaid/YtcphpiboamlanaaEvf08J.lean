/- Evf08J: a part of the proof. -/
import Derived.Test.YtcphpiboamlanaaEvf08I
open Go Go.Proofs.YtcphpiboamlanaaEv Go.Proofs.YtcphpiboamlanaaR Go.IntWalk
set_option maxRecDepth 20000
set_option maxHeartbeats 8000000
set_option linter.unusedVariables false
set_option linter.unusedSimpArgs false
namespace Go.Proofs.YtcphpiboamlanaaR
section
variable {cf : CF} (hcf : cf = ev env)
include hcf
theorem s63n (d : Int) (b : Bd) (rm : List Pr) (hb : Sm b) (hno : ∀ j, j < b.o.length → (b.o.getD j (0, 0)).1 ≠ d) :
    cf 63 [.own 0 2 0 b.o.length, .fn 79 [] [.ptr 1 0, .cp (.ptr 2 0)]] (hD d b b.c rm b.o) = some (.int .i64 (-1), hD d b b.c rm b.o) := by
  have ho := hb.o
  refine ev_ofC' hcf env63 ?_
  simp only [hD] at ⊢
  conv => arg 2; simp only [ir63]
  conv => arg 3; simp only [ir63, Go.Proofs.YtcphpiboamlanaaEv.start, List.length, Nat.reduceAdd, Nat.reduceSub, List.reduceReplicate, List.append_eq, List.cons_append, List.nil_append]
  conv => arg 4; simp only [heapOf]
  try conv => arg 5; simp only [List.length, Nat.reduceAdd]
  try conv => arg 6; simp only [List.length, Nat.reduceAdd]
  refine EVgo9 trivial trivial trivial trivial trivial trivial trivial trivial trivial trivial trivial trivial ?_
  refine WC.loop (T' := _) (H' := _) (n' := _) rfl ((?_ : ∀ (k i : Nat), i + k = b.o.length →
    WC cf _ (mkT 19 [(0, .own 0 2 0 b.o.length), (1, .fn 79 [] [.ptr 1 0, .cp (.ptr 2 0)]), (7, .int .i64 (b.o.length : Nat)), (8, .int .i64 (i : Nat))]) [(0, .row (flat encP b.o)), (1, .box [.int .i64 d]), (2, .box [.own 3 2 0 b.c.length, .own 4 2 0 b.m.length, .own 0 2 0 b.o.length]), (3, .row (flat encP b.c)), (4, .row (flat encP rm))] 5 5 _) b.o.length 0 (by omega))
  intro k
  induction k with
  | zero =>
    intro i hi
    obtain rfl : i = b.o.length := by omega
    conv => arg 3; simp only [mkT, putT, List.reduceReplicate, List.set]
    refine EVgl9 trivial trivial trivial trivial trivial trivial trivial trivial trivial trivial trivial trivial ?_
    exact WQ.ret rfl
  | succ k ih =>
    intro i hi
    have hlt' : i < b.o.length := by omega
    have hlt : (i : Int) < (b.o.length : Int) := by omega
    have hw : IntKind.i64.wrap ((i : Int) + 1) = ((i + 1 : Nat) : Int) := by rw [i64_in _ (by omega)]; simp
    have e0 := at_P hlt'
    have h79 := s79f hcf d (b.o.getD i (0, 0)).1 (b.o.getD i (0, 0)).2 (hno i hlt') b b.c rm b.o
    have hih := ih (i + 1) (by omega)
    simp only [hC] at h79
    conv => arg 3; simp only [mkT, putT, List.reduceReplicate, List.set]
    refine EVgo9 (hlt) trivial trivial trivial trivial trivial trivial trivial trivial trivial trivial trivial ?_
    have e1 : ((flat encP b.o).drop (i * 2)).take 2 = [.int .i64 (b.o.getD i (0, 0)).1, .int .i64 (b.o.getD i (0, 0)).2] := by rw [e0]; rfl
    first | refine WO.step (k_loadn rfl rfl e1 rfl) ?_ | refine WOc.step (k_loadn rfl rfl e1 rfl) ?_
    conv => arg 2; simp only [setOpt, List.set, Nat.reduceLT, Int.reduceToNat, List.drop_drop, valT, List.getD_cons_zero, List.getD_cons_succ, Int.reduceLT, Int.reduceLE, Int.reduceAdd, Int.reduceSub, Int.reduceMul, Int.reduceNeg, Int.reduceEq, Int.reduceNe, Int.cast_ofNat_Int, Int.natCast_zero, Int.natCast_one, ge_iff_le, gt_iff_lt, decide_true, decide_false, Bool.not_true, Bool.not_false, Int.toNat_natCast, Nat.sub_zero, Nat.mul_one, Option.isSome_some, Option.isSome_none, Bool.false_eq_true, Bool.and_true, Bool.true_and, Bool.and_false, Bool.false_and, Nat.zero_add, Nat.zero_mul, List.drop_zero, reduceIte, setRange, PV.cells, fillB, List.take, List.drop, List.append_eq, List.cons_append, List.nil_append, List.length, List.map, List.zip, List.zipWith, List.replicate, List.flatten, Nat.reduceAdd, Nat.reduceMul, Nat.reduceSub, PV.mapId, mapIds, Option.map, Blk.mapId, sigN, sigS, hlt]
    try conv => arg 3; simp only [Nat.reduceLT, List.reduceReplicate, List.flatten_cons, List.flatten_nil, List.append_nil, Nat.reduceMul, Nat.mul_one, Nat.one_mul, Nat.zero_mul, Nat.zero_add, List.drop_zero, List.drop_succ_cons, List.drop_nil, List.take_succ_cons, List.take_zero, List.take_nil, List.drop_drop, setRange, PV.cells, valT, List.getD_cons_zero, List.getD_cons_succ, List.take, List.length, Nat.reduceAdd, List.nil_append, applyU, hset, hdel, Nat.reduceEqDiff, reduceIte, List.append_eq, List.cons_append, List.nil_append, frz, rowsOf, updsNew, updsAt, sigN, sigS, PV.mapId, mapIds, Option.map, Blk.mapId, List.drop, heapOf, hlt]
    conv => arg 5; simp only [stride, Nat.reduceAdd]
    refine EVgo9 (hw) (h79) trivial trivial trivial trivial trivial trivial trivial trivial trivial trivial ?_
    exact WC.loop rfl hih
theorem s63y (d : Int) (b : Bd) (rm : List Pr) (hr : rm.take b.m.length = b.m) (hb : Sm b) (i0 n : Nat) (h0 : i0 < b.o.length) (hno : ∀ j, j < i0 → (b.o.getD j (0, 0)).1 ≠ d) (hy : (b.o.getD i0 (0, 0)).1 = d) (ea : (b.o.getD i0 (0, 0)).2 = n) (hn : n < b.c.length) :
    cf 63 [.own 0 2 0 b.o.length, .fn 79 [] [.ptr 1 0, .cp (.ptr 2 0)]] (hD d b b.c rm b.o) = some (.int .i64 i0, hD d ⟨resC b.c n, b.m, b.o⟩ (resC b.c n) rm b.o) := by
  have ho := hb.o
  have hl := resC_len b.c hn
  refine ev_ofC' hcf env63 ?_
  simp only [hD] at ⊢
  conv => arg 2; simp only [ir63]
  conv => arg 3; simp only [ir63, Go.Proofs.YtcphpiboamlanaaEv.start, List.length, Nat.reduceAdd, Nat.reduceSub, List.reduceReplicate, List.append_eq, List.cons_append, List.nil_append]
  conv => arg 4; simp only [heapOf]
  try conv => arg 5; simp only [List.length, Nat.reduceAdd]
  try conv => arg 6; simp only [List.length, Nat.reduceAdd]
  refine EVgo9 trivial trivial trivial trivial trivial trivial trivial trivial trivial trivial trivial trivial ?_
  refine WC.loop (T' := _) (H' := _) (n' := _) rfl ((?_ : ∀ (k i : Nat), i + k = i0 →
    WC cf _ (mkT 19 [(0, .own 0 2 0 b.o.length), (1, .fn 79 [] [.ptr 1 0, .cp (.ptr 2 0)]), (7, .int .i64 (b.o.length : Nat)), (8, .int .i64 (i : Nat))]) [(0, .row (flat encP b.o)), (1, .box [.int .i64 d]), (2, .box [.own 3 2 0 b.c.length, .own 4 2 0 b.m.length, .own 0 2 0 b.o.length]), (3, .row (flat encP b.c)), (4, .row (flat encP rm))] 5 5 _) i0 0 (by omega))
  intro k
  induction k with
  | zero =>
    intro i hi
    obtain rfl : i = i0 := by omega
    have hlt : (i : Int) < (b.o.length : Int) := by omega
    have e0 := at_P h0
    have h79 := s79t hcf d (b.o.getD i (0, 0)).2 n ea b b.c rm b.o ⟨List.take_length, hr, List.take_length⟩ hb hn
    simp only [hC] at h79
    rw [hy] at e0
    conv => arg 3; simp only [mkT, putT, List.reduceReplicate, List.set]
    refine EVgo9 (hlt) trivial trivial trivial trivial trivial trivial trivial trivial trivial trivial trivial ?_
    have e1 : ((flat encP b.o).drop (i * 2)).take 2 = [.int .i64 d, .int .i64 (b.o.getD i (0, 0)).2] := by rw [e0]; rfl
    first | refine WO.step (k_loadn rfl rfl e1 rfl) ?_ | refine WOc.step (k_loadn rfl rfl e1 rfl) ?_
    conv => arg 2; simp only [setOpt, List.set, Nat.reduceLT, Int.reduceToNat, List.drop_drop, valT, List.getD_cons_zero, List.getD_cons_succ, Int.reduceLT, Int.reduceLE, Int.reduceAdd, Int.reduceSub, Int.reduceMul, Int.reduceNeg, Int.reduceEq, Int.reduceNe, Int.cast_ofNat_Int, Int.natCast_zero, Int.natCast_one, ge_iff_le, gt_iff_lt, decide_true, decide_false, Bool.not_true, Bool.not_false, Int.toNat_natCast, Nat.sub_zero, Nat.mul_one, Option.isSome_some, Option.isSome_none, Bool.false_eq_true, Bool.and_true, Bool.true_and, Bool.and_false, Bool.false_and, Nat.zero_add, Nat.zero_mul, List.drop_zero, reduceIte, setRange, PV.cells, fillB, List.take, List.drop, List.append_eq, List.cons_append, List.nil_append, List.length, List.map, List.zip, List.zipWith, List.replicate, List.flatten, Nat.reduceAdd, Nat.reduceMul, Nat.reduceSub, PV.mapId, mapIds, Option.map, Blk.mapId, sigN, sigS, hlt]
    try conv => arg 3; simp only [Nat.reduceLT, List.reduceReplicate, List.flatten_cons, List.flatten_nil, List.append_nil, Nat.reduceMul, Nat.mul_one, Nat.one_mul, Nat.zero_mul, Nat.zero_add, List.drop_zero, List.drop_succ_cons, List.drop_nil, List.take_succ_cons, List.take_zero, List.take_nil, List.drop_drop, setRange, PV.cells, valT, List.getD_cons_zero, List.getD_cons_succ, List.take, List.length, Nat.reduceAdd, List.nil_append, applyU, hset, hdel, Nat.reduceEqDiff, reduceIte, List.append_eq, List.cons_append, List.nil_append, frz, rowsOf, updsNew, updsAt, sigN, sigS, PV.mapId, mapIds, Option.map, Blk.mapId, List.drop, heapOf, hlt]
    conv => arg 5; simp only [stride, Nat.reduceAdd]
    refine EVgo9 trivial (h79) trivial trivial trivial trivial trivial trivial trivial trivial trivial trivial ?_
    simp only [hl]
    exact WQ.ret rfl
  | succ k ih =>
    intro i hi
    have hlt' : i < b.o.length := by omega
    have hlt : (i : Int) < (b.o.length : Int) := by omega
    have hw : IntKind.i64.wrap ((i : Int) + 1) = ((i + 1 : Nat) : Int) := by rw [i64_in _ (by omega)]; simp
    have e0 := at_P hlt'
    have h79 := s79f hcf d (b.o.getD i (0, 0)).1 (b.o.getD i (0, 0)).2 (hno i (by omega)) b b.c rm b.o
    have hih := ih (i + 1) (by omega)
    simp only [hC] at h79
    conv => arg 3; simp only [mkT, putT, List.reduceReplicate, List.set]
    refine EVgo9 (hlt) trivial trivial trivial trivial trivial trivial trivial trivial trivial trivial trivial ?_
    have e1 : ((flat encP b.o).drop (i * 2)).take 2 = [.int .i64 (b.o.getD i (0, 0)).1, .int .i64 (b.o.getD i (0, 0)).2] := by rw [e0]; rfl
    first | refine WO.step (k_loadn rfl rfl e1 rfl) ?_ | refine WOc.step (k_loadn rfl rfl e1 rfl) ?_
    conv => arg 2; simp only [setOpt, List.set, Nat.reduceLT, Int.reduceToNat, List.drop_drop, valT, List.getD_cons_zero, List.getD_cons_succ, Int.reduceLT, Int.reduceLE, Int.reduceAdd, Int.reduceSub, Int.reduceMul, Int.reduceNeg, Int.reduceEq, Int.reduceNe, Int.cast_ofNat_Int, Int.natCast_zero, Int.natCast_one, ge_iff_le, gt_iff_lt, decide_true, decide_false, Bool.not_true, Bool.not_false, Int.toNat_natCast, Nat.sub_zero, Nat.mul_one, Option.isSome_some, Option.isSome_none, Bool.false_eq_true, Bool.and_true, Bool.true_and, Bool.and_false, Bool.false_and, Nat.zero_add, Nat.zero_mul, List.drop_zero, reduceIte, setRange, PV.cells, fillB, List.take, List.drop, List.append_eq, List.cons_append, List.nil_append, List.length, List.map, List.zip, List.zipWith, List.replicate, List.flatten, Nat.reduceAdd, Nat.reduceMul, Nat.reduceSub, PV.mapId, mapIds, Option.map, Blk.mapId, sigN, sigS, hlt]
    try conv => arg 3; simp only [Nat.reduceLT, List.reduceReplicate, List.flatten_cons, List.flatten_nil, List.append_nil, Nat.reduceMul, Nat.mul_one, Nat.one_mul, Nat.zero_mul, Nat.zero_add, List.drop_zero, List.drop_succ_cons, List.drop_nil, List.take_succ_cons, List.take_zero, List.take_nil, List.drop_drop, setRange, PV.cells, valT, List.getD_cons_zero, List.getD_cons_succ, List.take, List.length, Nat.reduceAdd, List.nil_append, applyU, hset, hdel, Nat.reduceEqDiff, reduceIte, List.append_eq, List.cons_append, List.nil_append, frz, rowsOf, updsNew, updsAt, sigN, sigS, PV.mapId, mapIds, Option.map, Blk.mapId, List.drop, heapOf, hlt]
    conv => arg 5; simp only [stride, Nat.reduceAdd]
    refine EVgo9 (hw) (h79) trivial trivial trivial trivial trivial trivial trivial trivial trivial trivial ?_
    exact WC.loop rfl hih
end
end Go.Proofs.YtcphpiboamlanaaR
