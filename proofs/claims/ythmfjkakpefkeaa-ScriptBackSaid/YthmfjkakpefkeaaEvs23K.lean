/- Evs23K: a part of the proof. -/
import Derived.Test.YthmfjkakpefkeaaEvs23E
import Derived.Test.YthmfjkakpefkeaaEvs23B
open Go Go.Proofs.YthmfjkakpefkeaaEv Go.Proofs.YthmfjkakpefkeaaR Go.IntWalk
set_option maxRecDepth 20000
set_option maxHeartbeats 8000000
set_option linter.unusedVariables false
set_option linter.unusedSimpArgs false
namespace Go.Proofs.YthmfjkakpefkeaaR
theorem tm2 (a : Nat) : (a : Int).tmod 2 = ((a % 2 : Nat) : Int) := by rw [Int.tmod_eq_emod_of_nonneg (by omega)]; omega
theorem g1 (b : UInt8) : ((b.toNat : Int).tmod 2 == 1) = decide (b.toNat % 2 = 1) := by
  have e : ∀ k : Fin 256, ((k.val : Int).tmod 2 == 1) = decide (k.val % 2 = 1) := by decide +kernel
  exact e ⟨b.toNat, b.toNat_lt⟩
theorem g2 (b : UInt8) : ((IntKind.i64.wrap ((b.toNat : Int).tdiv 2)).tmod 2 == 1) = decide (b.toNat / 2 % 2 = 1) := by
  have e : ∀ k : Fin 256, ((IntKind.i64.wrap ((k.val : Int).tdiv 2)).tmod 2 == 1) = decide (k.val / 2 % 2 = 1) := by decide +kernel
  exact e ⟨b.toNat, b.toNat_lt⟩
theorem m256 {a b : Nat} (ha : a < 256) (hb : b < 256) : IntKind.i64.wrap (IntKind.i64.wrap (256 * (a : Int)) + (b : Int)) = ((a * 256 + b : Nat) : Int) := by
  rw [i64_in (256 * (a : Int)) (by omega), i64_in _ (by omega)]
  omega
section
variable {cf : CF} (hcf : cf = ev env)
include hcf
theorem s26 (n a b : Int) : cf 26 [.int .i64 n, .int .i64 a, .int .i64 b] [] = some (.bool (decide (a ≤ n ∧ n ≤ b)), []) := by
  refine ev_ofC' hcf env26 ?_
  conv => arg 2; simp only [ir26]
  conv => arg 3; simp only [ir26, Go.Proofs.YthmfjkakpefkeaaEv.start, List.length, Nat.reduceAdd, Nat.reduceSub, List.reduceReplicate, List.append_eq, List.cons_append, List.nil_append]
  conv => arg 4; simp only [heapOf]
  try conv => arg 5; simp only [List.length, Nat.reduceAdd]
  try conv => arg 6; simp only [List.length, Nat.reduceAdd]
  by_cases h : a ≤ n
  · refine EVgo2 (h) trivial trivial trivial trivial ?_
    exact WQ.ret (by simp only [h, true_and]; rfl)
  · refine EVgo2 (h) trivial trivial trivial trivial ?_
    exact WQ.ret (by simp only [h, false_and, decide_false]; rfl)
theorem s29 (b : Bool) (n : Int) : cf 29 [.bool b, .int .i64 n] [] = some (.int .i64 (if b = true then n else 0), []) := by
  refine ev_ofC' hcf env29 ?_
  conv => arg 2; simp only [ir29]
  conv => arg 3; simp only [ir29, Go.Proofs.YthmfjkakpefkeaaEv.start, List.length, Nat.reduceAdd, Nat.reduceSub, List.reduceReplicate, List.append_eq, List.cons_append, List.nil_append]
  conv => arg 4; simp only [heapOf]
  try conv => arg 5; simp only [List.length, Nat.reduceAdd]
  try conv => arg 6; simp only [List.length, Nat.reduceAdd]
  cases b
  · refine EVgo2 trivial trivial trivial trivial trivial ?_
    exact WQ.ret rfl
  · refine EVgo2 trivial trivial trivial trivial trivial ?_
    exact WQ.ret rfl
theorem s37 (l : List UInt8) (t : Bool) : cf 37 [.ptr 0 0] [rd l t] = some (.int .i64 (hd l : Int), [rd (l.drop 1) t]) := by
  refine ev_ofC' hcf env37 ?_
  unfold rd
  conv => arg 2; simp only [ir37]
  conv => arg 3; simp only [ir37, Go.Proofs.YthmfjkakpefkeaaEv.start, List.length, Nat.reduceAdd, Nat.reduceSub, List.reduceReplicate, List.append_eq, List.cons_append, List.nil_append]
  conv => arg 4; simp only [heapOf]
  try conv => arg 5; simp only [List.length, Nat.reduceAdd]
  try conv => arg 6; simp only [List.length, Nat.reduceAdd]
  cases l with
  | nil =>
    refine EVgo2 trivial trivial trivial trivial trivial ?_
    exact WQ.ret rfl
  | cons b r =>
    have e0 : flat encB (b :: r) = .int .u8 b.toNat :: flat encB r := rfl
    have h0 : (((b :: r).length : Int) == 0) = false := by simp; omega
    have h1 : (0 : Int) < ((b :: r).length : Int) := by simp
    have e3 : (flat encB r).take r.length = flat encB r := List.take_of_length_le (by rw [lenB]; omega)
    have tn1 : Int.toNat 1 = 1 := rfl
    refine EVgo2 (And.intro (h0) ( And.intro (e0) ( And.intro (wB) ( And.intro (e3) ( And.intro (tn1) (Nat.add_sub_cancel)))))) trivial trivial trivial trivial ?_
    exact WQ.ret rfl
theorem s35 (l : List UInt8) (t : Bool) : cf 35 [.ptr 0 0] [rd l t] = some (.int .i64 ((hd l * 256 + hd (l.drop 1) : Nat) : Int), [rd (l.drop 2) t]) := by
  refine ev_ofC' hcf env35 ?_
  unfold rd
  conv => arg 2; simp only [ir35]
  conv => arg 3; simp only [ir35, Go.Proofs.YthmfjkakpefkeaaEv.start, List.length, Nat.reduceAdd, Nat.reduceSub, List.reduceReplicate, List.append_eq, List.cons_append, List.nil_append]
  conv => arg 4; simp only [heapOf]
  try conv => arg 5; simp only [List.length, Nat.reduceAdd]
  try conv => arg 6; simp only [List.length, Nat.reduceAdd]
  refine EVgo2 (m256 (hd_lt l) (hd_lt (l.drop 1))) (s37 hcf l t) (s37 hcf (l.drop 1) t) trivial trivial ?_
  exact WQ.ret rfl
theorem s36 (l : List UInt8) (t : Bool) (c : Nat) : cf 36 [.ptr 0 0, .int .i64 c] [rd l t] = some (.str ⟨(l.take c).toArray⟩, [rd (l.drop c) t]) := by
  refine ev_ofC' hcf env36 ?_
  unfold rd
  conv => arg 2; simp only [ir36]
  conv => arg 3; simp only [ir36, Go.Proofs.YthmfjkakpefkeaaEv.start, List.length, Nat.reduceAdd, Nat.reduceSub, List.reduceReplicate, List.append_eq, List.cons_append, List.nil_append]
  conv => arg 4; simp only [heapOf]
  try conv => arg 5; simp only [List.length, Nat.reduceAdd]
  try conv => arg 6; simp only [List.length, Nat.reduceAdd]
  have e1 := flat_take encB_len l (min c l.length)
  have e2 := flat_drop encB_len l (min c l.length)
  simp only [Nat.mul_one] at e1 e2
  have e3 : l.take (min c l.length) = l.take c := by rw [List.take_eq_take_iff]; omega
  have e4 : l.drop (min c l.length) = l.drop c := by rcases Nat.le_total c l.length with q | q <;> simp [q]
  rw [e3] at e1
  rw [e4] at e2
  have e5 : (flat encB (l.drop c)).take (l.length - min c l.length) = flat encB (l.drop c) := List.take_of_length_le (by rw [flat_length encB_len]; simp; omega)
  have e6 : l.length - min c l.length = (l.drop c).length := by simp; omega
  rw [e6] at e5
  refine EVgo2 (And.intro (e1) (e2)) trivial trivial trivial trivial ?_
  refine WO.step (b2sB rfl (by rw [List.length_take])) ?_
  conv => arg 2; simp only [setOpt, List.set, Nat.reduceLT, List.drop_drop, valT, List.getD_cons_zero, List.getD_cons_succ, Int.reduceLT, Int.reduceLE, Int.reduceAdd, Int.reduceSub, Int.reduceMul, Int.reduceNeg, Int.reduceEq, Int.reduceNe, Int.cast_ofNat_Int, Int.natCast_zero, Int.natCast_one, ge_iff_le, gt_iff_lt, decide_true, decide_false, Bool.not_true, Bool.not_false, Int.toNat_natCast, Nat.sub_zero, Nat.mul_one, Option.isSome_some, Option.isSome_none, Bool.false_eq_true, Bool.and_true, Bool.true_and, Bool.and_false, Bool.false_and, Nat.zero_add, Nat.zero_mul, List.drop_zero, reduceIte, setRange, PV.cells, fillB, List.take, List.drop, List.append_eq, List.cons_append, List.nil_append, List.length, List.map, List.zip, List.zipWith, List.replicate, List.flatten, Nat.reduceAdd, Nat.reduceMul, Nat.reduceSub, PV.mapId, mapIds, Option.map, Blk.mapId, sigN, sigS]
  try conv => arg 3; simp only [Nat.reduceLT, List.reduceReplicate, List.flatten_cons, List.flatten_nil, List.append_nil, Nat.reduceMul, Nat.mul_one, Nat.one_mul, Nat.zero_mul, Nat.zero_add, List.drop_zero, List.drop_succ_cons, List.drop_nil, List.take_succ_cons, List.take_zero, List.take_nil, List.drop_drop, setRange, PV.cells, valT, List.getD_cons_zero, List.getD_cons_succ, List.take, List.length, Nat.reduceAdd, List.nil_append, applyU, hset, hdel, Nat.reduceEqDiff, reduceIte, List.append_eq, List.cons_append, List.nil_append, frz, rowsOf, updsNew, updsAt, sigN, sigS, PV.mapId, mapIds, Option.map, Blk.mapId, List.drop, heapOf]
  conv => arg 5; simp only [stride, Nat.reduceAdd]
  refine EVgo2 (And.intro (e1) ( And.intro (e2) ( And.intro (e6) (e5)))) trivial trivial trivial trivial ?_
  exact WQ.ret rfl
end
end Go.Proofs.YthmfjkakpefkeaaR
