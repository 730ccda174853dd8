/- Evf08W: a part of the proof. -/
import Derived.Test.YtcphpiboamlanaaEvf08V
import Derived.Test.YtcphpiboamlanaaEvf08R
open Go Go.Proofs.YtcphpiboamlanaaEv Go.Proofs.YtcphpiboamlanaaR Go.IntWalk
set_option maxRecDepth 20000
set_option maxHeartbeats 8000000
set_option linter.unusedVariables false
set_option linter.unusedSimpArgs false
namespace Go.Proofs.YtcphpiboamlanaaR
theorem u8sub {b : Nat} (h1 : 97 ≤ b) (h2 : b ≤ 122) : IntKind.u8.wrap ((b : Int) - 32) = ((b - 32 : Nat) : Int) := by
  unfold IntKind.wrap; simp [IntKind.signed, IntKind.bits]; omega
theorem few_ownB {b : Bd} (h : Few b) : Few (ownB b) := by
  unfold ownB
  split
  · exact h
  · exact ⟨by decide, by decide, by decide⟩
theorem whole_no {l : List Pr} {x : Pr} {p r : List Pr} (h : p ++ x :: r = l) (hx : astray l.length x = true) : wholeB l = false := by
  have : l.any (astray l.length) = true := List.any_eq_true.2 ⟨x, by rw [← h]; simp, hx⟩
  unfold wholeB
  rw [this]
  simp
section
variable {cf : CF} (hcf : cf = ev env)
include hcf
theorem s38 (s : ByteArray) (hs : s.size ≤ 1000000) : Sp cf 38 [.str s] (.str ⟨(upL s.toList).toArray⟩) := by
  have ls : s.toList.length = s.size := by rw [ByteArray.toList_eq]; rfl
  refine sp_of hcf env38 ?_
  conv => arg 2; simp only [ir38]
  conv => arg 3; simp only [ir38, Go.Proofs.YtcphpiboamlanaaEv.start, List.length, Nat.reduceAdd, Nat.reduceSub, List.reduceReplicate, List.append_eq, List.cons_append, List.nil_append]
  conv => arg 4; simp only [heapOf]
  try conv => arg 5; simp only [List.length, Nat.reduceAdd]
  try conv => arg 6; simp only [List.length, Nat.reduceAdd]
  refine EVgo9 trivial trivial trivial trivial trivial trivial trivial trivial trivial trivial trivial trivial ?_
  refine WC.loop (T' := _) (H' := _) (n' := _) rfl ((?_ : ∀ (k i : Nat) (P : List UInt8), i + k = s.size → P.length = s.size → P = upL (s.toList.take i) ++ s.toList.drop i →
    WC cf _ (mkT 35 [(3, .own 0 1 0 s.size), (4, .int .i64 (i : Nat))]) [(0, .row (P.map fun b => .int .u8 b.toNat))] 0 1 _) s.size 0 s.toList (by omega) ls rfl)
  intro k
  induction k with
  | zero =>
    intro i P hi hP hx
    obtain rfl : i = s.size := by omega
    rw [← ls, List.take_length, List.drop_length, List.append_nil] at hx
    rw [hx] at hP ⊢
    conv => arg 3; simp only [mkT, putT, List.reduceReplicate, List.set]
    refine EVgl9 trivial trivial trivial trivial trivial trivial trivial trivial trivial trivial trivial trivial ?_
    first | refine WO.step (b2sM rfl rfl hP) ?_ | refine WOc.step (b2sM rfl rfl hP) ?_
    conv => arg 2; simp only [setOpt, List.set, Nat.reduceLT, Int.reduceToNat, List.drop_drop, valT, List.getD_cons_zero, List.getD_cons_succ, Int.reduceLT, Int.reduceLE, Int.reduceAdd, Int.reduceSub, Int.reduceMul, Int.reduceNeg, Int.reduceEq, Int.reduceNe, Int.cast_ofNat_Int, Int.natCast_zero, Int.natCast_one, ge_iff_le, gt_iff_lt, decide_true, decide_false, Bool.not_true, Bool.not_false, Int.toNat_natCast, Nat.sub_zero, Nat.mul_one, Option.isSome_some, Option.isSome_none, Bool.false_eq_true, Bool.and_true, Bool.true_and, Bool.and_false, Bool.false_and, Nat.zero_add, Nat.zero_mul, List.drop_zero, reduceIte, setRange, PV.cells, fillB, List.take, List.drop, List.append_eq, List.cons_append, List.nil_append, List.length, List.map, List.zip, List.zipWith, List.replicate, List.flatten, Nat.reduceAdd, Nat.reduceMul, Nat.reduceSub, PV.mapId, mapIds, Option.map, Blk.mapId, sigN, sigS, Int.lt_irrefl]
    try conv => arg 3; simp only [Nat.reduceLT, List.reduceReplicate, List.flatten_cons, List.flatten_nil, List.append_nil, Nat.reduceMul, Nat.mul_one, Nat.one_mul, Nat.zero_mul, Nat.zero_add, List.drop_zero, List.drop_succ_cons, List.drop_nil, List.take_succ_cons, List.take_zero, List.take_nil, List.drop_drop, setRange, PV.cells, valT, List.getD_cons_zero, List.getD_cons_succ, List.take, List.length, Nat.reduceAdd, List.nil_append, applyU, hset, hdel, Nat.reduceEqDiff, reduceIte, List.append_eq, List.cons_append, List.nil_append, frz, rowsOf, updsNew, updsAt, sigN, sigS, PV.mapId, mapIds, Option.map, Blk.mapId, List.drop, heapOf, Int.lt_irrefl]
    conv => arg 5; simp only [stride, Nat.reduceAdd]
    refine EVgo9 trivial trivial trivial trivial trivial trivial trivial trivial trivial trivial trivial trivial ?_
    exact EVret trivial
  | succ k ih =>
    intro i P hi hP hx
    have hi' : i < s.toList.length := by omega
    have hlt : (i : Int) < (s.size : Int) := by omega
    have hw : IntKind.i64.wrap ((i : Int) + 1) = ((i + 1 : Nat) : Int) := by rw [i64_in _ (by omega)]; simp
    have lu : (upL (s.toList.take i)).length = i := by unfold upL; rw [List.length_map, List.length_take]; omega
    have hPi : P = upL (s.toList.take i) ++ s.toList[i] :: s.toList.drop (i + 1) := by rw [hx, List.drop_eq_getElem_cons hi']
    have e1 : ((P.map fun b => PV.int .u8 b.toNat).drop i).take 1 = [.int .u8 (s.toList[i].toNat : Nat)] := by
      rw [hPi, List.map_append, List.drop_left' (by rw [List.length_map, lu])]
      rfl
    have hnx : upL (s.toList.take i) ++ up8 s.toList[i] :: s.toList.drop (i + 1) = upL (s.toList.take (i + 1)) ++ s.toList.drop (i + 1) := by
      rw [List.take_succ_eq_append_getElem hi']
      unfold upL
      rw [List.map_append, List.append_assoc]
      rfl
    have hih := ih (i + 1) _ (by omega) (by simp only [List.length_append, lu, List.length_cons, List.length_drop, ls]; omega) hnx
    have hsame : capN s.toList[i].toNat = s.toList[i].toNat → P = upL (s.toList.take i) ++ up8 s.toList[i] :: s.toList.drop (i + 1) := fun q => by
      have : up8 s.toList[i] = s.toList[i] := by unfold up8; rw [q]; simp
      rw [this, hPi]
    by_cases h1 : 97 ≤ s.toList[i].toNat
    · have h1' : (s.toList[i].toNat : Int) ≥ 97 := by omega
      by_cases h2 : s.toList[i].toNat ≤ 122
      · have h2' : (s.toList[i].toNat : Int) ≤ 122 := by omega
        have ec : capN s.toList[i].toNat = s.toList[i].toNat - 32 := if_pos ⟨h1, h2⟩
        have w := u8sub h1 h2
        have hst : (P.map fun b => PV.int .u8 b.toNat).take i ++ [PV.int .u8 (s.toList[i].toNat - 32 : Nat)] ++ (P.map fun b => PV.int .u8 b.toNat).drop (i + 1) = (upL (s.toList.take i) ++ up8 s.toList[i] :: s.toList.drop (i + 1)).map fun b => PV.int .u8 b.toNat := by
          rw [hPi, ← ec, ← up8_nat]
          exact row_set (fun b : UInt8 => PV.int .u8 b.toNat) _ _ s.toList[i] (up8 s.toList[i]) lu
        conv => arg 3; simp only [mkT, putT, List.reduceReplicate, List.set]
        refine EVgo9 (hlt) trivial trivial trivial trivial trivial trivial trivial trivial trivial trivial trivial ?_
        first | refine WO.step (k_load1 rfl rfl e1) ?_ | refine WOc.step (k_load1 rfl rfl e1) ?_
        conv => arg 2; simp only [setOpt, List.set, Nat.reduceLT, Int.reduceToNat, List.drop_drop, valT, List.getD_cons_zero, List.getD_cons_succ, Int.reduceLT, Int.reduceLE, Int.reduceAdd, Int.reduceSub, Int.reduceMul, Int.reduceNeg, Int.reduceEq, Int.reduceNe, Int.cast_ofNat_Int, Int.natCast_zero, Int.natCast_one, ge_iff_le, gt_iff_lt, decide_true, decide_false, Bool.not_true, Bool.not_false, Int.toNat_natCast, Nat.sub_zero, Nat.mul_one, Option.isSome_some, Option.isSome_none, Bool.false_eq_true, Bool.and_true, Bool.true_and, Bool.and_false, Bool.false_and, Nat.zero_add, Nat.zero_mul, List.drop_zero, reduceIte, setRange, PV.cells, fillB, List.take, List.drop, List.append_eq, List.cons_append, List.nil_append, List.length, List.map, List.zip, List.zipWith, List.replicate, List.flatten, Nat.reduceAdd, Nat.reduceMul, Nat.reduceSub, PV.mapId, mapIds, Option.map, Blk.mapId, sigN, sigS, hlt]
        try conv => arg 3; simp only [Nat.reduceLT, List.reduceReplicate, List.flatten_cons, List.flatten_nil, List.append_nil, Nat.reduceMul, Nat.mul_one, Nat.one_mul, Nat.zero_mul, Nat.zero_add, List.drop_zero, List.drop_succ_cons, List.drop_nil, List.take_succ_cons, List.take_zero, List.take_nil, List.drop_drop, setRange, PV.cells, valT, List.getD_cons_zero, List.getD_cons_succ, List.take, List.length, Nat.reduceAdd, List.nil_append, applyU, hset, hdel, Nat.reduceEqDiff, reduceIte, List.append_eq, List.cons_append, List.nil_append, frz, rowsOf, updsNew, updsAt, sigN, sigS, PV.mapId, mapIds, Option.map, Blk.mapId, List.drop, heapOf, hlt]
        conv => arg 5; simp only [stride, Nat.reduceAdd]
        refine EVgo9 (h1') trivial trivial trivial trivial trivial trivial trivial trivial trivial trivial trivial ?_
        first | refine WO.step (k_load1 rfl rfl e1) ?_ | refine WOc.step (k_load1 rfl rfl e1) ?_
        conv => arg 2; simp only [setOpt, List.set, Nat.reduceLT, Int.reduceToNat, List.drop_drop, valT, List.getD_cons_zero, List.getD_cons_succ, Int.reduceLT, Int.reduceLE, Int.reduceAdd, Int.reduceSub, Int.reduceMul, Int.reduceNeg, Int.reduceEq, Int.reduceNe, Int.cast_ofNat_Int, Int.natCast_zero, Int.natCast_one, ge_iff_le, gt_iff_lt, decide_true, decide_false, Bool.not_true, Bool.not_false, Int.toNat_natCast, Nat.sub_zero, Nat.mul_one, Option.isSome_some, Option.isSome_none, Bool.false_eq_true, Bool.and_true, Bool.true_and, Bool.and_false, Bool.false_and, Nat.zero_add, Nat.zero_mul, List.drop_zero, reduceIte, setRange, PV.cells, fillB, List.take, List.drop, List.append_eq, List.cons_append, List.nil_append, List.length, List.map, List.zip, List.zipWith, List.replicate, List.flatten, Nat.reduceAdd, Nat.reduceMul, Nat.reduceSub, PV.mapId, mapIds, Option.map, Blk.mapId, sigN, sigS, hlt]
        try conv => arg 3; simp only [Nat.reduceLT, List.reduceReplicate, List.flatten_cons, List.flatten_nil, List.append_nil, Nat.reduceMul, Nat.mul_one, Nat.one_mul, Nat.zero_mul, Nat.zero_add, List.drop_zero, List.drop_succ_cons, List.drop_nil, List.take_succ_cons, List.take_zero, List.take_nil, List.drop_drop, setRange, PV.cells, valT, List.getD_cons_zero, List.getD_cons_succ, List.take, List.length, Nat.reduceAdd, List.nil_append, applyU, hset, hdel, Nat.reduceEqDiff, reduceIte, List.append_eq, List.cons_append, List.nil_append, frz, rowsOf, updsNew, updsAt, sigN, sigS, PV.mapId, mapIds, Option.map, Blk.mapId, List.drop, heapOf, hlt]
        conv => arg 5; simp only [stride, Nat.reduceAdd]
        refine EVgo9 (h2') trivial trivial trivial trivial trivial trivial trivial trivial trivial trivial trivial ?_
        first | refine WO.step (k_load1 rfl rfl e1) ?_ | refine WOc.step (k_load1 rfl rfl e1) ?_
        conv => arg 2; simp only [setOpt, List.set, Nat.reduceLT, Int.reduceToNat, List.drop_drop, valT, List.getD_cons_zero, List.getD_cons_succ, Int.reduceLT, Int.reduceLE, Int.reduceAdd, Int.reduceSub, Int.reduceMul, Int.reduceNeg, Int.reduceEq, Int.reduceNe, Int.cast_ofNat_Int, Int.natCast_zero, Int.natCast_one, ge_iff_le, gt_iff_lt, decide_true, decide_false, Bool.not_true, Bool.not_false, Int.toNat_natCast, Nat.sub_zero, Nat.mul_one, Option.isSome_some, Option.isSome_none, Bool.false_eq_true, Bool.and_true, Bool.true_and, Bool.and_false, Bool.false_and, Nat.zero_add, Nat.zero_mul, List.drop_zero, reduceIte, setRange, PV.cells, fillB, List.take, List.drop, List.append_eq, List.cons_append, List.nil_append, List.length, List.map, List.zip, List.zipWith, List.replicate, List.flatten, Nat.reduceAdd, Nat.reduceMul, Nat.reduceSub, PV.mapId, mapIds, Option.map, Blk.mapId, sigN, sigS, hlt]
        try conv => arg 3; simp only [Nat.reduceLT, List.reduceReplicate, List.flatten_cons, List.flatten_nil, List.append_nil, Nat.reduceMul, Nat.mul_one, Nat.one_mul, Nat.zero_mul, Nat.zero_add, List.drop_zero, List.drop_succ_cons, List.drop_nil, List.take_succ_cons, List.take_zero, List.take_nil, List.drop_drop, setRange, PV.cells, valT, List.getD_cons_zero, List.getD_cons_succ, List.take, List.length, Nat.reduceAdd, List.nil_append, applyU, hset, hdel, Nat.reduceEqDiff, reduceIte, List.append_eq, List.cons_append, List.nil_append, frz, rowsOf, updsNew, updsAt, sigN, sigS, PV.mapId, mapIds, Option.map, Blk.mapId, List.drop, heapOf, hlt]
        conv => arg 5; simp only [stride, Nat.reduceAdd]
        refine EVgo9 (w) trivial trivial trivial trivial trivial trivial trivial trivial trivial trivial trivial ?_
        first | refine WO.step (k_store_row rfl rfl rfl rfl (by rw [List.length_map, hP]; omega) rfl) ?_ | refine WOc.step (k_store_row rfl rfl rfl rfl (by rw [List.length_map, hP]; omega) rfl) ?_
        conv => arg 2; simp only [setOpt, List.set, Nat.reduceLT, Int.reduceToNat, List.drop_drop, valT, List.getD_cons_zero, List.getD_cons_succ, Int.reduceLT, Int.reduceLE, Int.reduceAdd, Int.reduceSub, Int.reduceMul, Int.reduceNeg, Int.reduceEq, Int.reduceNe, Int.cast_ofNat_Int, Int.natCast_zero, Int.natCast_one, ge_iff_le, gt_iff_lt, decide_true, decide_false, Bool.not_true, Bool.not_false, Int.toNat_natCast, Nat.sub_zero, Nat.mul_one, Option.isSome_some, Option.isSome_none, Bool.false_eq_true, Bool.and_true, Bool.true_and, Bool.and_false, Bool.false_and, Nat.zero_add, Nat.zero_mul, List.drop_zero, reduceIte, setRange, PV.cells, fillB, List.take, List.drop, List.append_eq, List.cons_append, List.nil_append, List.length, List.map, List.zip, List.zipWith, List.replicate, List.flatten, Nat.reduceAdd, Nat.reduceMul, Nat.reduceSub, PV.mapId, mapIds, Option.map, Blk.mapId, sigN, sigS, hst]
        try conv => arg 3; simp only [Nat.reduceLT, List.reduceReplicate, List.flatten_cons, List.flatten_nil, List.append_nil, Nat.reduceMul, Nat.mul_one, Nat.one_mul, Nat.zero_mul, Nat.zero_add, List.drop_zero, List.drop_succ_cons, List.drop_nil, List.take_succ_cons, List.take_zero, List.take_nil, List.drop_drop, setRange, PV.cells, valT, List.getD_cons_zero, List.getD_cons_succ, List.take, List.length, Nat.reduceAdd, List.nil_append, applyU, hset, hdel, Nat.reduceEqDiff, reduceIte, List.append_eq, List.cons_append, List.nil_append, frz, rowsOf, updsNew, updsAt, sigN, sigS, PV.mapId, mapIds, Option.map, Blk.mapId, List.drop, heapOf, hst]
        conv => arg 5; simp only [stride, Nat.reduceAdd]
        refine EVgo9 (hw) trivial trivial trivial trivial trivial trivial trivial trivial trivial trivial trivial ?_
        exact WC.loop rfl hih
      · have h2' : ¬ (s.toList[i].toNat : Int) ≤ 122 := by omega
        have hP2 := hsame (if_neg fun q => h2 q.2)
        rw [← hP2] at hih
        conv => arg 3; simp only [mkT, putT, List.reduceReplicate, List.set]
        refine EVgo9 (hlt) trivial trivial trivial trivial trivial trivial trivial trivial trivial trivial trivial ?_
        first | refine WO.step (k_load1 rfl rfl e1) ?_ | refine WOc.step (k_load1 rfl rfl e1) ?_
        conv => arg 2; simp only [setOpt, List.set, Nat.reduceLT, Int.reduceToNat, List.drop_drop, valT, List.getD_cons_zero, List.getD_cons_succ, Int.reduceLT, Int.reduceLE, Int.reduceAdd, Int.reduceSub, Int.reduceMul, Int.reduceNeg, Int.reduceEq, Int.reduceNe, Int.cast_ofNat_Int, Int.natCast_zero, Int.natCast_one, ge_iff_le, gt_iff_lt, decide_true, decide_false, Bool.not_true, Bool.not_false, Int.toNat_natCast, Nat.sub_zero, Nat.mul_one, Option.isSome_some, Option.isSome_none, Bool.false_eq_true, Bool.and_true, Bool.true_and, Bool.and_false, Bool.false_and, Nat.zero_add, Nat.zero_mul, List.drop_zero, reduceIte, setRange, PV.cells, fillB, List.take, List.drop, List.append_eq, List.cons_append, List.nil_append, List.length, List.map, List.zip, List.zipWith, List.replicate, List.flatten, Nat.reduceAdd, Nat.reduceMul, Nat.reduceSub, PV.mapId, mapIds, Option.map, Blk.mapId, sigN, sigS, hlt]
        try conv => arg 3; simp only [Nat.reduceLT, List.reduceReplicate, List.flatten_cons, List.flatten_nil, List.append_nil, Nat.reduceMul, Nat.mul_one, Nat.one_mul, Nat.zero_mul, Nat.zero_add, List.drop_zero, List.drop_succ_cons, List.drop_nil, List.take_succ_cons, List.take_zero, List.take_nil, List.drop_drop, setRange, PV.cells, valT, List.getD_cons_zero, List.getD_cons_succ, List.take, List.length, Nat.reduceAdd, List.nil_append, applyU, hset, hdel, Nat.reduceEqDiff, reduceIte, List.append_eq, List.cons_append, List.nil_append, frz, rowsOf, updsNew, updsAt, sigN, sigS, PV.mapId, mapIds, Option.map, Blk.mapId, List.drop, heapOf, hlt]
        conv => arg 5; simp only [stride, Nat.reduceAdd]
        refine EVgo9 (h1') trivial trivial trivial trivial trivial trivial trivial trivial trivial trivial trivial ?_
        first | refine WO.step (k_load1 rfl rfl e1) ?_ | refine WOc.step (k_load1 rfl rfl e1) ?_
        conv => arg 2; simp only [setOpt, List.set, Nat.reduceLT, Int.reduceToNat, List.drop_drop, valT, List.getD_cons_zero, List.getD_cons_succ, Int.reduceLT, Int.reduceLE, Int.reduceAdd, Int.reduceSub, Int.reduceMul, Int.reduceNeg, Int.reduceEq, Int.reduceNe, Int.cast_ofNat_Int, Int.natCast_zero, Int.natCast_one, ge_iff_le, gt_iff_lt, decide_true, decide_false, Bool.not_true, Bool.not_false, Int.toNat_natCast, Nat.sub_zero, Nat.mul_one, Option.isSome_some, Option.isSome_none, Bool.false_eq_true, Bool.and_true, Bool.true_and, Bool.and_false, Bool.false_and, Nat.zero_add, Nat.zero_mul, List.drop_zero, reduceIte, setRange, PV.cells, fillB, List.take, List.drop, List.append_eq, List.cons_append, List.nil_append, List.length, List.map, List.zip, List.zipWith, List.replicate, List.flatten, Nat.reduceAdd, Nat.reduceMul, Nat.reduceSub, PV.mapId, mapIds, Option.map, Blk.mapId, sigN, sigS, hlt]
        try conv => arg 3; simp only [Nat.reduceLT, List.reduceReplicate, List.flatten_cons, List.flatten_nil, List.append_nil, Nat.reduceMul, Nat.mul_one, Nat.one_mul, Nat.zero_mul, Nat.zero_add, List.drop_zero, List.drop_succ_cons, List.drop_nil, List.take_succ_cons, List.take_zero, List.take_nil, List.drop_drop, setRange, PV.cells, valT, List.getD_cons_zero, List.getD_cons_succ, List.take, List.length, Nat.reduceAdd, List.nil_append, applyU, hset, hdel, Nat.reduceEqDiff, reduceIte, List.append_eq, List.cons_append, List.nil_append, frz, rowsOf, updsNew, updsAt, sigN, sigS, PV.mapId, mapIds, Option.map, Blk.mapId, List.drop, heapOf, hlt]
        conv => arg 5; simp only [stride, Nat.reduceAdd]
        refine EVgo9 (And.intro (h2') (hw)) trivial trivial trivial trivial trivial trivial trivial trivial trivial trivial trivial ?_
        exact WC.loop rfl hih
    · have h1' : ¬ (s.toList[i].toNat : Int) ≥ 97 := by omega
      have hP2 := hsame (if_neg fun q => h1 q.1)
      rw [← hP2] at hih
      conv => arg 3; simp only [mkT, putT, List.reduceReplicate, List.set]
      refine EVgo9 (hlt) trivial trivial trivial trivial trivial trivial trivial trivial trivial trivial trivial ?_
      first | refine WO.step (k_load1 rfl rfl e1) ?_ | refine WOc.step (k_load1 rfl rfl e1) ?_
      conv => arg 2; simp only [setOpt, List.set, Nat.reduceLT, Int.reduceToNat, List.drop_drop, valT, List.getD_cons_zero, List.getD_cons_succ, Int.reduceLT, Int.reduceLE, Int.reduceAdd, Int.reduceSub, Int.reduceMul, Int.reduceNeg, Int.reduceEq, Int.reduceNe, Int.cast_ofNat_Int, Int.natCast_zero, Int.natCast_one, ge_iff_le, gt_iff_lt, decide_true, decide_false, Bool.not_true, Bool.not_false, Int.toNat_natCast, Nat.sub_zero, Nat.mul_one, Option.isSome_some, Option.isSome_none, Bool.false_eq_true, Bool.and_true, Bool.true_and, Bool.and_false, Bool.false_and, Nat.zero_add, Nat.zero_mul, List.drop_zero, reduceIte, setRange, PV.cells, fillB, List.take, List.drop, List.append_eq, List.cons_append, List.nil_append, List.length, List.map, List.zip, List.zipWith, List.replicate, List.flatten, Nat.reduceAdd, Nat.reduceMul, Nat.reduceSub, PV.mapId, mapIds, Option.map, Blk.mapId, sigN, sigS, hlt]
      try conv => arg 3; simp only [Nat.reduceLT, List.reduceReplicate, List.flatten_cons, List.flatten_nil, List.append_nil, Nat.reduceMul, Nat.mul_one, Nat.one_mul, Nat.zero_mul, Nat.zero_add, List.drop_zero, List.drop_succ_cons, List.drop_nil, List.take_succ_cons, List.take_zero, List.take_nil, List.drop_drop, setRange, PV.cells, valT, List.getD_cons_zero, List.getD_cons_succ, List.take, List.length, Nat.reduceAdd, List.nil_append, applyU, hset, hdel, Nat.reduceEqDiff, reduceIte, List.append_eq, List.cons_append, List.nil_append, frz, rowsOf, updsNew, updsAt, sigN, sigS, PV.mapId, mapIds, Option.map, Blk.mapId, List.drop, heapOf, hlt]
      conv => arg 5; simp only [stride, Nat.reduceAdd]
      refine EVgo9 (And.intro (h1') (hw)) trivial trivial trivial trivial trivial trivial trivial trivial trivial trivial trivial ?_
      exact WC.loop rfl hih
theorem s22 (b : Bd) (hb : Few b) : Sp cf 22 [bE b] (encEnd (endB b)) := by
  have h37 := s37 hcf b hb.mid
  have ho := ok_ownB b
  have h44 := s44 hcf (ownB b) 4 0 (few_ownB hb).mid
  refine sp_of hcf env22 ?_
  unfold endB
  generalize ownB b = d at *
  have hc := ho.c
  by_cases hm : d.m = []
  · have n0 : ¬ ((d.m.length : Int) > 0) := by rw [hm]; decide
    by_cases h : d.c.length + 1 ≤ 4096
    · rw [emit_y ho (by simpa using h)] at h44
      rw [if_pos hm, if_pos h]
      simp only [encEnd, encEmit, bE, slP] at h37 h44 ⊢
      conv => arg 2; simp only [ir22]
      conv => arg 3; simp only [ir22, Go.Proofs.YtcphpiboamlanaaEv.start, List.length, Nat.reduceAdd, Nat.reduceSub, List.reduceReplicate, List.append_eq, List.cons_append, List.nil_append]
      conv => arg 4; simp only [heapOf]
      try conv => arg 5; simp only [List.length, Nat.reduceAdd]
      try conv => arg 6; simp only [List.length, Nat.reduceAdd]
      refine EVgo9 (n0) (h37) (h44) trivial trivial trivial trivial trivial trivial trivial trivial trivial ?_
      exact EVret trivial
    · rw [emit_n ho (by simpa using h)] at h44
      rw [if_pos hm, if_neg h, show encEnd ([], -8) = .tup [.sl 0 false [], .int .i64 (-8)] from rfl]
      simp only [encEmit, bE, slP] at h37 h44 ⊢
      conv => arg 2; simp only [ir22]
      conv => arg 3; simp only [ir22, Go.Proofs.YtcphpiboamlanaaEv.start, List.length, Nat.reduceAdd, Nat.reduceSub, List.reduceReplicate, List.append_eq, List.cons_append, List.nil_append]
      conv => arg 4; simp only [heapOf]
      try conv => arg 5; simp only [List.length, Nat.reduceAdd]
      try conv => arg 6; simp only [List.length, Nat.reduceAdd]
      refine EVgo9 (n0) (h37) (h44) trivial trivial trivial trivial trivial trivial trivial trivial trivial ?_
      exact EVret trivial
  · have n0 : ((d.m.length : Int) > 0) := by
      have : d.m.length ≠ 0 := fun q => hm (List.length_eq_zero_iff.1 q)
      omega
    rw [if_neg hm, show encEnd ([], -22) = .tup [.sl 0 false [], .int .i64 (-22)] from rfl]
    simp only [bE, slP] at h37 ⊢
    conv => arg 2; simp only [ir22]
    conv => arg 3; simp only [ir22, Go.Proofs.YtcphpiboamlanaaEv.start, List.length, Nat.reduceAdd, Nat.reduceSub, List.reduceReplicate, List.append_eq, List.cons_append, List.nil_append]
    conv => arg 4; simp only [heapOf]
    try conv => arg 5; simp only [List.length, Nat.reduceAdd]
    try conv => arg 6; simp only [List.length, Nat.reduceAdd]
    refine EVgo9 (n0) (h37) trivial trivial trivial trivial trivial trivial trivial trivial trivial trivial ?_
    exact EVret trivial
theorem s25 (l : List Pr) (hl : l.length ≤ 1000000) : Sp cf 25 [slP l] (.bool (wholeB l)) := by
  refine sp_of hcf env25 ?_
  simp only [slP]
  conv => arg 2; simp only [ir25]
  conv => arg 3; simp only [ir25, Go.Proofs.YtcphpiboamlanaaEv.start, List.length, Nat.reduceAdd, Nat.reduceSub, List.reduceReplicate, List.append_eq, List.cons_append, List.nil_append]
  conv => arg 4; simp only [heapOf]
  try conv => arg 5; simp only [List.length, Nat.reduceAdd]
  try conv => arg 6; simp only [List.length, Nat.reduceAdd]
  refine EVgo9 trivial trivial trivial trivial trivial trivial trivial trivial trivial trivial trivial trivial ?_
  refine WC.loop (T' := _) (H' := _) (n' := _) rfl ((?_ : ∀ (r p : List Pr), p ++ r = l → p.any (astray l.length) = false →
    WC cf _ (mkT 64 [(0, .sl l.length false (flat encP l)), (3, .int .i64 (l.length : Nat)), (4, .int .i64 (p.length : Nat))]) [] 0 0 _) l [] rfl rfl)
  intro r
  induction r with
  | nil =>
    intro p hp hbad
    rw [List.append_nil] at hp
    subst hp
    unfold wholeB
    rw [hbad]
    by_cases h0 : 0 < p.length
    · have h0' : (p.length : Int) > 0 := by omega
      have w : IntKind.i64.wrap ((p.length : Int) - 1) = ((p.length - 1 : Nat) : Int) := by rw [i64_in _ (by omega)]; omega
      have e0 := at_P (l := p) (i := p.length - 1) (by omega)
      cases h4 : ((p.getD (p.length - 1) (0, 0)).1 == 4) with
      | true =>
        simp only [h0, decide_true, Bool.true_and, Bool.not_false]
        conv => arg 3; simp only [mkT, putT, List.reduceReplicate, List.set]
        refine EVgl9 trivial trivial trivial trivial trivial trivial trivial trivial trivial trivial trivial trivial ?_
        refine EVgo9 (And.intro (h0') ( And.intro (w) ( And.intro (e0) (h4)))) trivial trivial trivial trivial trivial trivial trivial trivial trivial trivial trivial ?_
        exact EVret trivial
      | false =>
        simp only [h0, decide_true, Bool.true_and, Bool.false_and]
        conv => arg 3; simp only [mkT, putT, List.reduceReplicate, List.set]
        refine EVgl9 trivial trivial trivial trivial trivial trivial trivial trivial trivial trivial trivial trivial ?_
        refine EVgo9 (And.intro (h0') ( And.intro (w) ( And.intro (e0) (h4)))) trivial trivial trivial trivial trivial trivial trivial trivial trivial trivial trivial ?_
        exact EVret trivial
    · have h0' : ¬ (p.length : Int) > 0 := by omega
      simp only [h0, decide_false, Bool.false_and]
      conv => arg 3; simp only [mkT, putT, List.reduceReplicate, List.set]
      refine EVgl9 trivial trivial trivial trivial trivial trivial trivial trivial trivial trivial trivial trivial ?_
      refine EVgo9 (h0') trivial trivial trivial trivial trivial trivial trivial trivial trivial trivial trivial ?_
      exact EVret trivial
  | cons x r ih =>
    intro p hp hbad
    obtain ⟨x, y⟩ := x
    have hlen : l.length = p.length + (r.length + 1) := by rw [← hp]; simp
    have hlt : (p.length : Int) < (l.length : Int) := by omega
    have hw : IntKind.i64.wrap ((p.length : Int) + 1) = ((p.length + 1 : Nat) : Int) := by rw [i64_in _ (by omega)]; simp
    have e0 := mid_P hp
    have hih := fun hx => ih (p ++ [(x, y)]) (by rw [List.append_assoc]; exact hp) (any_snoc hbad hx)
    rw [snoc_len] at hih
    have hf := fun hx => whole_no (x := (x, y)) hp hx
    simp only [astray, leadsB] at hih hf
    cases q1 : (x == 1) with
    | true =>
      by_cases g1 : y < 0
      · rw [hf (by simp only [q1, g1, decide_true, decide_false, Bool.true_or, Bool.false_or, Bool.true_and, Bool.or_true])]
        conv => arg 3; simp only [mkT, putT, List.reduceReplicate, List.set]
        refine EVgo9 (And.intro (hlt) ( And.intro (e0) ( And.intro (q1) (g1)))) trivial trivial trivial trivial trivial trivial trivial trivial trivial trivial trivial ?_
        exact EVret trivial
      by_cases g2 : (l.length : Int) ≤ y
      · rw [hf (by simp only [q1, g1, g2, decide_true, decide_false, Bool.true_or, Bool.false_or, Bool.true_and, Bool.or_true])]
        conv => arg 3; simp only [mkT, putT, List.reduceReplicate, List.set]
        refine EVgo9 (And.intro (hlt) ( And.intro (e0) ( And.intro (q1) ( And.intro (g1) (g2))))) trivial trivial trivial trivial trivial trivial trivial trivial trivial trivial trivial ?_
        exact EVret trivial
      · have hih' := hih (by simp only [q1, g1, g2, decide_true, decide_false, Bool.true_or, Bool.false_or, Bool.and_false, Bool.or_self, Bool.or_true])
        conv => arg 3; simp only [mkT, putT, List.reduceReplicate, List.set]
        refine EVgo9 (And.intro (hlt) ( And.intro (hw) ( And.intro (e0) ( And.intro (q1) ( And.intro (g1) (g2)))))) trivial trivial trivial trivial trivial trivial trivial trivial trivial trivial trivial ?_
        exact WC.loop rfl hih'
    | false =>
      cases q2 : (x == 2) with
      | true =>
        by_cases g1 : y < 0
        · rw [hf (by simp only [q1, q2, g1, decide_true, decide_false, Bool.true_or, Bool.false_or, Bool.true_and, Bool.or_true])]
          conv => arg 3; simp only [mkT, putT, List.reduceReplicate, List.set]
          refine EVgo9 (And.intro (hlt) ( And.intro (e0) ( And.intro (q1) ( And.intro (q2) (g1))))) trivial trivial trivial trivial trivial trivial trivial trivial trivial trivial trivial ?_
          exact EVret trivial
        by_cases g2 : (l.length : Int) ≤ y
        · rw [hf (by simp only [q1, q2, g1, g2, decide_true, decide_false, Bool.true_or, Bool.false_or, Bool.true_and, Bool.or_true])]
          conv => arg 3; simp only [mkT, putT, List.reduceReplicate, List.set]
          refine EVgo9 (And.intro (hlt) ( And.intro (e0) ( And.intro (q1) ( And.intro (q2) ( And.intro (g1) (g2)))))) trivial trivial trivial trivial trivial trivial trivial trivial trivial trivial trivial ?_
          exact EVret trivial
        · have hih' := hih (by simp only [q1, q2, g1, g2, decide_true, decide_false, Bool.true_or, Bool.false_or, Bool.and_false, Bool.or_self, Bool.or_true])
          conv => arg 3; simp only [mkT, putT, List.reduceReplicate, List.set]
          refine EVgo9 (And.intro (hlt) ( And.intro (hw) ( And.intro (e0) ( And.intro (q1) ( And.intro (q2) ( And.intro (g1) (g2))))))) trivial trivial trivial trivial trivial trivial trivial trivial trivial trivial trivial ?_
          exact WC.loop rfl hih'
      | false =>
        cases q6 : (x == 6) with
        | true =>
          by_cases g1 : y < 0
          · rw [hf (by simp only [q1, q2, q6, g1, decide_true, decide_false, Bool.true_or, Bool.false_or, Bool.true_and, Bool.or_true])]
            conv => arg 3; simp only [mkT, putT, List.reduceReplicate, List.set]
            refine EVgo9 (And.intro (hlt) ( And.intro (e0) ( And.intro (q1) ( And.intro (q2) ( And.intro (q6) (g1)))))) trivial trivial trivial trivial trivial trivial trivial trivial trivial trivial trivial ?_
            exact EVret trivial
          by_cases g2 : (l.length : Int) ≤ y
          · rw [hf (by simp only [q1, q2, q6, g1, g2, decide_true, decide_false, Bool.true_or, Bool.false_or, Bool.true_and, Bool.or_true])]
            conv => arg 3; simp only [mkT, putT, List.reduceReplicate, List.set]
            refine EVgo9 (And.intro (hlt) ( And.intro (e0) ( And.intro (q1) ( And.intro (q2) ( And.intro (q6) ( And.intro (g1) (g2))))))) trivial trivial trivial trivial trivial trivial trivial trivial trivial trivial trivial ?_
            exact EVret trivial
          · have hih' := hih (by simp only [q1, q2, q6, g1, g2, decide_true, decide_false, Bool.true_or, Bool.false_or, Bool.and_false, Bool.or_self, Bool.or_true])
            conv => arg 3; simp only [mkT, putT, List.reduceReplicate, List.set]
            refine EVgo9 (And.intro (hlt) ( And.intro (hw) ( And.intro (e0) ( And.intro (q1) ( And.intro (q2) ( And.intro (q6) ( And.intro (g1) (g2)))))))) trivial trivial trivial trivial trivial trivial trivial trivial trivial trivial trivial ?_
            exact WC.loop rfl hih'
        | false =>
          cases q7 : (x == 7) with
          | true =>
            by_cases g1 : y < 0
            · rw [hf (by simp only [q1, q2, q6, q7, g1, decide_true, decide_false, Bool.true_or, Bool.false_or, Bool.true_and, Bool.or_true])]
              conv => arg 3; simp only [mkT, putT, List.reduceReplicate, List.set]
              refine EVgo9 (And.intro (hlt) ( And.intro (e0) ( And.intro (q1) ( And.intro (q2) ( And.intro (q6) ( And.intro (q7) (g1))))))) trivial trivial trivial trivial trivial trivial trivial trivial trivial trivial trivial ?_
              exact EVret trivial
            by_cases g2 : (l.length : Int) ≤ y
            · rw [hf (by simp only [q1, q2, q6, q7, g1, g2, decide_true, decide_false, Bool.true_or, Bool.false_or, Bool.true_and, Bool.or_true])]
              conv => arg 3; simp only [mkT, putT, List.reduceReplicate, List.set]
              refine EVgo9 (And.intro (hlt) ( And.intro (e0) ( And.intro (q1) ( And.intro (q2) ( And.intro (q6) ( And.intro (q7) ( And.intro (g1) (g2)))))))) trivial trivial trivial trivial trivial trivial trivial trivial trivial trivial trivial ?_
              exact EVret trivial
            · have hih' := hih (by simp only [q1, q2, q6, q7, g1, g2, decide_true, decide_false, Bool.true_or, Bool.false_or, Bool.and_false, Bool.or_self, Bool.or_true])
              conv => arg 3; simp only [mkT, putT, List.reduceReplicate, List.set]
              refine EVgo9 (And.intro (hlt) ( And.intro (hw) ( And.intro (e0) ( And.intro (q1) ( And.intro (q2) ( And.intro (q6) ( And.intro (q7) ( And.intro (g1) (g2))))))))) trivial trivial trivial trivial trivial trivial trivial trivial trivial trivial trivial ?_
              exact WC.loop rfl hih'
          | false =>
            cases q8 : (x == 8) with
            | true =>
              by_cases g1 : y < 0
              · rw [hf (by simp only [q1, q2, q6, q7, q8, g1, decide_true, decide_false, Bool.true_or, Bool.false_or, Bool.true_and, Bool.or_true])]
                conv => arg 3; simp only [mkT, putT, List.reduceReplicate, List.set]
                refine EVgo9 (And.intro (hlt) ( And.intro (e0) ( And.intro (q1) ( And.intro (q2) ( And.intro (q6) ( And.intro (q7) ( And.intro (q8) (g1)))))))) trivial trivial trivial trivial trivial trivial trivial trivial trivial trivial trivial ?_
                exact EVret trivial
              by_cases g2 : (l.length : Int) ≤ y
              · rw [hf (by simp only [q1, q2, q6, q7, q8, g1, g2, decide_true, decide_false, Bool.true_or, Bool.false_or, Bool.true_and, Bool.or_true])]
                conv => arg 3; simp only [mkT, putT, List.reduceReplicate, List.set]
                refine EVgo9 (And.intro (hlt) ( And.intro (e0) ( And.intro (q1) ( And.intro (q2) ( And.intro (q6) ( And.intro (q7) ( And.intro (q8) ( And.intro (g1) (g2))))))))) trivial trivial trivial trivial trivial trivial trivial trivial trivial trivial trivial ?_
                exact EVret trivial
              · have hih' := hih (by simp only [q1, q2, q6, q7, q8, g1, g2, decide_true, decide_false, Bool.true_or, Bool.false_or, Bool.and_false, Bool.or_self, Bool.or_true])
                conv => arg 3; simp only [mkT, putT, List.reduceReplicate, List.set]
                refine EVgo9 (And.intro (hlt) ( And.intro (hw) ( And.intro (e0) ( And.intro (q1) ( And.intro (q2) ( And.intro (q6) ( And.intro (q7) ( And.intro (q8) ( And.intro (g1) (g2)))))))))) trivial trivial trivial trivial trivial trivial trivial trivial trivial trivial trivial ?_
                exact WC.loop rfl hih'
            | false =>
              have hih' := hih (by simp only [q1, q2, q6, q7, q8, Bool.or_self, Bool.false_and])
              conv => arg 3; simp only [mkT, putT, List.reduceReplicate, List.set]
              refine EVgo9 (And.intro (hlt) ( And.intro (hw) ( And.intro (e0) ( And.intro (q1) ( And.intro (q2) ( And.intro (q6) ( And.intro (q7) (q8)))))))) trivial trivial trivial trivial trivial trivial trivial trivial trivial trivial trivial ?_
              exact WC.loop rfl hih'
theorem s21n (b : Bd) (s : ByteArray) (hb : Few b) (hs : s.size ≤ 1000000) (hk : wordK s = -1) : Sp cf 21 [bE b, .str s] (encWord (wordB b s)) := by
  have h37 := s37 hcf b hb.mid
  have h38 := s38 hcf s hs
  have q0 : ((⟨(upL s.toList).toArray⟩ : ByteArray).toList == (⟨#[73, 70]⟩ : ByteArray).toList) = false := word_none hk (w := [73, 70]) (by decide)
  have q1 : ((⟨(upL s.toList).toArray⟩ : ByteArray).toList == (⟨#[69, 76, 83, 69]⟩ : ByteArray).toList) = false := word_none hk (w := [69, 76, 83, 69]) (by decide)
  have q2 : ((⟨(upL s.toList).toArray⟩ : ByteArray).toList == (⟨#[84, 72, 69, 78]⟩ : ByteArray).toList) = false := word_none hk (w := [84, 72, 69, 78]) (by decide)
  have q3 : ((⟨(upL s.toList).toArray⟩ : ByteArray).toList == (⟨#[66, 69, 71, 73, 78]⟩ : ByteArray).toList) = false := word_none hk (w := [66, 69, 71, 73, 78]) (by decide)
  have q4 : ((⟨(upL s.toList).toArray⟩ : ByteArray).toList == (⟨#[65, 71, 65, 73, 78]⟩ : ByteArray).toList) = false := word_none hk (w := [65, 71, 65, 73, 78]) (by decide)
  have q5 : ((⟨(upL s.toList).toArray⟩ : ByteArray).toList == (⟨#[85, 78, 84, 73, 76]⟩ : ByteArray).toList) = false := word_none hk (w := [85, 78, 84, 73, 76]) (by decide)
  have q6 : ((⟨(upL s.toList).toArray⟩ : ByteArray).toList == (⟨#[87, 72, 73, 76, 69]⟩ : ByteArray).toList) = false := word_none hk (w := [87, 72, 73, 76, 69]) (by decide)
  have q7 : ((⟨(upL s.toList).toArray⟩ : ByteArray).toList == (⟨#[82, 69, 80, 69, 65, 84]⟩ : ByteArray).toList) = false := word_none hk (w := [82, 69, 80, 69, 65, 84]) (by decide)
  have q8 : ((⟨(upL s.toList).toArray⟩ : ByteArray).toList == (⟨#[68, 79]⟩ : ByteArray).toList) = false := word_none hk (w := [68, 79]) (by decide)
  have q9 : ((⟨(upL s.toList).toArray⟩ : ByteArray).toList == (⟨#[63, 68, 79]⟩ : ByteArray).toList) = false := word_none hk (w := [63, 68, 79]) (by decide)
  have q10 : ((⟨(upL s.toList).toArray⟩ : ByteArray).toList == (⟨#[76, 79, 79, 80]⟩ : ByteArray).toList) = false := word_none hk (w := [76, 79, 79, 80]) (by decide)
  have q11 : ((⟨(upL s.toList).toArray⟩ : ByteArray).toList == (⟨#[43, 76, 79, 79, 80]⟩ : ByteArray).toList) = false := word_none hk (w := [43, 76, 79, 79, 80]) (by decide)
  have q12 : ((⟨(upL s.toList).toArray⟩ : ByteArray).toList == (⟨#[76, 69, 65, 86, 69]⟩ : ByteArray).toList) = false := word_none hk (w := [76, 69, 65, 86, 69]) (by decide)
  refine sp_of hcf env21 ?_
  have e : wordB b s = _ := if_pos hk
  rw [e]
  simp only [encWord, bE, slP] at h37 ⊢
  conv => arg 2; simp only [ir21]
  conv => arg 3; simp only [ir21, Go.Proofs.YtcphpiboamlanaaEv.start, List.length, Nat.reduceAdd, Nat.reduceSub, List.reduceReplicate, List.append_eq, List.cons_append, List.nil_append]
  conv => arg 4; simp only [heapOf]
  try conv => arg 5; simp only [List.length, Nat.reduceAdd]
  try conv => arg 6; simp only [List.length, Nat.reduceAdd]
  refine EVgo9 (And.intro (q0) ( And.intro (q1) ( And.intro (q2) ( And.intro (q3) ( And.intro (q4) ( And.intro (q5) ( And.intro (q6) ( And.intro (q7) ( And.intro (q8) ( And.intro (q9) ( And.intro (q10) ( And.intro (q11) (q12))))))))))))) (h37) (h38) trivial trivial trivial trivial trivial trivial trivial trivial trivial ?_
  exact EVret trivial
theorem s21_0 (b : Bd) (s : ByteArray) (hb : Few b) (hs : s.size ≤ 1000000) (hk : wordK s = ((0 : Nat) : Int)) : Sp cf 21 [bE b, .str s] (encWord (wordB b s)) := by
  have h37 := s37 hcf b hb.mid
  have h38 := s38 hcf s hs
  have hu : upL s.toList = [73, 70] := word_is hk
  have ho := ok_ownB b
  have hf := few_ownB hb
  have q0 : ((⟨(upL s.toList).toArray⟩ : ByteArray).toList == (⟨#[73, 70]⟩ : ByteArray).toList) = true := (cmpS _ [73, 70]).trans (by rw [hu]; decide)
  have h := s39_0 hcf (ownB b) hf ho _ hu
  have hw : encWord (wordB b s) = .tup [bE (wordF 0 (ownB b)).2, .bool true, .int .i64 (wordF 0 (ownB b)).1] := by
    have e : wordB b s = _ := if_neg (by rw [hk]; decide)
    rw [e, hk]
    show encWord (if (wordF 0 (ownB b)).1 = 0 then _ else _) = _
    by_cases h0 : (wordF 0 (ownB b)).1 = 0
    · rw [if_pos h0]
      simp only [encWord, h0, Int.toNat_natCast]
    · rw [if_neg h0]
      rcases lead_k (k := 0) (by decide) (ownB b) with q | q
      · exact absurd q h0
      · rw [q.2]
        simp only [encWord, Int.toNat_natCast]
  refine sp_of hcf env21 ?_
  rw [hw]
  generalize wordF 0 (ownB b) = z at *
  simp only [encW, bE, slP] at h37 h ⊢
  conv => arg 2; simp only [ir21]
  conv => arg 3; simp only [ir21, Go.Proofs.YtcphpiboamlanaaEv.start, List.length, Nat.reduceAdd, Nat.reduceSub, List.reduceReplicate, List.append_eq, List.cons_append, List.nil_append]
  conv => arg 4; simp only [heapOf]
  try conv => arg 5; simp only [List.length, Nat.reduceAdd]
  try conv => arg 6; simp only [List.length, Nat.reduceAdd]
  refine EVgo9 (q0) (h37) (h38) (h) trivial trivial trivial trivial trivial trivial trivial trivial ?_
  exact EVret trivial
theorem s21_1 (b : Bd) (s : ByteArray) (hb : Few b) (hs : s.size ≤ 1000000) (hk : wordK s = ((1 : Nat) : Int)) : Sp cf 21 [bE b, .str s] (encWord (wordB b s)) := by
  have h37 := s37 hcf b hb.mid
  have h38 := s38 hcf s hs
  have hu : upL s.toList = [69, 76, 83, 69] := word_is hk
  have ho := ok_ownB b
  have hf := few_ownB hb
  have q0 : ((⟨(upL s.toList).toArray⟩ : ByteArray).toList == (⟨#[73, 70]⟩ : ByteArray).toList) = false := (cmpS _ [73, 70]).trans (by rw [hu]; decide)
  have q3 : ((⟨(upL s.toList).toArray⟩ : ByteArray).toList == (⟨#[66, 69, 71, 73, 78]⟩ : ByteArray).toList) = false := (cmpS _ [66, 69, 71, 73, 78]).trans (by rw [hu]; decide)
  have q8 : ((⟨(upL s.toList).toArray⟩ : ByteArray).toList == (⟨#[68, 79]⟩ : ByteArray).toList) = false := (cmpS _ [68, 79]).trans (by rw [hu]; decide)
  have q9 : ((⟨(upL s.toList).toArray⟩ : ByteArray).toList == (⟨#[63, 68, 79]⟩ : ByteArray).toList) = false := (cmpS _ [63, 68, 79]).trans (by rw [hu]; decide)
  have q1 : ((⟨(upL s.toList).toArray⟩ : ByteArray).toList == (⟨#[69, 76, 83, 69]⟩ : ByteArray).toList) = true := (cmpS _ [69, 76, 83, 69]).trans (by rw [hu]; decide)
  have h := s40_1 hcf (ownB b) hf ho _ hu
  have hw : encWord (wordB b s) = .tup [bE (wordF 1 (ownB b)).2, .bool true, .int .i64 (wordF 1 (ownB b)).1] := by
    have e : wordB b s = _ := if_neg (by rw [hk]; decide)
    rw [e, hk]
    show encWord (if (wordF 1 (ownB b)).1 = 0 then _ else _) = _
    by_cases h0 : (wordF 1 (ownB b)).1 = 0
    · rw [if_pos h0]
      simp only [encWord, h0, Int.toNat_natCast]
    · rw [if_neg h0]
      rcases lead_k (k := 1) (by decide) (ownB b) with q | q
      · exact absurd q h0
      · rw [q.2]
        simp only [encWord, Int.toNat_natCast]
  refine sp_of hcf env21 ?_
  rw [hw]
  generalize wordF 1 (ownB b) = z at *
  simp only [encW, bE, slP] at h37 h ⊢
  conv => arg 2; simp only [ir21]
  conv => arg 3; simp only [ir21, Go.Proofs.YtcphpiboamlanaaEv.start, List.length, Nat.reduceAdd, Nat.reduceSub, List.reduceReplicate, List.append_eq, List.cons_append, List.nil_append]
  conv => arg 4; simp only [heapOf]
  try conv => arg 5; simp only [List.length, Nat.reduceAdd]
  try conv => arg 6; simp only [List.length, Nat.reduceAdd]
  refine EVgo9 (And.intro (q0) ( And.intro (q3) ( And.intro (q8) ( And.intro (q9) (q1))))) (h37) (h38) (h) trivial trivial trivial trivial trivial trivial trivial trivial ?_
  exact EVret trivial
theorem s21_2 (b : Bd) (s : ByteArray) (hb : Few b) (hs : s.size ≤ 1000000) (hk : wordK s = ((2 : Nat) : Int)) : Sp cf 21 [bE b, .str s] (encWord (wordB b s)) := by
  have h37 := s37 hcf b hb.mid
  have h38 := s38 hcf s hs
  have hu : upL s.toList = [84, 72, 69, 78] := word_is hk
  have ho := ok_ownB b
  have hf := few_ownB hb
  have q0 : ((⟨(upL s.toList).toArray⟩ : ByteArray).toList == (⟨#[73, 70]⟩ : ByteArray).toList) = false := (cmpS _ [73, 70]).trans (by rw [hu]; decide)
  have q3 : ((⟨(upL s.toList).toArray⟩ : ByteArray).toList == (⟨#[66, 69, 71, 73, 78]⟩ : ByteArray).toList) = false := (cmpS _ [66, 69, 71, 73, 78]).trans (by rw [hu]; decide)
  have q8 : ((⟨(upL s.toList).toArray⟩ : ByteArray).toList == (⟨#[68, 79]⟩ : ByteArray).toList) = false := (cmpS _ [68, 79]).trans (by rw [hu]; decide)
  have q9 : ((⟨(upL s.toList).toArray⟩ : ByteArray).toList == (⟨#[63, 68, 79]⟩ : ByteArray).toList) = false := (cmpS _ [63, 68, 79]).trans (by rw [hu]; decide)
  have q1 : ((⟨(upL s.toList).toArray⟩ : ByteArray).toList == (⟨#[69, 76, 83, 69]⟩ : ByteArray).toList) = false := (cmpS _ [69, 76, 83, 69]).trans (by rw [hu]; decide)
  have q2 : ((⟨(upL s.toList).toArray⟩ : ByteArray).toList == (⟨#[84, 72, 69, 78]⟩ : ByteArray).toList) = true := (cmpS _ [84, 72, 69, 78]).trans (by rw [hu]; decide)
  have h := s40_2 hcf (ownB b) hf ho _ hu
  have hw : encWord (wordB b s) = .tup [bE (wordF 2 (ownB b)).2, .bool true, .int .i64 (wordF 2 (ownB b)).1] := by
    have e : wordB b s = _ := if_neg (by rw [hk]; decide)
    rw [e, hk]
    show encWord (if (wordF 2 (ownB b)).1 = 0 then _ else _) = _
    by_cases h0 : (wordF 2 (ownB b)).1 = 0
    · rw [if_pos h0]
      simp only [encWord, h0, Int.toNat_natCast]
    · rw [if_neg h0]
      rcases lead_k (k := 2) (by decide) (ownB b) with q | q
      · exact absurd q h0
      · rw [q.2]
        simp only [encWord, Int.toNat_natCast]
  refine sp_of hcf env21 ?_
  rw [hw]
  generalize wordF 2 (ownB b) = z at *
  simp only [encW, bE, slP] at h37 h ⊢
  conv => arg 2; simp only [ir21]
  conv => arg 3; simp only [ir21, Go.Proofs.YtcphpiboamlanaaEv.start, List.length, Nat.reduceAdd, Nat.reduceSub, List.reduceReplicate, List.append_eq, List.cons_append, List.nil_append]
  conv => arg 4; simp only [heapOf]
  try conv => arg 5; simp only [List.length, Nat.reduceAdd]
  try conv => arg 6; simp only [List.length, Nat.reduceAdd]
  refine EVgo9 (And.intro (q0) ( And.intro (q3) ( And.intro (q8) ( And.intro (q9) ( And.intro (q1) (q2)))))) (h37) (h38) (h) trivial trivial trivial trivial trivial trivial trivial trivial ?_
  exact EVret trivial
theorem s21_3 (b : Bd) (s : ByteArray) (hb : Few b) (hs : s.size ≤ 1000000) (hk : wordK s = ((3 : Nat) : Int)) : Sp cf 21 [bE b, .str s] (encWord (wordB b s)) := by
  have h37 := s37 hcf b hb.mid
  have h38 := s38 hcf s hs
  have hu : upL s.toList = [66, 69, 71, 73, 78] := word_is hk
  have ho := ok_ownB b
  have hf := few_ownB hb
  have q0 : ((⟨(upL s.toList).toArray⟩ : ByteArray).toList == (⟨#[73, 70]⟩ : ByteArray).toList) = false := (cmpS _ [73, 70]).trans (by rw [hu]; decide)
  have q3 : ((⟨(upL s.toList).toArray⟩ : ByteArray).toList == (⟨#[66, 69, 71, 73, 78]⟩ : ByteArray).toList) = true := (cmpS _ [66, 69, 71, 73, 78]).trans (by rw [hu]; decide)
  have h := s39_3 hcf (ownB b) hf ho _ hu
  have hw : encWord (wordB b s) = .tup [bE (wordF 3 (ownB b)).2, .bool true, .int .i64 (wordF 3 (ownB b)).1] := by
    have e : wordB b s = _ := if_neg (by rw [hk]; decide)
    rw [e, hk]
    show encWord (if (wordF 3 (ownB b)).1 = 0 then _ else _) = _
    by_cases h0 : (wordF 3 (ownB b)).1 = 0
    · rw [if_pos h0]
      simp only [encWord, h0, Int.toNat_natCast]
    · rw [if_neg h0]
      rcases lead_k (k := 3) (by decide) (ownB b) with q | q
      · exact absurd q h0
      · rw [q.2]
        simp only [encWord, Int.toNat_natCast]
  refine sp_of hcf env21 ?_
  rw [hw]
  generalize wordF 3 (ownB b) = z at *
  simp only [encW, bE, slP] at h37 h ⊢
  conv => arg 2; simp only [ir21]
  conv => arg 3; simp only [ir21, Go.Proofs.YtcphpiboamlanaaEv.start, List.length, Nat.reduceAdd, Nat.reduceSub, List.reduceReplicate, List.append_eq, List.cons_append, List.nil_append]
  conv => arg 4; simp only [heapOf]
  try conv => arg 5; simp only [List.length, Nat.reduceAdd]
  try conv => arg 6; simp only [List.length, Nat.reduceAdd]
  refine EVgo9 (And.intro (q0) (q3)) (h37) (h38) (h) trivial trivial trivial trivial trivial trivial trivial trivial ?_
  exact EVret trivial
theorem s21_4 (b : Bd) (s : ByteArray) (hb : Few b) (hs : s.size ≤ 1000000) (hk : wordK s = ((4 : Nat) : Int)) : Sp cf 21 [bE b, .str s] (encWord (wordB b s)) := by
  have h37 := s37 hcf b hb.mid
  have h38 := s38 hcf s hs
  have hu : upL s.toList = [65, 71, 65, 73, 78] := word_is hk
  have ho := ok_ownB b
  have hf := few_ownB hb
  have q0 : ((⟨(upL s.toList).toArray⟩ : ByteArray).toList == (⟨#[73, 70]⟩ : ByteArray).toList) = false := (cmpS _ [73, 70]).trans (by rw [hu]; decide)
  have q3 : ((⟨(upL s.toList).toArray⟩ : ByteArray).toList == (⟨#[66, 69, 71, 73, 78]⟩ : ByteArray).toList) = false := (cmpS _ [66, 69, 71, 73, 78]).trans (by rw [hu]; decide)
  have q8 : ((⟨(upL s.toList).toArray⟩ : ByteArray).toList == (⟨#[68, 79]⟩ : ByteArray).toList) = false := (cmpS _ [68, 79]).trans (by rw [hu]; decide)
  have q9 : ((⟨(upL s.toList).toArray⟩ : ByteArray).toList == (⟨#[63, 68, 79]⟩ : ByteArray).toList) = false := (cmpS _ [63, 68, 79]).trans (by rw [hu]; decide)
  have q1 : ((⟨(upL s.toList).toArray⟩ : ByteArray).toList == (⟨#[69, 76, 83, 69]⟩ : ByteArray).toList) = false := (cmpS _ [69, 76, 83, 69]).trans (by rw [hu]; decide)
  have q2 : ((⟨(upL s.toList).toArray⟩ : ByteArray).toList == (⟨#[84, 72, 69, 78]⟩ : ByteArray).toList) = false := (cmpS _ [84, 72, 69, 78]).trans (by rw [hu]; decide)
  have q4 : ((⟨(upL s.toList).toArray⟩ : ByteArray).toList == (⟨#[65, 71, 65, 73, 78]⟩ : ByteArray).toList) = true := (cmpS _ [65, 71, 65, 73, 78]).trans (by rw [hu]; decide)
  have h := s41_4 hcf (ownB b) hf ho _ hu
  have hw : encWord (wordB b s) = .tup [bE (wordF 4 (ownB b)).2, .bool true, .int .i64 (wordF 4 (ownB b)).1] := by
    have e : wordB b s = _ := if_neg (by rw [hk]; decide)
    rw [e, hk]
    show encWord (if (wordF 4 (ownB b)).1 = 0 then _ else _) = _
    by_cases h0 : (wordF 4 (ownB b)).1 = 0
    · rw [if_pos h0]
      simp only [encWord, h0, Int.toNat_natCast]
    · rw [if_neg h0]
      rcases lead_k (k := 4) (by decide) (ownB b) with q | q
      · exact absurd q h0
      · rw [q.2]
        simp only [encWord, Int.toNat_natCast]
  refine sp_of hcf env21 ?_
  rw [hw]
  generalize wordF 4 (ownB b) = z at *
  simp only [encW, bE, slP] at h37 h ⊢
  conv => arg 2; simp only [ir21]
  conv => arg 3; simp only [ir21, Go.Proofs.YtcphpiboamlanaaEv.start, List.length, Nat.reduceAdd, Nat.reduceSub, List.reduceReplicate, List.append_eq, List.cons_append, List.nil_append]
  conv => arg 4; simp only [heapOf]
  try conv => arg 5; simp only [List.length, Nat.reduceAdd]
  try conv => arg 6; simp only [List.length, Nat.reduceAdd]
  refine EVgo9 (And.intro (q0) ( And.intro (q3) ( And.intro (q8) ( And.intro (q9) ( And.intro (q1) ( And.intro (q2) (q4))))))) (h37) (h38) (h) trivial trivial trivial trivial trivial trivial trivial trivial ?_
  exact EVret trivial
theorem s21_5 (b : Bd) (s : ByteArray) (hb : Few b) (hs : s.size ≤ 1000000) (hk : wordK s = ((5 : Nat) : Int)) : Sp cf 21 [bE b, .str s] (encWord (wordB b s)) := by
  have h37 := s37 hcf b hb.mid
  have h38 := s38 hcf s hs
  have hu : upL s.toList = [85, 78, 84, 73, 76] := word_is hk
  have ho := ok_ownB b
  have hf := few_ownB hb
  have q0 : ((⟨(upL s.toList).toArray⟩ : ByteArray).toList == (⟨#[73, 70]⟩ : ByteArray).toList) = false := (cmpS _ [73, 70]).trans (by rw [hu]; decide)
  have q3 : ((⟨(upL s.toList).toArray⟩ : ByteArray).toList == (⟨#[66, 69, 71, 73, 78]⟩ : ByteArray).toList) = false := (cmpS _ [66, 69, 71, 73, 78]).trans (by rw [hu]; decide)
  have q8 : ((⟨(upL s.toList).toArray⟩ : ByteArray).toList == (⟨#[68, 79]⟩ : ByteArray).toList) = false := (cmpS _ [68, 79]).trans (by rw [hu]; decide)
  have q9 : ((⟨(upL s.toList).toArray⟩ : ByteArray).toList == (⟨#[63, 68, 79]⟩ : ByteArray).toList) = false := (cmpS _ [63, 68, 79]).trans (by rw [hu]; decide)
  have q1 : ((⟨(upL s.toList).toArray⟩ : ByteArray).toList == (⟨#[69, 76, 83, 69]⟩ : ByteArray).toList) = false := (cmpS _ [69, 76, 83, 69]).trans (by rw [hu]; decide)
  have q2 : ((⟨(upL s.toList).toArray⟩ : ByteArray).toList == (⟨#[84, 72, 69, 78]⟩ : ByteArray).toList) = false := (cmpS _ [84, 72, 69, 78]).trans (by rw [hu]; decide)
  have q4 : ((⟨(upL s.toList).toArray⟩ : ByteArray).toList == (⟨#[65, 71, 65, 73, 78]⟩ : ByteArray).toList) = false := (cmpS _ [65, 71, 65, 73, 78]).trans (by rw [hu]; decide)
  have q5 : ((⟨(upL s.toList).toArray⟩ : ByteArray).toList == (⟨#[85, 78, 84, 73, 76]⟩ : ByteArray).toList) = true := (cmpS _ [85, 78, 84, 73, 76]).trans (by rw [hu]; decide)
  have h := s41_5 hcf (ownB b) hf ho _ hu
  have hw : encWord (wordB b s) = .tup [bE (wordF 5 (ownB b)).2, .bool true, .int .i64 (wordF 5 (ownB b)).1] := by
    have e : wordB b s = _ := if_neg (by rw [hk]; decide)
    rw [e, hk]
    show encWord (if (wordF 5 (ownB b)).1 = 0 then _ else _) = _
    by_cases h0 : (wordF 5 (ownB b)).1 = 0
    · rw [if_pos h0]
      simp only [encWord, h0, Int.toNat_natCast]
    · rw [if_neg h0]
      rcases lead_k (k := 5) (by decide) (ownB b) with q | q
      · exact absurd q h0
      · rw [q.2]
        simp only [encWord, Int.toNat_natCast]
  refine sp_of hcf env21 ?_
  rw [hw]
  generalize wordF 5 (ownB b) = z at *
  simp only [encW, bE, slP] at h37 h ⊢
  conv => arg 2; simp only [ir21]
  conv => arg 3; simp only [ir21, Go.Proofs.YtcphpiboamlanaaEv.start, List.length, Nat.reduceAdd, Nat.reduceSub, List.reduceReplicate, List.append_eq, List.cons_append, List.nil_append]
  conv => arg 4; simp only [heapOf]
  try conv => arg 5; simp only [List.length, Nat.reduceAdd]
  try conv => arg 6; simp only [List.length, Nat.reduceAdd]
  refine EVgo9 (And.intro (q0) ( And.intro (q3) ( And.intro (q8) ( And.intro (q9) ( And.intro (q1) ( And.intro (q2) ( And.intro (q4) (q5)))))))) (h37) (h38) (h) trivial trivial trivial trivial trivial trivial trivial trivial ?_
  exact EVret trivial
theorem s21_6 (b : Bd) (s : ByteArray) (hb : Few b) (hs : s.size ≤ 1000000) (hk : wordK s = ((6 : Nat) : Int)) : Sp cf 21 [bE b, .str s] (encWord (wordB b s)) := by
  have h37 := s37 hcf b hb.mid
  have h38 := s38 hcf s hs
  have hu : upL s.toList = [87, 72, 73, 76, 69] := word_is hk
  have ho := ok_ownB b
  have hf := few_ownB hb
  have q0 : ((⟨(upL s.toList).toArray⟩ : ByteArray).toList == (⟨#[73, 70]⟩ : ByteArray).toList) = false := (cmpS _ [73, 70]).trans (by rw [hu]; decide)
  have q3 : ((⟨(upL s.toList).toArray⟩ : ByteArray).toList == (⟨#[66, 69, 71, 73, 78]⟩ : ByteArray).toList) = false := (cmpS _ [66, 69, 71, 73, 78]).trans (by rw [hu]; decide)
  have q8 : ((⟨(upL s.toList).toArray⟩ : ByteArray).toList == (⟨#[68, 79]⟩ : ByteArray).toList) = false := (cmpS _ [68, 79]).trans (by rw [hu]; decide)
  have q9 : ((⟨(upL s.toList).toArray⟩ : ByteArray).toList == (⟨#[63, 68, 79]⟩ : ByteArray).toList) = false := (cmpS _ [63, 68, 79]).trans (by rw [hu]; decide)
  have q1 : ((⟨(upL s.toList).toArray⟩ : ByteArray).toList == (⟨#[69, 76, 83, 69]⟩ : ByteArray).toList) = false := (cmpS _ [69, 76, 83, 69]).trans (by rw [hu]; decide)
  have q2 : ((⟨(upL s.toList).toArray⟩ : ByteArray).toList == (⟨#[84, 72, 69, 78]⟩ : ByteArray).toList) = false := (cmpS _ [84, 72, 69, 78]).trans (by rw [hu]; decide)
  have q4 : ((⟨(upL s.toList).toArray⟩ : ByteArray).toList == (⟨#[65, 71, 65, 73, 78]⟩ : ByteArray).toList) = false := (cmpS _ [65, 71, 65, 73, 78]).trans (by rw [hu]; decide)
  have q5 : ((⟨(upL s.toList).toArray⟩ : ByteArray).toList == (⟨#[85, 78, 84, 73, 76]⟩ : ByteArray).toList) = false := (cmpS _ [85, 78, 84, 73, 76]).trans (by rw [hu]; decide)
  have q6 : ((⟨(upL s.toList).toArray⟩ : ByteArray).toList == (⟨#[87, 72, 73, 76, 69]⟩ : ByteArray).toList) = true := (cmpS _ [87, 72, 73, 76, 69]).trans (by rw [hu]; decide)
  have h := s41_6 hcf (ownB b) hf ho _ hu
  have hw : encWord (wordB b s) = .tup [bE (wordF 6 (ownB b)).2, .bool true, .int .i64 (wordF 6 (ownB b)).1] := by
    have e : wordB b s = _ := if_neg (by rw [hk]; decide)
    rw [e, hk]
    show encWord (if (wordF 6 (ownB b)).1 = 0 then _ else _) = _
    by_cases h0 : (wordF 6 (ownB b)).1 = 0
    · rw [if_pos h0]
      simp only [encWord, h0, Int.toNat_natCast]
    · rw [if_neg h0]
      rcases lead_k (k := 6) (by decide) (ownB b) with q | q
      · exact absurd q h0
      · rw [q.2]
        simp only [encWord, Int.toNat_natCast]
  refine sp_of hcf env21 ?_
  rw [hw]
  generalize wordF 6 (ownB b) = z at *
  simp only [encW, bE, slP] at h37 h ⊢
  conv => arg 2; simp only [ir21]
  conv => arg 3; simp only [ir21, Go.Proofs.YtcphpiboamlanaaEv.start, List.length, Nat.reduceAdd, Nat.reduceSub, List.reduceReplicate, List.append_eq, List.cons_append, List.nil_append]
  conv => arg 4; simp only [heapOf]
  try conv => arg 5; simp only [List.length, Nat.reduceAdd]
  try conv => arg 6; simp only [List.length, Nat.reduceAdd]
  refine EVgo9 (And.intro (q0) ( And.intro (q3) ( And.intro (q8) ( And.intro (q9) ( And.intro (q1) ( And.intro (q2) ( And.intro (q4) ( And.intro (q5) (q6))))))))) (h37) (h38) (h) trivial trivial trivial trivial trivial trivial trivial trivial ?_
  exact EVret trivial
theorem s21_7 (b : Bd) (s : ByteArray) (hb : Few b) (hs : s.size ≤ 1000000) (hk : wordK s = ((7 : Nat) : Int)) : Sp cf 21 [bE b, .str s] (encWord (wordB b s)) := by
  have h37 := s37 hcf b hb.mid
  have h38 := s38 hcf s hs
  have hu : upL s.toList = [82, 69, 80, 69, 65, 84] := word_is hk
  have ho := ok_ownB b
  have hf := few_ownB hb
  have q0 : ((⟨(upL s.toList).toArray⟩ : ByteArray).toList == (⟨#[73, 70]⟩ : ByteArray).toList) = false := (cmpS _ [73, 70]).trans (by rw [hu]; decide)
  have q3 : ((⟨(upL s.toList).toArray⟩ : ByteArray).toList == (⟨#[66, 69, 71, 73, 78]⟩ : ByteArray).toList) = false := (cmpS _ [66, 69, 71, 73, 78]).trans (by rw [hu]; decide)
  have q8 : ((⟨(upL s.toList).toArray⟩ : ByteArray).toList == (⟨#[68, 79]⟩ : ByteArray).toList) = false := (cmpS _ [68, 79]).trans (by rw [hu]; decide)
  have q9 : ((⟨(upL s.toList).toArray⟩ : ByteArray).toList == (⟨#[63, 68, 79]⟩ : ByteArray).toList) = false := (cmpS _ [63, 68, 79]).trans (by rw [hu]; decide)
  have q1 : ((⟨(upL s.toList).toArray⟩ : ByteArray).toList == (⟨#[69, 76, 83, 69]⟩ : ByteArray).toList) = false := (cmpS _ [69, 76, 83, 69]).trans (by rw [hu]; decide)
  have q2 : ((⟨(upL s.toList).toArray⟩ : ByteArray).toList == (⟨#[84, 72, 69, 78]⟩ : ByteArray).toList) = false := (cmpS _ [84, 72, 69, 78]).trans (by rw [hu]; decide)
  have q4 : ((⟨(upL s.toList).toArray⟩ : ByteArray).toList == (⟨#[65, 71, 65, 73, 78]⟩ : ByteArray).toList) = false := (cmpS _ [65, 71, 65, 73, 78]).trans (by rw [hu]; decide)
  have q5 : ((⟨(upL s.toList).toArray⟩ : ByteArray).toList == (⟨#[85, 78, 84, 73, 76]⟩ : ByteArray).toList) = false := (cmpS _ [85, 78, 84, 73, 76]).trans (by rw [hu]; decide)
  have q6 : ((⟨(upL s.toList).toArray⟩ : ByteArray).toList == (⟨#[87, 72, 73, 76, 69]⟩ : ByteArray).toList) = false := (cmpS _ [87, 72, 73, 76, 69]).trans (by rw [hu]; decide)
  have q7 : ((⟨(upL s.toList).toArray⟩ : ByteArray).toList == (⟨#[82, 69, 80, 69, 65, 84]⟩ : ByteArray).toList) = true := (cmpS _ [82, 69, 80, 69, 65, 84]).trans (by rw [hu]; decide)
  have h := s41_7 hcf (ownB b) hf ho _ hu
  have hw : encWord (wordB b s) = .tup [bE (wordF 7 (ownB b)).2, .bool true, .int .i64 (wordF 7 (ownB b)).1] := by
    have e : wordB b s = _ := if_neg (by rw [hk]; decide)
    rw [e, hk]
    show encWord (if (wordF 7 (ownB b)).1 = 0 then _ else _) = _
    by_cases h0 : (wordF 7 (ownB b)).1 = 0
    · rw [if_pos h0]
      simp only [encWord, h0, Int.toNat_natCast]
    · rw [if_neg h0]
      rcases lead_k (k := 7) (by decide) (ownB b) with q | q
      · exact absurd q h0
      · rw [q.2]
        simp only [encWord, Int.toNat_natCast]
  refine sp_of hcf env21 ?_
  rw [hw]
  generalize wordF 7 (ownB b) = z at *
  simp only [encW, bE, slP] at h37 h ⊢
  conv => arg 2; simp only [ir21]
  conv => arg 3; simp only [ir21, Go.Proofs.YtcphpiboamlanaaEv.start, List.length, Nat.reduceAdd, Nat.reduceSub, List.reduceReplicate, List.append_eq, List.cons_append, List.nil_append]
  conv => arg 4; simp only [heapOf]
  try conv => arg 5; simp only [List.length, Nat.reduceAdd]
  try conv => arg 6; simp only [List.length, Nat.reduceAdd]
  refine EVgo9 (And.intro (q0) ( And.intro (q3) ( And.intro (q8) ( And.intro (q9) ( And.intro (q1) ( And.intro (q2) ( And.intro (q4) ( And.intro (q5) ( And.intro (q6) (q7)))))))))) (h37) (h38) (h) trivial trivial trivial trivial trivial trivial trivial trivial ?_
  exact EVret trivial
theorem s21_8 (b : Bd) (s : ByteArray) (hb : Few b) (hs : s.size ≤ 1000000) (hk : wordK s = ((8 : Nat) : Int)) : Sp cf 21 [bE b, .str s] (encWord (wordB b s)) := by
  have h37 := s37 hcf b hb.mid
  have h38 := s38 hcf s hs
  have hu : upL s.toList = [68, 79] := word_is hk
  have ho := ok_ownB b
  have hf := few_ownB hb
  have q0 : ((⟨(upL s.toList).toArray⟩ : ByteArray).toList == (⟨#[73, 70]⟩ : ByteArray).toList) = false := (cmpS _ [73, 70]).trans (by rw [hu]; decide)
  have q3 : ((⟨(upL s.toList).toArray⟩ : ByteArray).toList == (⟨#[66, 69, 71, 73, 78]⟩ : ByteArray).toList) = false := (cmpS _ [66, 69, 71, 73, 78]).trans (by rw [hu]; decide)
  have q8 : ((⟨(upL s.toList).toArray⟩ : ByteArray).toList == (⟨#[68, 79]⟩ : ByteArray).toList) = true := (cmpS _ [68, 79]).trans (by rw [hu]; decide)
  have h := s39_8 hcf (ownB b) hf ho _ hu
  have hw : encWord (wordB b s) = .tup [bE (wordF 8 (ownB b)).2, .bool true, .int .i64 (wordF 8 (ownB b)).1] := by
    have e : wordB b s = _ := if_neg (by rw [hk]; decide)
    rw [e, hk]
    show encWord (if (wordF 8 (ownB b)).1 = 0 then _ else _) = _
    by_cases h0 : (wordF 8 (ownB b)).1 = 0
    · rw [if_pos h0]
      simp only [encWord, h0, Int.toNat_natCast]
    · rw [if_neg h0]
      rcases lead_k (k := 8) (by decide) (ownB b) with q | q
      · exact absurd q h0
      · rw [q.2]
        simp only [encWord, Int.toNat_natCast]
  refine sp_of hcf env21 ?_
  rw [hw]
  generalize wordF 8 (ownB b) = z at *
  simp only [encW, bE, slP] at h37 h ⊢
  conv => arg 2; simp only [ir21]
  conv => arg 3; simp only [ir21, Go.Proofs.YtcphpiboamlanaaEv.start, List.length, Nat.reduceAdd, Nat.reduceSub, List.reduceReplicate, List.append_eq, List.cons_append, List.nil_append]
  conv => arg 4; simp only [heapOf]
  try conv => arg 5; simp only [List.length, Nat.reduceAdd]
  try conv => arg 6; simp only [List.length, Nat.reduceAdd]
  refine EVgo9 (And.intro (q0) ( And.intro (q3) (q8))) (h37) (h38) (h) trivial trivial trivial trivial trivial trivial trivial trivial ?_
  exact EVret trivial
theorem s21_9 (b : Bd) (s : ByteArray) (hb : Few b) (hs : s.size ≤ 1000000) (hk : wordK s = ((9 : Nat) : Int)) : Sp cf 21 [bE b, .str s] (encWord (wordB b s)) := by
  have h37 := s37 hcf b hb.mid
  have h38 := s38 hcf s hs
  have hu : upL s.toList = [63, 68, 79] := word_is hk
  have ho := ok_ownB b
  have hf := few_ownB hb
  have q0 : ((⟨(upL s.toList).toArray⟩ : ByteArray).toList == (⟨#[73, 70]⟩ : ByteArray).toList) = false := (cmpS _ [73, 70]).trans (by rw [hu]; decide)
  have q3 : ((⟨(upL s.toList).toArray⟩ : ByteArray).toList == (⟨#[66, 69, 71, 73, 78]⟩ : ByteArray).toList) = false := (cmpS _ [66, 69, 71, 73, 78]).trans (by rw [hu]; decide)
  have q8 : ((⟨(upL s.toList).toArray⟩ : ByteArray).toList == (⟨#[68, 79]⟩ : ByteArray).toList) = false := (cmpS _ [68, 79]).trans (by rw [hu]; decide)
  have q9 : ((⟨(upL s.toList).toArray⟩ : ByteArray).toList == (⟨#[63, 68, 79]⟩ : ByteArray).toList) = true := (cmpS _ [63, 68, 79]).trans (by rw [hu]; decide)
  have h := s39_9 hcf (ownB b) hf ho _ hu
  have hw : encWord (wordB b s) = .tup [bE (wordF 9 (ownB b)).2, .bool true, .int .i64 (wordF 9 (ownB b)).1] := by
    have e : wordB b s = _ := if_neg (by rw [hk]; decide)
    rw [e, hk]
    show encWord (if (wordF 9 (ownB b)).1 = 0 then _ else _) = _
    by_cases h0 : (wordF 9 (ownB b)).1 = 0
    · rw [if_pos h0]
      simp only [encWord, h0, Int.toNat_natCast]
    · rw [if_neg h0]
      rcases lead_k (k := 9) (by decide) (ownB b) with q | q
      · exact absurd q h0
      · rw [q.2]
        simp only [encWord, Int.toNat_natCast]
  refine sp_of hcf env21 ?_
  rw [hw]
  generalize wordF 9 (ownB b) = z at *
  simp only [encW, bE, slP] at h37 h ⊢
  conv => arg 2; simp only [ir21]
  conv => arg 3; simp only [ir21, Go.Proofs.YtcphpiboamlanaaEv.start, List.length, Nat.reduceAdd, Nat.reduceSub, List.reduceReplicate, List.append_eq, List.cons_append, List.nil_append]
  conv => arg 4; simp only [heapOf]
  try conv => arg 5; simp only [List.length, Nat.reduceAdd]
  try conv => arg 6; simp only [List.length, Nat.reduceAdd]
  refine EVgo9 (And.intro (q0) ( And.intro (q3) ( And.intro (q8) (q9)))) (h37) (h38) (h) trivial trivial trivial trivial trivial trivial trivial trivial ?_
  exact EVret trivial
theorem s21_10 (b : Bd) (s : ByteArray) (hb : Few b) (hs : s.size ≤ 1000000) (hk : wordK s = ((10 : Nat) : Int)) : Sp cf 21 [bE b, .str s] (encWord (wordB b s)) := by
  have h37 := s37 hcf b hb.mid
  have h38 := s38 hcf s hs
  have hu : upL s.toList = [76, 79, 79, 80] := word_is hk
  have ho := ok_ownB b
  have hf := few_ownB hb
  have q0 : ((⟨(upL s.toList).toArray⟩ : ByteArray).toList == (⟨#[73, 70]⟩ : ByteArray).toList) = false := (cmpS _ [73, 70]).trans (by rw [hu]; decide)
  have q3 : ((⟨(upL s.toList).toArray⟩ : ByteArray).toList == (⟨#[66, 69, 71, 73, 78]⟩ : ByteArray).toList) = false := (cmpS _ [66, 69, 71, 73, 78]).trans (by rw [hu]; decide)
  have q8 : ((⟨(upL s.toList).toArray⟩ : ByteArray).toList == (⟨#[68, 79]⟩ : ByteArray).toList) = false := (cmpS _ [68, 79]).trans (by rw [hu]; decide)
  have q9 : ((⟨(upL s.toList).toArray⟩ : ByteArray).toList == (⟨#[63, 68, 79]⟩ : ByteArray).toList) = false := (cmpS _ [63, 68, 79]).trans (by rw [hu]; decide)
  have q1 : ((⟨(upL s.toList).toArray⟩ : ByteArray).toList == (⟨#[69, 76, 83, 69]⟩ : ByteArray).toList) = false := (cmpS _ [69, 76, 83, 69]).trans (by rw [hu]; decide)
  have q2 : ((⟨(upL s.toList).toArray⟩ : ByteArray).toList == (⟨#[84, 72, 69, 78]⟩ : ByteArray).toList) = false := (cmpS _ [84, 72, 69, 78]).trans (by rw [hu]; decide)
  have q4 : ((⟨(upL s.toList).toArray⟩ : ByteArray).toList == (⟨#[65, 71, 65, 73, 78]⟩ : ByteArray).toList) = false := (cmpS _ [65, 71, 65, 73, 78]).trans (by rw [hu]; decide)
  have q5 : ((⟨(upL s.toList).toArray⟩ : ByteArray).toList == (⟨#[85, 78, 84, 73, 76]⟩ : ByteArray).toList) = false := (cmpS _ [85, 78, 84, 73, 76]).trans (by rw [hu]; decide)
  have q6 : ((⟨(upL s.toList).toArray⟩ : ByteArray).toList == (⟨#[87, 72, 73, 76, 69]⟩ : ByteArray).toList) = false := (cmpS _ [87, 72, 73, 76, 69]).trans (by rw [hu]; decide)
  have q7 : ((⟨(upL s.toList).toArray⟩ : ByteArray).toList == (⟨#[82, 69, 80, 69, 65, 84]⟩ : ByteArray).toList) = false := (cmpS _ [82, 69, 80, 69, 65, 84]).trans (by rw [hu]; decide)
  have q10 : ((⟨(upL s.toList).toArray⟩ : ByteArray).toList == (⟨#[76, 79, 79, 80]⟩ : ByteArray).toList) = true := (cmpS _ [76, 79, 79, 80]).trans (by rw [hu]; decide)
  have h := s42 hcf (ownB b) hf ho 7
  have hw : encWord (wordB b s) = .tup [bE (wordF 10 (ownB b)).2, .bool true, .int .i64 (wordF 10 (ownB b)).1] := by
    have e : wordB b s = _ := if_neg (by rw [hk]; decide)
    rw [e, hk]
    show encWord (if (wordF 10 (ownB b)).1 = 0 then _ else _) = _
    by_cases h0 : (wordF 10 (ownB b)).1 = 0
    · rw [if_pos h0]
      simp only [encWord, h0, Int.toNat_natCast]
    · rw [if_neg h0]
      rcases lead_k (k := 10) (by decide) (ownB b) with q | q
      · exact absurd q h0
      · rw [q.2]
        simp only [encWord, Int.toNat_natCast]
  refine sp_of hcf env21 ?_
  rw [hw]
  rw [show wordF 10 (ownB b) = closeW 7 (ownB b) from rfl]
  generalize closeW 7 (ownB b) = z at *
  simp only [encW, bE, slP] at h37 h ⊢
  conv => arg 2; simp only [ir21]
  conv => arg 3; simp only [ir21, Go.Proofs.YtcphpiboamlanaaEv.start, List.length, Nat.reduceAdd, Nat.reduceSub, List.reduceReplicate, List.append_eq, List.cons_append, List.nil_append]
  conv => arg 4; simp only [heapOf]
  try conv => arg 5; simp only [List.length, Nat.reduceAdd]
  try conv => arg 6; simp only [List.length, Nat.reduceAdd]
  refine EVgo9 (And.intro (q0) ( And.intro (q3) ( And.intro (q8) ( And.intro (q9) ( And.intro (q1) ( And.intro (q2) ( And.intro (q4) ( And.intro (q5) ( And.intro (q6) ( And.intro (q7) (q10))))))))))) (h37) (h38) (h) trivial trivial trivial trivial trivial trivial trivial trivial ?_
  exact EVret trivial
theorem s21_11 (b : Bd) (s : ByteArray) (hb : Few b) (hs : s.size ≤ 1000000) (hk : wordK s = ((11 : Nat) : Int)) : Sp cf 21 [bE b, .str s] (encWord (wordB b s)) := by
  have h37 := s37 hcf b hb.mid
  have h38 := s38 hcf s hs
  have hu : upL s.toList = [43, 76, 79, 79, 80] := word_is hk
  have ho := ok_ownB b
  have hf := few_ownB hb
  have q0 : ((⟨(upL s.toList).toArray⟩ : ByteArray).toList == (⟨#[73, 70]⟩ : ByteArray).toList) = false := (cmpS _ [73, 70]).trans (by rw [hu]; decide)
  have q3 : ((⟨(upL s.toList).toArray⟩ : ByteArray).toList == (⟨#[66, 69, 71, 73, 78]⟩ : ByteArray).toList) = false := (cmpS _ [66, 69, 71, 73, 78]).trans (by rw [hu]; decide)
  have q8 : ((⟨(upL s.toList).toArray⟩ : ByteArray).toList == (⟨#[68, 79]⟩ : ByteArray).toList) = false := (cmpS _ [68, 79]).trans (by rw [hu]; decide)
  have q9 : ((⟨(upL s.toList).toArray⟩ : ByteArray).toList == (⟨#[63, 68, 79]⟩ : ByteArray).toList) = false := (cmpS _ [63, 68, 79]).trans (by rw [hu]; decide)
  have q1 : ((⟨(upL s.toList).toArray⟩ : ByteArray).toList == (⟨#[69, 76, 83, 69]⟩ : ByteArray).toList) = false := (cmpS _ [69, 76, 83, 69]).trans (by rw [hu]; decide)
  have q2 : ((⟨(upL s.toList).toArray⟩ : ByteArray).toList == (⟨#[84, 72, 69, 78]⟩ : ByteArray).toList) = false := (cmpS _ [84, 72, 69, 78]).trans (by rw [hu]; decide)
  have q4 : ((⟨(upL s.toList).toArray⟩ : ByteArray).toList == (⟨#[65, 71, 65, 73, 78]⟩ : ByteArray).toList) = false := (cmpS _ [65, 71, 65, 73, 78]).trans (by rw [hu]; decide)
  have q5 : ((⟨(upL s.toList).toArray⟩ : ByteArray).toList == (⟨#[85, 78, 84, 73, 76]⟩ : ByteArray).toList) = false := (cmpS _ [85, 78, 84, 73, 76]).trans (by rw [hu]; decide)
  have q6 : ((⟨(upL s.toList).toArray⟩ : ByteArray).toList == (⟨#[87, 72, 73, 76, 69]⟩ : ByteArray).toList) = false := (cmpS _ [87, 72, 73, 76, 69]).trans (by rw [hu]; decide)
  have q7 : ((⟨(upL s.toList).toArray⟩ : ByteArray).toList == (⟨#[82, 69, 80, 69, 65, 84]⟩ : ByteArray).toList) = false := (cmpS _ [82, 69, 80, 69, 65, 84]).trans (by rw [hu]; decide)
  have q10 : ((⟨(upL s.toList).toArray⟩ : ByteArray).toList == (⟨#[76, 79, 79, 80]⟩ : ByteArray).toList) = false := (cmpS _ [76, 79, 79, 80]).trans (by rw [hu]; decide)
  have q11 : ((⟨(upL s.toList).toArray⟩ : ByteArray).toList == (⟨#[43, 76, 79, 79, 80]⟩ : ByteArray).toList) = true := (cmpS _ [43, 76, 79, 79, 80]).trans (by rw [hu]; decide)
  have h := s42 hcf (ownB b) hf ho 8
  have hw : encWord (wordB b s) = .tup [bE (wordF 11 (ownB b)).2, .bool true, .int .i64 (wordF 11 (ownB b)).1] := by
    have e : wordB b s = _ := if_neg (by rw [hk]; decide)
    rw [e, hk]
    show encWord (if (wordF 11 (ownB b)).1 = 0 then _ else _) = _
    by_cases h0 : (wordF 11 (ownB b)).1 = 0
    · rw [if_pos h0]
      simp only [encWord, h0, Int.toNat_natCast]
    · rw [if_neg h0]
      rcases lead_k (k := 11) (by decide) (ownB b) with q | q
      · exact absurd q h0
      · rw [q.2]
        simp only [encWord, Int.toNat_natCast]
  refine sp_of hcf env21 ?_
  rw [hw]
  rw [show wordF 11 (ownB b) = closeW 8 (ownB b) from rfl]
  generalize closeW 8 (ownB b) = z at *
  simp only [encW, bE, slP] at h37 h ⊢
  conv => arg 2; simp only [ir21]
  conv => arg 3; simp only [ir21, Go.Proofs.YtcphpiboamlanaaEv.start, List.length, Nat.reduceAdd, Nat.reduceSub, List.reduceReplicate, List.append_eq, List.cons_append, List.nil_append]
  conv => arg 4; simp only [heapOf]
  try conv => arg 5; simp only [List.length, Nat.reduceAdd]
  try conv => arg 6; simp only [List.length, Nat.reduceAdd]
  refine EVgo9 (And.intro (q0) ( And.intro (q3) ( And.intro (q8) ( And.intro (q9) ( And.intro (q1) ( And.intro (q2) ( And.intro (q4) ( And.intro (q5) ( And.intro (q6) ( And.intro (q7) ( And.intro (q10) (q11)))))))))))) (h37) (h38) (h) trivial trivial trivial trivial trivial trivial trivial trivial ?_
  exact EVret trivial
theorem s21_12 (b : Bd) (s : ByteArray) (hb : Few b) (hs : s.size ≤ 1000000) (hk : wordK s = ((12 : Nat) : Int)) : Sp cf 21 [bE b, .str s] (encWord (wordB b s)) := by
  have h37 := s37 hcf b hb.mid
  have h38 := s38 hcf s hs
  have hu : upL s.toList = [76, 69, 65, 86, 69] := word_is hk
  have ho := ok_ownB b
  have hf := few_ownB hb
  have q0 : ((⟨(upL s.toList).toArray⟩ : ByteArray).toList == (⟨#[73, 70]⟩ : ByteArray).toList) = false := (cmpS _ [73, 70]).trans (by rw [hu]; decide)
  have q3 : ((⟨(upL s.toList).toArray⟩ : ByteArray).toList == (⟨#[66, 69, 71, 73, 78]⟩ : ByteArray).toList) = false := (cmpS _ [66, 69, 71, 73, 78]).trans (by rw [hu]; decide)
  have q8 : ((⟨(upL s.toList).toArray⟩ : ByteArray).toList == (⟨#[68, 79]⟩ : ByteArray).toList) = false := (cmpS _ [68, 79]).trans (by rw [hu]; decide)
  have q9 : ((⟨(upL s.toList).toArray⟩ : ByteArray).toList == (⟨#[63, 68, 79]⟩ : ByteArray).toList) = false := (cmpS _ [63, 68, 79]).trans (by rw [hu]; decide)
  have q1 : ((⟨(upL s.toList).toArray⟩ : ByteArray).toList == (⟨#[69, 76, 83, 69]⟩ : ByteArray).toList) = false := (cmpS _ [69, 76, 83, 69]).trans (by rw [hu]; decide)
  have q2 : ((⟨(upL s.toList).toArray⟩ : ByteArray).toList == (⟨#[84, 72, 69, 78]⟩ : ByteArray).toList) = false := (cmpS _ [84, 72, 69, 78]).trans (by rw [hu]; decide)
  have q4 : ((⟨(upL s.toList).toArray⟩ : ByteArray).toList == (⟨#[65, 71, 65, 73, 78]⟩ : ByteArray).toList) = false := (cmpS _ [65, 71, 65, 73, 78]).trans (by rw [hu]; decide)
  have q5 : ((⟨(upL s.toList).toArray⟩ : ByteArray).toList == (⟨#[85, 78, 84, 73, 76]⟩ : ByteArray).toList) = false := (cmpS _ [85, 78, 84, 73, 76]).trans (by rw [hu]; decide)
  have q6 : ((⟨(upL s.toList).toArray⟩ : ByteArray).toList == (⟨#[87, 72, 73, 76, 69]⟩ : ByteArray).toList) = false := (cmpS _ [87, 72, 73, 76, 69]).trans (by rw [hu]; decide)
  have q7 : ((⟨(upL s.toList).toArray⟩ : ByteArray).toList == (⟨#[82, 69, 80, 69, 65, 84]⟩ : ByteArray).toList) = false := (cmpS _ [82, 69, 80, 69, 65, 84]).trans (by rw [hu]; decide)
  have q10 : ((⟨(upL s.toList).toArray⟩ : ByteArray).toList == (⟨#[76, 79, 79, 80]⟩ : ByteArray).toList) = false := (cmpS _ [76, 79, 79, 80]).trans (by rw [hu]; decide)
  have q11 : ((⟨(upL s.toList).toArray⟩ : ByteArray).toList == (⟨#[43, 76, 79, 79, 80]⟩ : ByteArray).toList) = false := (cmpS _ [43, 76, 79, 79, 80]).trans (by rw [hu]; decide)
  have q12 : ((⟨(upL s.toList).toArray⟩ : ByteArray).toList == (⟨#[76, 69, 65, 86, 69]⟩ : ByteArray).toList) = true := (cmpS _ [76, 69, 65, 86, 69]).trans (by rw [hu]; decide)
  have h := s43 hcf (ownB b) hf ho
  have hw : encWord (wordB b s) = .tup [bE (wordF 12 (ownB b)).2, .bool true, .int .i64 (wordF 12 (ownB b)).1] := by
    have e : wordB b s = _ := if_neg (by rw [hk]; decide)
    rw [e, hk]
    show encWord (if (wordF 12 (ownB b)).1 = 0 then _ else _) = _
    by_cases h0 : (wordF 12 (ownB b)).1 = 0
    · rw [if_pos h0]
      simp only [encWord, h0, Int.toNat_natCast]
    · rw [if_neg h0]
      rcases lead_k (k := 12) (by decide) (ownB b) with q | q
      · exact absurd q h0
      · rw [q.2]
        simp only [encWord, Int.toNat_natCast]
  refine sp_of hcf env21 ?_
  rw [hw]
  rw [show wordF 12 (ownB b) = leaveW (ownB b) from rfl]
  generalize leaveW (ownB b) = z at *
  simp only [encW, bE, slP] at h37 h ⊢
  conv => arg 2; simp only [ir21]
  conv => arg 3; simp only [ir21, Go.Proofs.YtcphpiboamlanaaEv.start, List.length, Nat.reduceAdd, Nat.reduceSub, List.reduceReplicate, List.append_eq, List.cons_append, List.nil_append]
  conv => arg 4; simp only [heapOf]
  try conv => arg 5; simp only [List.length, Nat.reduceAdd]
  try conv => arg 6; simp only [List.length, Nat.reduceAdd]
  refine EVgo9 (And.intro (q0) ( And.intro (q3) ( And.intro (q8) ( And.intro (q9) ( And.intro (q1) ( And.intro (q2) ( And.intro (q4) ( And.intro (q5) ( And.intro (q6) ( And.intro (q7) ( And.intro (q10) ( And.intro (q11) (q12))))))))))))) (h37) (h38) (h) trivial trivial trivial trivial trivial trivial trivial trivial ?_
  exact EVret trivial
theorem s21 (b : Bd) (s : ByteArray) (hb : Few b) (hs : s.size ≤ 1000000) : Sp cf 21 [bE b, .str s] (encWord (wordB b s)) := by
  rcases idxS_lt (upL s.toList) theWords 0 with h | ⟨k, hk, h⟩
  · exact s21n hcf b s hb hs h
  · have h' : wordK s = (k : Int) := by rw [Nat.zero_add] at h; exact h
    match k, hk, h' with
    | 0, _, h' => exact s21_0 hcf b s hb hs h'
    | 1, _, h' => exact s21_1 hcf b s hb hs h'
    | 2, _, h' => exact s21_2 hcf b s hb hs h'
    | 3, _, h' => exact s21_3 hcf b s hb hs h'
    | 4, _, h' => exact s21_4 hcf b s hb hs h'
    | 5, _, h' => exact s21_5 hcf b s hb hs h'
    | 6, _, h' => exact s21_6 hcf b s hb hs h'
    | 7, _, h' => exact s21_7 hcf b s hb hs h'
    | 8, _, h' => exact s21_8 hcf b s hb hs h'
    | 9, _, h' => exact s21_9 hcf b s hb hs h'
    | 10, _, h' => exact s21_10 hcf b s hb hs h'
    | 11, _, h' => exact s21_11 hcf b s hb hs h'
    | 12, _, h' => exact s21_12 hcf b s hb hs h'
end
end Go.Proofs.YtcphpiboamlanaaR
