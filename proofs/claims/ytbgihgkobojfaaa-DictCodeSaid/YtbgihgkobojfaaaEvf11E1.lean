/- Evf11E1: a part of the proof. -/
import Derived.Test.YtbgihgkobojfaaaEvIr11
open Go Go.Proofs.YtbgihgkobojfaaaEv Go.Proofs.YtbgihgkobojfaaaR Go.IntWalk Go.Proofs
set_option maxRecDepth 20000
set_option maxHeartbeats 8000000
set_option linter.unusedVariables false
set_option linter.unusedSimpArgs false
namespace Go.Proofs.YtbgihgkobojfaaaR
section
variable {cf : CF} (hcf : cf = ev env)
include hcf
theorem s56 (L : Bs) (i : Int) : Sp cf 56 [srcE L i] (.int .i64 (inN L.length i : Nat)) := by
  refine sp_of hcf env56 ?_
  have hm := inN_mm L.length i
  simp only [srcE, sB]
  conv => arg 2; simp only [ir56]
  conv => arg 3; simp only [ir56, Go.Proofs.YtbgihgkobojfaaaEv.start, List.length, Nat.reduceAdd, Nat.reduceSub, List.reduceReplicate, List.append_eq, List.cons_append, List.nil_append]
  conv => arg 4; simp only [heapOf]
  try conv => arg 5; simp only [List.length, Nat.reduceAdd]
  try conv => arg 6; simp only [List.length, Nat.reduceAdd]
  refine EVgo9 (And.intro (szB) (hm)) trivial trivial trivial trivial trivial trivial trivial trivial trivial trivial trivial ?_
  exact EVret trivial
theorem s42 (s : ByteArray) (hs : s.size ≤ 1000000) : Sp cf 42 [.str s] (.str ⟨(upL s.toList).toArray⟩) := by
  have ls : s.toList.length = s.size := by rw [ByteArray.toList_eq]; rfl
  refine sp_of hcf env42 ?_
  conv => arg 2; simp only [ir42]
  conv => arg 3; simp only [ir42, Go.Proofs.YtbgihgkobojfaaaEv.start, List.length, Nat.reduceAdd, Nat.reduceSub, List.reduceReplicate, List.append_eq, List.cons_append, List.nil_append]
  conv => arg 4; simp only [heapOf]
  try conv => arg 5; simp only [List.length, Nat.reduceAdd]
  try conv => arg 6; simp only [List.length, Nat.reduceAdd]
  refine EVgo9 trivial trivial trivial trivial trivial trivial trivial trivial trivial trivial trivial trivial ?_
  refine WC.loop (T' := _) (H' := _) (n' := _) rfl ((?_ : ∀ (k i : Nat) (P : List UInt8), i + k = s.size → P.length = s.size → P = upL (s.toList.take i) ++ s.toList.drop i →
    WC cf _ (mkT 35 [(3, .own 0 1 0 s.size), (4, .int .i64 (i : Nat))]) [(0, .row (P.map fun b => .int .u8 b.toNat))] 0 1 _) s.size 0 s.toList (by omega) ls rfl)
  intro k
  induction k with
  | zero =>
    intro i P hi hP hx
    obtain rfl : i = s.size := by omega
    rw [← ls, List.take_length, List.drop_length, List.append_nil] at hx
    rw [hx] at hP ⊢
    conv => arg 3; simp only [mkT, putT, List.reduceReplicate, List.set]
    refine EVgl9 trivial trivial trivial trivial trivial trivial trivial trivial trivial trivial trivial trivial ?_
    first | refine WO.step (b2sM rfl rfl hP) ?_ | refine WOc.step (b2sM rfl rfl hP) ?_
    conv => arg 2; simp only [setOpt, List.set, Nat.reduceLT, Int.reduceToNat, List.drop_drop, valT, List.getD_cons_zero, List.getD_cons_succ, Int.reduceLT, Int.reduceLE, Int.reduceAdd, Int.reduceSub, Int.reduceMul, Int.reduceNeg, Int.reduceEq, Int.reduceNe, Int.cast_ofNat_Int, Int.natCast_zero, Int.natCast_one, ge_iff_le, gt_iff_lt, decide_true, decide_false, Bool.not_true, Bool.not_false, Int.toNat_natCast, Nat.sub_zero, Nat.mul_one, Option.isSome_some, Option.isSome_none, Bool.false_eq_true, Bool.and_true, Bool.true_and, Bool.and_false, Bool.false_and, Nat.zero_add, Nat.zero_mul, List.drop_zero, reduceIte, setRange, PV.cells, fillB, List.take, List.drop, List.append_eq, List.cons_append, List.nil_append, List.length, List.map, List.zip, List.zipWith, List.replicate, List.flatten, Nat.reduceAdd, Nat.reduceMul, Nat.reduceSub, PV.mapId, mapIds, Option.map, Blk.mapId, sigN, sigS, Int.lt_irrefl]
    try conv => arg 3; simp only [Nat.reduceLT, List.reduceReplicate, List.flatten_cons, List.flatten_nil, List.append_nil, Nat.reduceMul, Nat.mul_one, Nat.one_mul, Nat.zero_mul, Nat.zero_add, List.drop_zero, List.drop_succ_cons, List.drop_nil, List.take_succ_cons, List.take_zero, List.take_nil, List.drop_drop, setRange, PV.cells, valT, List.getD_cons_zero, List.getD_cons_succ, List.take, List.length, Nat.reduceAdd, List.nil_append, applyU, hset, hdel, Nat.reduceEqDiff, reduceIte, List.append_eq, List.cons_append, List.nil_append, frz, rowsOf, updsNew, updsAt, sigN, sigS, PV.mapId, mapIds, Option.map, Blk.mapId, List.drop, heapOf, Int.lt_irrefl]
    conv => arg 5; simp only [stride, Nat.reduceAdd]
    refine EVgo9 trivial trivial trivial trivial trivial trivial trivial trivial trivial trivial trivial trivial ?_
    exact EVret trivial
  | succ k ih =>
    intro i P hi hP hx
    have hi' : i < s.toList.length := by omega
    have hlt : (i : Int) < (s.size : Int) := by omega
    have hw : IntKind.i64.wrap ((i : Int) + 1) = ((i + 1 : Nat) : Int) := by rw [i64_in _ (by omega)]; simp
    have lu : (upL (s.toList.take i)).length = i := by unfold upL; rw [List.length_map, List.length_take]; omega
    have hPi : P = upL (s.toList.take i) ++ s.toList[i] :: s.toList.drop (i + 1) := by rw [hx, List.drop_eq_getElem_cons hi']
    have e1 : ((P.map fun b => PV.int .u8 b.toNat).drop i).take 1 = [.int .u8 (s.toList[i].toNat : Nat)] := by
      rw [hPi, List.map_append, List.drop_left' (by rw [List.length_map, lu])]
      rfl
    have hnx : upL (s.toList.take i) ++ up8 s.toList[i] :: s.toList.drop (i + 1) = upL (s.toList.take (i + 1)) ++ s.toList.drop (i + 1) := by
      rw [List.take_succ_eq_append_getElem hi']
      unfold upL
      rw [List.map_append, List.append_assoc]
      rfl
    have hih := ih (i + 1) _ (by omega) (by simp only [List.length_append, lu, List.length_cons, List.length_drop, ls]; omega) hnx
    have hsame : capN s.toList[i].toNat = s.toList[i].toNat → P = upL (s.toList.take i) ++ up8 s.toList[i] :: s.toList.drop (i + 1) := fun q => by
      have : up8 s.toList[i] = s.toList[i] := by unfold up8; rw [q]; simp
      rw [this, hPi]
    by_cases h1 : 97 ≤ s.toList[i].toNat
    · have h1' : (s.toList[i].toNat : Int) ≥ 97 := by omega
      by_cases h2 : s.toList[i].toNat ≤ 122
      · have h2' : (s.toList[i].toNat : Int) ≤ 122 := by omega
        have ec : capN s.toList[i].toNat = s.toList[i].toNat - 32 := if_pos ⟨h1, h2⟩
        have w := u8sub h1 h2
        have hst : (P.map fun b => PV.int .u8 b.toNat).take i ++ [PV.int .u8 (s.toList[i].toNat - 32 : Nat)] ++ (P.map fun b => PV.int .u8 b.toNat).drop (i + 1) = (upL (s.toList.take i) ++ up8 s.toList[i] :: s.toList.drop (i + 1)).map fun b => PV.int .u8 b.toNat := by
          rw [hPi, ← ec, ← up8_nat]
          exact row_set (fun b : UInt8 => PV.int .u8 b.toNat) _ _ s.toList[i] (up8 s.toList[i]) lu
        conv => arg 3; simp only [mkT, putT, List.reduceReplicate, List.set]
        refine EVgo9 (hlt) trivial trivial trivial trivial trivial trivial trivial trivial trivial trivial trivial ?_
        first | refine WO.step (k_load1 rfl rfl e1) ?_ | refine WOc.step (k_load1 rfl rfl e1) ?_
        conv => arg 2; simp only [setOpt, List.set, Nat.reduceLT, Int.reduceToNat, List.drop_drop, valT, List.getD_cons_zero, List.getD_cons_succ, Int.reduceLT, Int.reduceLE, Int.reduceAdd, Int.reduceSub, Int.reduceMul, Int.reduceNeg, Int.reduceEq, Int.reduceNe, Int.cast_ofNat_Int, Int.natCast_zero, Int.natCast_one, ge_iff_le, gt_iff_lt, decide_true, decide_false, Bool.not_true, Bool.not_false, Int.toNat_natCast, Nat.sub_zero, Nat.mul_one, Option.isSome_some, Option.isSome_none, Bool.false_eq_true, Bool.and_true, Bool.true_and, Bool.and_false, Bool.false_and, Nat.zero_add, Nat.zero_mul, List.drop_zero, reduceIte, setRange, PV.cells, fillB, List.take, List.drop, List.append_eq, List.cons_append, List.nil_append, List.length, List.map, List.zip, List.zipWith, List.replicate, List.flatten, Nat.reduceAdd, Nat.reduceMul, Nat.reduceSub, PV.mapId, mapIds, Option.map, Blk.mapId, sigN, sigS, hlt]
        try conv => arg 3; simp only [Nat.reduceLT, List.reduceReplicate, List.flatten_cons, List.flatten_nil, List.append_nil, Nat.reduceMul, Nat.mul_one, Nat.one_mul, Nat.zero_mul, Nat.zero_add, List.drop_zero, List.drop_succ_cons, List.drop_nil, List.take_succ_cons, List.take_zero, List.take_nil, List.drop_drop, setRange, PV.cells, valT, List.getD_cons_zero, List.getD_cons_succ, List.take, List.length, Nat.reduceAdd, List.nil_append, applyU, hset, hdel, Nat.reduceEqDiff, reduceIte, List.append_eq, List.cons_append, List.nil_append, frz, rowsOf, updsNew, updsAt, sigN, sigS, PV.mapId, mapIds, Option.map, Blk.mapId, List.drop, heapOf, hlt]
        conv => arg 5; simp only [stride, Nat.reduceAdd]
        refine EVgo9 (h1') trivial trivial trivial trivial trivial trivial trivial trivial trivial trivial trivial ?_
        first | refine WO.step (k_load1 rfl rfl e1) ?_ | refine WOc.step (k_load1 rfl rfl e1) ?_
        conv => arg 2; simp only [setOpt, List.set, Nat.reduceLT, Int.reduceToNat, List.drop_drop, valT, List.getD_cons_zero, List.getD_cons_succ, Int.reduceLT, Int.reduceLE, Int.reduceAdd, Int.reduceSub, Int.reduceMul, Int.reduceNeg, Int.reduceEq, Int.reduceNe, Int.cast_ofNat_Int, Int.natCast_zero, Int.natCast_one, ge_iff_le, gt_iff_lt, decide_true, decide_false, Bool.not_true, Bool.not_false, Int.toNat_natCast, Nat.sub_zero, Nat.mul_one, Option.isSome_some, Option.isSome_none, Bool.false_eq_true, Bool.and_true, Bool.true_and, Bool.and_false, Bool.false_and, Nat.zero_add, Nat.zero_mul, List.drop_zero, reduceIte, setRange, PV.cells, fillB, List.take, List.drop, List.append_eq, List.cons_append, List.nil_append, List.length, List.map, List.zip, List.zipWith, List.replicate, List.flatten, Nat.reduceAdd, Nat.reduceMul, Nat.reduceSub, PV.mapId, mapIds, Option.map, Blk.mapId, sigN, sigS, hlt]
        try conv => arg 3; simp only [Nat.reduceLT, List.reduceReplicate, List.flatten_cons, List.flatten_nil, List.append_nil, Nat.reduceMul, Nat.mul_one, Nat.one_mul, Nat.zero_mul, Nat.zero_add, List.drop_zero, List.drop_succ_cons, List.drop_nil, List.take_succ_cons, List.take_zero, List.take_nil, List.drop_drop, setRange, PV.cells, valT, List.getD_cons_zero, List.getD_cons_succ, List.take, List.length, Nat.reduceAdd, List.nil_append, applyU, hset, hdel, Nat.reduceEqDiff, reduceIte, List.append_eq, List.cons_append, List.nil_append, frz, rowsOf, updsNew, updsAt, sigN, sigS, PV.mapId, mapIds, Option.map, Blk.mapId, List.drop, heapOf, hlt]
        conv => arg 5; simp only [stride, Nat.reduceAdd]
        refine EVgo9 (h2') trivial trivial trivial trivial trivial trivial trivial trivial trivial trivial trivial ?_
        first | refine WO.step (k_load1 rfl rfl e1) ?_ | refine WOc.step (k_load1 rfl rfl e1) ?_
        conv => arg 2; simp only [setOpt, List.set, Nat.reduceLT, Int.reduceToNat, List.drop_drop, valT, List.getD_cons_zero, List.getD_cons_succ, Int.reduceLT, Int.reduceLE, Int.reduceAdd, Int.reduceSub, Int.reduceMul, Int.reduceNeg, Int.reduceEq, Int.reduceNe, Int.cast_ofNat_Int, Int.natCast_zero, Int.natCast_one, ge_iff_le, gt_iff_lt, decide_true, decide_false, Bool.not_true, Bool.not_false, Int.toNat_natCast, Nat.sub_zero, Nat.mul_one, Option.isSome_some, Option.isSome_none, Bool.false_eq_true, Bool.and_true, Bool.true_and, Bool.and_false, Bool.false_and, Nat.zero_add, Nat.zero_mul, List.drop_zero, reduceIte, setRange, PV.cells, fillB, List.take, List.drop, List.append_eq, List.cons_append, List.nil_append, List.length, List.map, List.zip, List.zipWith, List.replicate, List.flatten, Nat.reduceAdd, Nat.reduceMul, Nat.reduceSub, PV.mapId, mapIds, Option.map, Blk.mapId, sigN, sigS, hlt]
        try conv => arg 3; simp only [Nat.reduceLT, List.reduceReplicate, List.flatten_cons, List.flatten_nil, List.append_nil, Nat.reduceMul, Nat.mul_one, Nat.one_mul, Nat.zero_mul, Nat.zero_add, List.drop_zero, List.drop_succ_cons, List.drop_nil, List.take_succ_cons, List.take_zero, List.take_nil, List.drop_drop, setRange, PV.cells, valT, List.getD_cons_zero, List.getD_cons_succ, List.take, List.length, Nat.reduceAdd, List.nil_append, applyU, hset, hdel, Nat.reduceEqDiff, reduceIte, List.append_eq, List.cons_append, List.nil_append, frz, rowsOf, updsNew, updsAt, sigN, sigS, PV.mapId, mapIds, Option.map, Blk.mapId, List.drop, heapOf, hlt]
        conv => arg 5; simp only [stride, Nat.reduceAdd]
        refine EVgo9 (w) trivial trivial trivial trivial trivial trivial trivial trivial trivial trivial trivial ?_
        first | refine WO.step (k_store_row rfl rfl rfl rfl (by rw [List.length_map, hP]; omega) rfl) ?_ | refine WOc.step (k_store_row rfl rfl rfl rfl (by rw [List.length_map, hP]; omega) rfl) ?_
        conv => arg 2; simp only [setOpt, List.set, Nat.reduceLT, Int.reduceToNat, List.drop_drop, valT, List.getD_cons_zero, List.getD_cons_succ, Int.reduceLT, Int.reduceLE, Int.reduceAdd, Int.reduceSub, Int.reduceMul, Int.reduceNeg, Int.reduceEq, Int.reduceNe, Int.cast_ofNat_Int, Int.natCast_zero, Int.natCast_one, ge_iff_le, gt_iff_lt, decide_true, decide_false, Bool.not_true, Bool.not_false, Int.toNat_natCast, Nat.sub_zero, Nat.mul_one, Option.isSome_some, Option.isSome_none, Bool.false_eq_true, Bool.and_true, Bool.true_and, Bool.and_false, Bool.false_and, Nat.zero_add, Nat.zero_mul, List.drop_zero, reduceIte, setRange, PV.cells, fillB, List.take, List.drop, List.append_eq, List.cons_append, List.nil_append, List.length, List.map, List.zip, List.zipWith, List.replicate, List.flatten, Nat.reduceAdd, Nat.reduceMul, Nat.reduceSub, PV.mapId, mapIds, Option.map, Blk.mapId, sigN, sigS, hst]
        try conv => arg 3; simp only [Nat.reduceLT, List.reduceReplicate, List.flatten_cons, List.flatten_nil, List.append_nil, Nat.reduceMul, Nat.mul_one, Nat.one_mul, Nat.zero_mul, Nat.zero_add, List.drop_zero, List.drop_succ_cons, List.drop_nil, List.take_succ_cons, List.take_zero, List.take_nil, List.drop_drop, setRange, PV.cells, valT, List.getD_cons_zero, List.getD_cons_succ, List.take, List.length, Nat.reduceAdd, List.nil_append, applyU, hset, hdel, Nat.reduceEqDiff, reduceIte, List.append_eq, List.cons_append, List.nil_append, frz, rowsOf, updsNew, updsAt, sigN, sigS, PV.mapId, mapIds, Option.map, Blk.mapId, List.drop, heapOf, hst]
        conv => arg 5; simp only [stride, Nat.reduceAdd]
        refine EVgo9 (hw) trivial trivial trivial trivial trivial trivial trivial trivial trivial trivial trivial ?_
        exact WC.loop rfl hih
      · have h2' : ¬ (s.toList[i].toNat : Int) ≤ 122 := by omega
        have hP2 := hsame (if_neg fun q => h2 q.2)
        rw [← hP2] at hih
        conv => arg 3; simp only [mkT, putT, List.reduceReplicate, List.set]
        refine EVgo9 (hlt) trivial trivial trivial trivial trivial trivial trivial trivial trivial trivial trivial ?_
        first | refine WO.step (k_load1 rfl rfl e1) ?_ | refine WOc.step (k_load1 rfl rfl e1) ?_
        conv => arg 2; simp only [setOpt, List.set, Nat.reduceLT, Int.reduceToNat, List.drop_drop, valT, List.getD_cons_zero, List.getD_cons_succ, Int.reduceLT, Int.reduceLE, Int.reduceAdd, Int.reduceSub, Int.reduceMul, Int.reduceNeg, Int.reduceEq, Int.reduceNe, Int.cast_ofNat_Int, Int.natCast_zero, Int.natCast_one, ge_iff_le, gt_iff_lt, decide_true, decide_false, Bool.not_true, Bool.not_false, Int.toNat_natCast, Nat.sub_zero, Nat.mul_one, Option.isSome_some, Option.isSome_none, Bool.false_eq_true, Bool.and_true, Bool.true_and, Bool.and_false, Bool.false_and, Nat.zero_add, Nat.zero_mul, List.drop_zero, reduceIte, setRange, PV.cells, fillB, List.take, List.drop, List.append_eq, List.cons_append, List.nil_append, List.length, List.map, List.zip, List.zipWith, List.replicate, List.flatten, Nat.reduceAdd, Nat.reduceMul, Nat.reduceSub, PV.mapId, mapIds, Option.map, Blk.mapId, sigN, sigS, hlt]
        try conv => arg 3; simp only [Nat.reduceLT, List.reduceReplicate, List.flatten_cons, List.flatten_nil, List.append_nil, Nat.reduceMul, Nat.mul_one, Nat.one_mul, Nat.zero_mul, Nat.zero_add, List.drop_zero, List.drop_succ_cons, List.drop_nil, List.take_succ_cons, List.take_zero, List.take_nil, List.drop_drop, setRange, PV.cells, valT, List.getD_cons_zero, List.getD_cons_succ, List.take, List.length, Nat.reduceAdd, List.nil_append, applyU, hset, hdel, Nat.reduceEqDiff, reduceIte, List.append_eq, List.cons_append, List.nil_append, frz, rowsOf, updsNew, updsAt, sigN, sigS, PV.mapId, mapIds, Option.map, Blk.mapId, List.drop, heapOf, hlt]
        conv => arg 5; simp only [stride, Nat.reduceAdd]
        refine EVgo9 (h1') trivial trivial trivial trivial trivial trivial trivial trivial trivial trivial trivial ?_
        first | refine WO.step (k_load1 rfl rfl e1) ?_ | refine WOc.step (k_load1 rfl rfl e1) ?_
        conv => arg 2; simp only [setOpt, List.set, Nat.reduceLT, Int.reduceToNat, List.drop_drop, valT, List.getD_cons_zero, List.getD_cons_succ, Int.reduceLT, Int.reduceLE, Int.reduceAdd, Int.reduceSub, Int.reduceMul, Int.reduceNeg, Int.reduceEq, Int.reduceNe, Int.cast_ofNat_Int, Int.natCast_zero, Int.natCast_one, ge_iff_le, gt_iff_lt, decide_true, decide_false, Bool.not_true, Bool.not_false, Int.toNat_natCast, Nat.sub_zero, Nat.mul_one, Option.isSome_some, Option.isSome_none, Bool.false_eq_true, Bool.and_true, Bool.true_and, Bool.and_false, Bool.false_and, Nat.zero_add, Nat.zero_mul, List.drop_zero, reduceIte, setRange, PV.cells, fillB, List.take, List.drop, List.append_eq, List.cons_append, List.nil_append, List.length, List.map, List.zip, List.zipWith, List.replicate, List.flatten, Nat.reduceAdd, Nat.reduceMul, Nat.reduceSub, PV.mapId, mapIds, Option.map, Blk.mapId, sigN, sigS, hlt]
        try conv => arg 3; simp only [Nat.reduceLT, List.reduceReplicate, List.flatten_cons, List.flatten_nil, List.append_nil, Nat.reduceMul, Nat.mul_one, Nat.one_mul, Nat.zero_mul, Nat.zero_add, List.drop_zero, List.drop_succ_cons, List.drop_nil, List.take_succ_cons, List.take_zero, List.take_nil, List.drop_drop, setRange, PV.cells, valT, List.getD_cons_zero, List.getD_cons_succ, List.take, List.length, Nat.reduceAdd, List.nil_append, applyU, hset, hdel, Nat.reduceEqDiff, reduceIte, List.append_eq, List.cons_append, List.nil_append, frz, rowsOf, updsNew, updsAt, sigN, sigS, PV.mapId, mapIds, Option.map, Blk.mapId, List.drop, heapOf, hlt]
        conv => arg 5; simp only [stride, Nat.reduceAdd]
        refine EVgo9 (And.intro (h2') (hw)) trivial trivial trivial trivial trivial trivial trivial trivial trivial trivial trivial ?_
        exact WC.loop rfl hih
    · have h1' : ¬ (s.toList[i].toNat : Int) ≥ 97 := by omega
      have hP2 := hsame (if_neg fun q => h1 q.1)
      rw [← hP2] at hih
      conv => arg 3; simp only [mkT, putT, List.reduceReplicate, List.set]
      refine EVgo9 (hlt) trivial trivial trivial trivial trivial trivial trivial trivial trivial trivial trivial ?_
      first | refine WO.step (k_load1 rfl rfl e1) ?_ | refine WOc.step (k_load1 rfl rfl e1) ?_
      conv => arg 2; simp only [setOpt, List.set, Nat.reduceLT, Int.reduceToNat, List.drop_drop, valT, List.getD_cons_zero, List.getD_cons_succ, Int.reduceLT, Int.reduceLE, Int.reduceAdd, Int.reduceSub, Int.reduceMul, Int.reduceNeg, Int.reduceEq, Int.reduceNe, Int.cast_ofNat_Int, Int.natCast_zero, Int.natCast_one, ge_iff_le, gt_iff_lt, decide_true, decide_false, Bool.not_true, Bool.not_false, Int.toNat_natCast, Nat.sub_zero, Nat.mul_one, Option.isSome_some, Option.isSome_none, Bool.false_eq_true, Bool.and_true, Bool.true_and, Bool.and_false, Bool.false_and, Nat.zero_add, Nat.zero_mul, List.drop_zero, reduceIte, setRange, PV.cells, fillB, List.take, List.drop, List.append_eq, List.cons_append, List.nil_append, List.length, List.map, List.zip, List.zipWith, List.replicate, List.flatten, Nat.reduceAdd, Nat.reduceMul, Nat.reduceSub, PV.mapId, mapIds, Option.map, Blk.mapId, sigN, sigS, hlt]
      try conv => arg 3; simp only [Nat.reduceLT, List.reduceReplicate, List.flatten_cons, List.flatten_nil, List.append_nil, Nat.reduceMul, Nat.mul_one, Nat.one_mul, Nat.zero_mul, Nat.zero_add, List.drop_zero, List.drop_succ_cons, List.drop_nil, List.take_succ_cons, List.take_zero, List.take_nil, List.drop_drop, setRange, PV.cells, valT, List.getD_cons_zero, List.getD_cons_succ, List.take, List.length, Nat.reduceAdd, List.nil_append, applyU, hset, hdel, Nat.reduceEqDiff, reduceIte, List.append_eq, List.cons_append, List.nil_append, frz, rowsOf, updsNew, updsAt, sigN, sigS, PV.mapId, mapIds, Option.map, Blk.mapId, List.drop, heapOf, hlt]
      conv => arg 5; simp only [stride, Nat.reduceAdd]
      refine EVgo9 (And.intro (h1') (hw)) trivial trivial trivial trivial trivial trivial trivial trivial trivial trivial trivial ?_
      exact WC.loop rfl hih
theorem s57 (b : UInt8) (d : Int) : Sp cf 57 [.int .u8 (b.toNat : Nat), .int .i64 d] (.bool (isB d b)) := by
  have hb := b.toNat_lt
  have w : IntKind.i64.wrap (b.toNat : Int) = (b.toNat : Int) := i64_in _ (by omega)
  refine sp_of hcf env57 ?_
  unfold isB delimP
  have e : decide ((b.toNat : Int) ≤ 32) = emptyP b := by unfold emptyP; exact decide_eq_decide.2 (by omega)
  conv => arg 2; simp only [ir57]
  conv => arg 3; simp only [ir57, Go.Proofs.YtbgihgkobojfaaaEv.start, List.length, Nat.reduceAdd, Nat.reduceSub, List.reduceReplicate, List.append_eq, List.cons_append, List.nil_append]
  conv => arg 4; simp only [heapOf]
  try conv => arg 5; simp only [List.length, Nat.reduceAdd]
  try conv => arg 6; simp only [List.length, Nat.reduceAdd]
  cases h1 : ((b.toNat : Int) == d) with
  | true =>
    refine EVgo9 (And.intro (w) (h1)) trivial trivial trivial trivial trivial trivial trivial trivial trivial trivial trivial ?_
    exact EVret trivial
  | false =>
    cases h2 : (d == 32) with
    | true =>
      rw [Bool.false_or, Bool.true_and]
      refine EVgo9 (And.intro (w) ( And.intro (h1) ( And.intro (h2) (e)))) trivial trivial trivial trivial trivial trivial trivial trivial trivial trivial trivial ?_
      exact EVret trivial
    | false =>
      refine EVgo9 (And.intro (w) ( And.intro (h1) (h2))) trivial trivial trivial trivial trivial trivial trivial trivial trivial trivial trivial ?_
      exact EVret trivial
theorem s55 (L : Bs) (i : Int) (hL : L.length ≤ 1000000) : Sp cf 55 [srcE L i] (srcE L (skipN L i : Nat)) := by
  have h31 := s56 hcf L i
  have hle := inN_le L.length i
  unfold skipN
  generalize inN L.length i = a at *
  have hdl : (L.drop a).length = L.length - a := List.length_drop
  refine sp_of hcf env55 ?_
  simp only [srcE, sB] at h31 ⊢
  conv => arg 2; simp only [ir55]
  conv => arg 3; simp only [ir55, Go.Proofs.YtbgihgkobojfaaaEv.start, List.length, Nat.reduceAdd, Nat.reduceSub, List.reduceReplicate, List.append_eq, List.cons_append, List.nil_append]
  conv => arg 4; simp only [heapOf]
  try conv => arg 5; simp only [List.length, Nat.reduceAdd]
  try conv => arg 6; simp only [List.length, Nat.reduceAdd]
  refine EVgo9 (szB) (h31) trivial trivial trivial trivial trivial trivial trivial trivial trivial trivial ?_
  refine WC.loop (T' := _) (H' := _) (n' := _) rfl ((?_ : ∀ (r q : Bs) (j : Nat), q ++ r = L.drop a → (∀ c ∈ q, fullP c = false) → j = a + q.length →
    WC cf _ (mkT 24 [(1, .ptr 0 0), (2, .ptr 1 0), (3, .int .i64 (j : Nat))]) [(0, .box [.str ⟨L.toArray⟩, .int .i64 i]), (1, .box [.str ⟨#[]⟩, .int .i64 0])] 0 2 _) (L.drop a) [] a rfl (fun c hc => absurd hc List.not_mem_nil) rfl)
  intro r
  induction r with
  | nil =>
    intro q j hq hp hj
    rw [List.append_nil] at hq
    have hjl : j = L.length := by rw [hj, hq]; omega
    have hn : ¬ ((j : Int) < (L.length : Int)) := by omega
    rw [upto_all (by rw [← hq]; exact hp), ← hq, ← hj]
    conv => arg 3; simp only [mkT, putT, List.reduceReplicate, List.set]
    refine EVgo9 (And.intro (szB) (hn)) trivial trivial trivial trivial trivial trivial trivial trivial trivial trivial trivial ?_
    refine EVgo9 (szB) trivial trivial trivial trivial trivial trivial trivial trivial trivial trivial trivial ?_
    exact EVret trivial
  | cons b r ih =>
    intro q j hq hp hj
    have hlen : (L.drop a).length = q.length + (r.length + 1) := by rw [← hq]; simp
    have hlt : (j : Int) < (L.length : Int) := by omega
    have h0 : (0 : Int) ≤ (j : Int) := Int.natCast_nonneg _
    have hb : (⟨L.toArray⟩ : ByteArray)[((j : Nat) : Int).toNat]? = some b := by
      have e : (L.take a ++ q) ++ b :: r = L := by rw [List.append_assoc, hq, List.take_append_drop]
      have h := at_B e
      rw [List.length_append, List.length_take_of_le hle, ← hj] at h
      exact h
    have e : decide ((b.toNat : Int) ≤ 32) = !fullP b := by
      unfold fullP
      by_cases w : b.toNat ≤ 32
      · rw [decide_eq_true (by omega), decide_eq_false (by omega)]; rfl
      · rw [decide_eq_false (by omega), decide_eq_true (by omega)]; rfl
    cases hpb : fullP b with
    | true =>
      rw [hpb] at e
      rw [← hq, upto_at hp hpb, ← hj]
      conv => arg 3; simp only [mkT, putT, List.reduceReplicate, List.set]
      refine EVgo9 (And.intro (szB) (hlt)) trivial trivial trivial trivial trivial trivial trivial trivial trivial trivial trivial ?_
      first | refine WO.step (k_index rfl rfl h0 hb) ?_ | refine WOc.step (k_index rfl rfl h0 hb) ?_
      conv => arg 2; simp only [setOpt, List.set, Nat.reduceLT, Int.reduceToNat, List.drop_drop, valT, List.getD_cons_zero, List.getD_cons_succ, Int.reduceLT, Int.reduceLE, Int.reduceAdd, Int.reduceSub, Int.reduceMul, Int.reduceNeg, Int.reduceEq, Int.reduceNe, Int.cast_ofNat_Int, Int.natCast_zero, Int.natCast_one, ge_iff_le, gt_iff_lt, decide_true, decide_false, Bool.not_true, Bool.not_false, Int.toNat_natCast, Nat.sub_zero, Nat.mul_one, Option.isSome_some, Option.isSome_none, Bool.false_eq_true, Bool.and_true, Bool.true_and, Bool.and_false, Bool.false_and, Nat.zero_add, Nat.zero_mul, List.drop_zero, reduceIte, setRange, PV.cells, fillB, List.take, List.drop, List.append_eq, List.cons_append, List.nil_append, List.length, List.map, List.zip, List.zipWith, List.replicate, List.flatten, Nat.reduceAdd, Nat.reduceMul, Nat.reduceSub, PV.mapId, mapIds, Option.map, Blk.mapId, sigN, sigS, hlt]
      try conv => arg 3; simp only [Nat.reduceLT, List.reduceReplicate, List.flatten_cons, List.flatten_nil, List.append_nil, Nat.reduceMul, Nat.mul_one, Nat.one_mul, Nat.zero_mul, Nat.zero_add, List.drop_zero, List.drop_succ_cons, List.drop_nil, List.take_succ_cons, List.take_zero, List.take_nil, List.drop_drop, setRange, PV.cells, valT, List.getD_cons_zero, List.getD_cons_succ, List.take, List.length, Nat.reduceAdd, List.nil_append, applyU, hset, hdel, Nat.reduceEqDiff, reduceIte, List.append_eq, List.cons_append, List.nil_append, frz, rowsOf, updsNew, updsAt, sigN, sigS, PV.mapId, mapIds, Option.map, Blk.mapId, List.drop, heapOf, hlt]
      conv => arg 5; simp only [stride, Nat.reduceAdd]
      refine EVgo9 (And.intro (e) (Bool.not_true)) trivial trivial trivial trivial trivial trivial trivial trivial trivial trivial trivial ?_
      refine EVgo9 (szB) trivial trivial trivial trivial trivial trivial trivial trivial trivial trivial trivial ?_
      exact EVret trivial
    | false =>
      rw [hpb] at e
      have hw : IntKind.i64.wrap ((j : Int) + 1) = ((j + 1 : Nat) : Int) := by rw [i64_in _ (by omega)]; simp
      have hih := ih (q ++ [b]) (j + 1) (by rw [List.append_assoc]; exact hq) (all_snoc hp hpb) (by rw [snoc_lenB]; omega)
      conv => arg 3; simp only [mkT, putT, List.reduceReplicate, List.set]
      refine EVgo9 (And.intro (szB) (hlt)) trivial trivial trivial trivial trivial trivial trivial trivial trivial trivial trivial ?_
      first | refine WO.step (k_index rfl rfl h0 hb) ?_ | refine WOc.step (k_index rfl rfl h0 hb) ?_
      conv => arg 2; simp only [setOpt, List.set, Nat.reduceLT, Int.reduceToNat, List.drop_drop, valT, List.getD_cons_zero, List.getD_cons_succ, Int.reduceLT, Int.reduceLE, Int.reduceAdd, Int.reduceSub, Int.reduceMul, Int.reduceNeg, Int.reduceEq, Int.reduceNe, Int.cast_ofNat_Int, Int.natCast_zero, Int.natCast_one, ge_iff_le, gt_iff_lt, decide_true, decide_false, Bool.not_true, Bool.not_false, Int.toNat_natCast, Nat.sub_zero, Nat.mul_one, Option.isSome_some, Option.isSome_none, Bool.false_eq_true, Bool.and_true, Bool.true_and, Bool.and_false, Bool.false_and, Nat.zero_add, Nat.zero_mul, List.drop_zero, reduceIte, setRange, PV.cells, fillB, List.take, List.drop, List.append_eq, List.cons_append, List.nil_append, List.length, List.map, List.zip, List.zipWith, List.replicate, List.flatten, Nat.reduceAdd, Nat.reduceMul, Nat.reduceSub, PV.mapId, mapIds, Option.map, Blk.mapId, sigN, sigS, hlt]
      try conv => arg 3; simp only [Nat.reduceLT, List.reduceReplicate, List.flatten_cons, List.flatten_nil, List.append_nil, Nat.reduceMul, Nat.mul_one, Nat.one_mul, Nat.zero_mul, Nat.zero_add, List.drop_zero, List.drop_succ_cons, List.drop_nil, List.take_succ_cons, List.take_zero, List.take_nil, List.drop_drop, setRange, PV.cells, valT, List.getD_cons_zero, List.getD_cons_succ, List.take, List.length, Nat.reduceAdd, List.nil_append, applyU, hset, hdel, Nat.reduceEqDiff, reduceIte, List.append_eq, List.cons_append, List.nil_append, frz, rowsOf, updsNew, updsAt, sigN, sigS, PV.mapId, mapIds, Option.map, Blk.mapId, List.drop, heapOf, hlt]
      conv => arg 5; simp only [stride, Nat.reduceAdd]
      refine EVgo9 (And.intro (e) ( And.intro (Bool.not_false) (hw))) trivial trivial trivial trivial trivial trivial trivial trivial trivial trivial trivial ?_
      exact WC.loop rfl hih
theorem s54 (L : Bs) (i d : Int) (hL : L.length ≤ 1000000) : Sp cf 54 [srcE L i, .int .i64 d] (encC L (parseP L i d)) := by
  have h31 := s56 hcf L i
  have hle := inN_le L.length i
  have hpp : parseP L i d = cutP (isB d) L (inN L.length i) := by
    unfold parseP
    by_cases h : d = 32
    · rw [if_pos h]; congr 1; funext b; rw [isB_eq, if_pos h]
    · rw [if_neg h]; congr 1; funext b; rw [isB_eq, if_neg h]
  rw [hpp]
  generalize inN L.length i = a at *
  have hdl : (L.drop a).length = L.length - a := List.length_drop
  refine sp_of hcf env54 ?_
  simp only [srcE, sB] at h31 ⊢
  conv => arg 2; simp only [ir54]
  conv => arg 3; simp only [ir54, Go.Proofs.YtbgihgkobojfaaaEv.start, List.length, Nat.reduceAdd, Nat.reduceSub, List.reduceReplicate, List.append_eq, List.cons_append, List.nil_append]
  conv => arg 4; simp only [heapOf]
  try conv => arg 5; simp only [List.length, Nat.reduceAdd]
  try conv => arg 6; simp only [List.length, Nat.reduceAdd]
  refine EVgo9 (szB) (h31) trivial trivial trivial trivial trivial trivial trivial trivial trivial trivial ?_
  refine WC.loop (T' := _) (H' := _) (n' := _) rfl ((?_ : ∀ (r q : Bs) (j : Nat), q ++ r = L.drop a → (∀ c ∈ q, isB d c = false) → j = a + q.length →
    WC cf _ (mkT 44 [(1, .int .i64 d), (2, .ptr 0 0), (5, .ptr 1 0), (6, .int .i64 (a : Nat)), (7, .int .i64 (j : Nat))]) [(0, .box [.str ⟨L.toArray⟩, .int .i64 i]), (1, .box [.str ⟨#[]⟩, .int .i64 0])] 0 2 _) (L.drop a) [] a rfl (fun c hc => absurd hc List.not_mem_nil) rfl)
  intro r
  induction r with
  | nil =>
    intro q j hq hp hj
    rw [List.append_nil] at hq
    have hjl : j = L.length := by rw [hj, hq]; omega
    have hn : ¬ ((j : Int) < (L.length : Int)) := by omega
    have e1 : (⟨L.toArray⟩ : ByteArray).extract a L.length = ⟨(L.drop a).toArray⟩ := by rw [exB, List.take_length]
    rw [cutP_miss (by rw [← hq]; exact hp)]
    simp only [encC, srcE, sB]
    conv => arg 3; simp only [mkT, putT, List.reduceReplicate, List.set]
    refine EVgo9 (And.intro (szB) (hn)) trivial trivial trivial trivial trivial trivial trivial trivial trivial trivial trivial ?_
    refine EVgo9 (And.intro (szB) (e1)) trivial trivial trivial trivial trivial trivial trivial trivial trivial trivial trivial ?_
    exact EVret trivial
  | cons b r ih =>
    intro q j hq hp hj
    have hlen : (L.drop a).length = q.length + (r.length + 1) := by rw [← hq]; simp
    have hlt : (j : Int) < (L.length : Int) := by omega
    have h0 : (0 : Int) ≤ (j : Int) := Int.natCast_nonneg _
    have hfull : (L.take a ++ q) ++ b :: r = L := by rw [List.append_assoc, hq, List.take_append_drop]
    have hla : (L.take a ++ q).length = j := by rw [List.length_append, List.length_take_of_le hle, hj]
    have hb : (⟨L.toArray⟩ : ByteArray)[((j : Nat) : Int).toNat]? = some b := by
      have h := at_B hfull
      rw [hla] at h
      exact h
    have h32 := s57 hcf b d
    have hw : IntKind.i64.wrap ((j : Int) + 1) = ((j + 1 : Nat) : Int) := by rw [i64_in _ (by omega)]; simp
    cases hpb : isB d b with
    | true =>
      rw [hpb] at h32
      rw [cutP_hit hq hp hpb, ← hj]
      have e1 : (⟨L.toArray⟩ : ByteArray).extract a j = ⟨q.toArray⟩ := by
        rw [exB]
        have : (L.take j).drop a = q := by
          conv => lhs; rw [← hfull]
          rw [← hla, List.take_left]
          exact List.drop_left' (List.length_take_of_le hle)
        rw [this]
      have haj : a ≤ j := by omega
      have hjl : j ≤ L.length := by omega
      simp only [encC, srcE, sB]
      conv => arg 3; simp only [mkT, putT, List.reduceReplicate, List.set]
      refine EVgo9 (And.intro (szB) (hlt)) trivial trivial trivial trivial trivial trivial trivial trivial trivial trivial trivial ?_
      first | refine WO.step (k_index rfl rfl h0 hb) ?_ | refine WOc.step (k_index rfl rfl h0 hb) ?_
      conv => arg 2; simp only [setOpt, List.set, Nat.reduceLT, Int.reduceToNat, List.drop_drop, valT, List.getD_cons_zero, List.getD_cons_succ, Int.reduceLT, Int.reduceLE, Int.reduceAdd, Int.reduceSub, Int.reduceMul, Int.reduceNeg, Int.reduceEq, Int.reduceNe, Int.cast_ofNat_Int, Int.natCast_zero, Int.natCast_one, ge_iff_le, gt_iff_lt, decide_true, decide_false, Bool.not_true, Bool.not_false, Int.toNat_natCast, Nat.sub_zero, Nat.mul_one, Option.isSome_some, Option.isSome_none, Bool.false_eq_true, Bool.and_true, Bool.true_and, Bool.and_false, Bool.false_and, Nat.zero_add, Nat.zero_mul, List.drop_zero, reduceIte, setRange, PV.cells, fillB, List.take, List.drop, List.append_eq, List.cons_append, List.nil_append, List.length, List.map, List.zip, List.zipWith, List.replicate, List.flatten, Nat.reduceAdd, Nat.reduceMul, Nat.reduceSub, PV.mapId, mapIds, Option.map, Blk.mapId, sigN, sigS, hlt]
      try conv => arg 3; simp only [Nat.reduceLT, List.reduceReplicate, List.flatten_cons, List.flatten_nil, List.append_nil, Nat.reduceMul, Nat.mul_one, Nat.one_mul, Nat.zero_mul, Nat.zero_add, List.drop_zero, List.drop_succ_cons, List.drop_nil, List.take_succ_cons, List.take_zero, List.take_nil, List.drop_drop, setRange, PV.cells, valT, List.getD_cons_zero, List.getD_cons_succ, List.take, List.length, Nat.reduceAdd, List.nil_append, applyU, hset, hdel, Nat.reduceEqDiff, reduceIte, List.append_eq, List.cons_append, List.nil_append, frz, rowsOf, updsNew, updsAt, sigN, sigS, PV.mapId, mapIds, Option.map, Blk.mapId, List.drop, heapOf, hlt]
      conv => arg 5; simp only [stride, Nat.reduceAdd]
      refine EVgo9 (And.intro (szB) ( And.intro (e1) (hw))) (h32) trivial trivial trivial trivial trivial trivial trivial trivial trivial trivial ?_
      exact EVret trivial
    | false =>
      rw [hpb] at h32
      have hih := ih (q ++ [b]) (j + 1) (by rw [List.append_assoc]; exact hq) (all_snoc hp hpb) (by rw [snoc_lenB]; omega)
      conv => arg 3; simp only [mkT, putT, List.reduceReplicate, List.set]
      refine EVgo9 (And.intro (szB) (hlt)) trivial trivial trivial trivial trivial trivial trivial trivial trivial trivial trivial ?_
      first | refine WO.step (k_index rfl rfl h0 hb) ?_ | refine WOc.step (k_index rfl rfl h0 hb) ?_
      conv => arg 2; simp only [setOpt, List.set, Nat.reduceLT, Int.reduceToNat, List.drop_drop, valT, List.getD_cons_zero, List.getD_cons_succ, Int.reduceLT, Int.reduceLE, Int.reduceAdd, Int.reduceSub, Int.reduceMul, Int.reduceNeg, Int.reduceEq, Int.reduceNe, Int.cast_ofNat_Int, Int.natCast_zero, Int.natCast_one, ge_iff_le, gt_iff_lt, decide_true, decide_false, Bool.not_true, Bool.not_false, Int.toNat_natCast, Nat.sub_zero, Nat.mul_one, Option.isSome_some, Option.isSome_none, Bool.false_eq_true, Bool.and_true, Bool.true_and, Bool.and_false, Bool.false_and, Nat.zero_add, Nat.zero_mul, List.drop_zero, reduceIte, setRange, PV.cells, fillB, List.take, List.drop, List.append_eq, List.cons_append, List.nil_append, List.length, List.map, List.zip, List.zipWith, List.replicate, List.flatten, Nat.reduceAdd, Nat.reduceMul, Nat.reduceSub, PV.mapId, mapIds, Option.map, Blk.mapId, sigN, sigS, hlt]
      try conv => arg 3; simp only [Nat.reduceLT, List.reduceReplicate, List.flatten_cons, List.flatten_nil, List.append_nil, Nat.reduceMul, Nat.mul_one, Nat.one_mul, Nat.zero_mul, Nat.zero_add, List.drop_zero, List.drop_succ_cons, List.drop_nil, List.take_succ_cons, List.take_zero, List.take_nil, List.drop_drop, setRange, PV.cells, valT, List.getD_cons_zero, List.getD_cons_succ, List.take, List.length, Nat.reduceAdd, List.nil_append, applyU, hset, hdel, Nat.reduceEqDiff, reduceIte, List.append_eq, List.cons_append, List.nil_append, frz, rowsOf, updsNew, updsAt, sigN, sigS, PV.mapId, mapIds, Option.map, Blk.mapId, List.drop, heapOf, hlt]
      conv => arg 5; simp only [stride, Nat.reduceAdd]
      refine EVgo9 (hw) (h32) trivial trivial trivial trivial trivial trivial trivial trivial trivial trivial ?_
      exact WC.loop rfl hih
theorem s53 (L : Bs) (i : Int) (hL : L.length ≤ 1000000) : Sp cf 53 [srcE L i] (encC L (wordP L i)) := by
  have h19 := s55 hcf L i hL
  have hs := skipN_le L i
  have h17 := s54 hcf L (skipN L i : Nat) 32 hL
  unfold parseP at h17
  rw [if_pos rfl, inN_nat hs] at h17
  refine sp_of hcf env53 ?_
  unfold wordP
  generalize cutP emptyP L (skipN L i) = x at *
  simp only [encC, srcE, sB] at h19 h17 ⊢
  conv => arg 2; simp only [ir53]
  conv => arg 3; simp only [ir53, Go.Proofs.YtbgihgkobojfaaaEv.start, List.length, Nat.reduceAdd, Nat.reduceSub, List.reduceReplicate, List.append_eq, List.cons_append, List.nil_append]
  conv => arg 4; simp only [heapOf]
  try conv => arg 5; simp only [List.length, Nat.reduceAdd]
  try conv => arg 6; simp only [List.length, Nat.reduceAdd]
  refine EVgo9 trivial (h19) (h17) trivial trivial trivial trivial trivial trivial trivial trivial trivial ?_
  exact EVret trivial
end
end Go.Proofs.YtbgihgkobojfaaaR
