/- LinSwaps, walked. -/
import Derived.Test.YtipnedhclbopdaaDoorEvf22G1
open Go Go.Proofs.YtipnedhclbopdaaDoorEv Go.Proofs.YtipnedhclbopdaaDoorR Go.IntWalk Go.Proofs
set_option maxRecDepth 20000
set_option maxHeartbeats 8000000
set_option linter.unusedVariables false
set_option linter.unusedSimpArgs false
namespace Go.Proofs.YtipnedhclbopdaaDoorR
def swapT (l : List Ot) (a b : Nat) : List Ot := (l.set a (l.getD b nilT)).set b (l.getD a nilT)
theorem mem_getD {l : List Ot} {i : Nat} (hi : i < l.length) : l.getD i nilT ∈ l := by rw [List.getD_eq_getElem?_getD, List.getElem?_eq_getElem hi]; exact List.getElem_mem hi
theorem mem_set {α : Type} {l : List α} {i : Nat} {v x : α} (h : x ∈ l.set i v) : x ∈ l ∨ x = v := List.mem_or_eq_of_mem_set h
theorem raw_T (l m : List Ot) (h : m.length = l.length) : ((flat encT m).drop 0).take (l.length * 7) = flat encT m := by rw [List.drop_zero, ← h, allT]
section
variable {cf : CF} (hcf : cf = ev env)
include hcf
theorem s7 (l : List Ot) (n i j : Int) (hin : ∀ x ∈ l, inI (argT x) = true) (hsw : ∀ a b : Nat, a < l.length → b < l.length → l.length ≤ 8 → linT (swapT l a b) n = linT l n) : Sp cf 7 [slT l, .int .i64 n, .int .i64 i, .int .i64 j] (.bool true) := by
  have h9 := s9 hcf
  refine sp_of hcf env7 ?_
  by_cases h8 : l.length > 8
  · have h8' : (8 : Int) < (l.length : Int) := by omega
    simp only [slT]
    conv => arg 2; simp only [ir7]
    conv => arg 3; simp only [ir7, Go.Proofs.YtipnedhclbopdaaDoorEv.start, List.length, Nat.reduceAdd, Nat.reduceSub, List.reduceReplicate, List.append_eq, List.cons_append, List.nil_append]
    conv => arg 4; simp only [heapOf]
    try conv => arg 5; simp only [List.length, Nat.reduceAdd]
    try conv => arg 6; simp only [List.length, Nat.reduceAdd]
    refine EVgo9 (h8') (h9) trivial trivial trivial trivial trivial trivial trivial trivial trivial trivial ?_
    exact EVret trivial
  have h8' : ¬ (8 : Int) < (l.length : Int) := by omega
  by_cases h0 : l.length = 0
  · have h0' : (l.length : Int) = 0 := by omega
    simp only [slT]
    conv => arg 2; simp only [ir7]
    conv => arg 3; simp only [ir7, Go.Proofs.YtipnedhclbopdaaDoorEv.start, List.length, Nat.reduceAdd, Nat.reduceSub, List.reduceReplicate, List.append_eq, List.cons_append, List.nil_append]
    conv => arg 4; simp only [heapOf]
    try conv => arg 5; simp only [List.length, Nat.reduceAdd]
    try conv => arg 6; simp only [List.length, Nat.reduceAdd]
    refine EVgo9 (And.intro (h8') (h0')) (h9) trivial trivial trivial trivial trivial trivial trivial trivial trivial trivial ?_
    exact EVret trivial
  have h0' : ((l.length : Int) == 0) = false := beqf (by omega)
  have hne : (l.length : Int) ≠ 0 := by omega
  obtain ⟨a, ha, hka⟩ := pick_lt i (n := l.length) (by omega)
  obtain ⟨b, hb, hkb⟩ := pick_lt j (n := l.length) (by omega)
  have fA := andI_fold i 65535
  have fB := andI_fold j 65535
  have hal : (a : Int) < (l.length : Int) := by omega
  have hbl : (b : Int) < (l.length : Int) := by omega
  have eA := at_T ha
  have eB := at_T hb
  have hm0 : (swapT l a b).length = l.length := by simp [swapT]
  have hmin : ∀ x ∈ swapT l a b, inI (argT x) = true := fun x hx => by
    rcases mem_set hx with q | q
    · rcases mem_set q with q | q
      · exact hin x q
      · rw [q]; exact hin _ (mem_getD hb)
    · rw [q]; exact hin _ (mem_getD ha)
  have h14m := s14 hcf (swapT l a b) (by omega)
  have h13m := s13 hcf (swapT l a b) n hmin
  have h14l := s14 hcf l (by omega)
  have h13l := s13 hcf l n hin
  have hraw := raw_T l (swapT l a b) hm0
  rw [hsw a b ha hb (by omega)] at h13m
  simp only [slT] at h14m h13m h14l h13l ⊢
  rw [hm0] at h14m h13m
  have h14r : Sp cf 14 [.sl l.length false (((flat encT (swapT l a b)).drop 0).take (l.length * 7))] (.sl l.length false (flat encT (swapT l a b))) := by rw [hraw]; exact h14m
  have e1 := lenT l
  have e2 := allT l
  generalize hM : flat encT (swapT l a b) = M at *
  unfold swapT at hM
  generalize hxa : l.getD a nilT = xa at eA hM
  generalize hxb : l.getD b nilT = xb at eB hM
  obtain ⟨a1, a2, a3, a4, a5, a6, a7⟩ := xa
  obtain ⟨b1, b2, b3, b4, b5, b6, b7⟩ := xb
  have hs1 := set_T l a b1 b2 b3 b4 b5 b6 b7 ha
  have hs2 := set_T (l.set a (b1, b2, b3, b4, b5, b6, b7)) b a1 a2 a3 a4 a5 a6 a7 (by simpa using hb)
  rw [hM] at hs2
  have hbeq : (linT l n == linT l n) = true := beqt _
  simp only at eA eB
  conv => arg 2; simp only [ir7]
  conv => arg 3; simp only [ir7, Go.Proofs.YtipnedhclbopdaaDoorEv.start, List.length, Nat.reduceAdd, Nat.reduceSub, List.reduceReplicate, List.append_eq, List.cons_append, List.nil_append]
  conv => arg 4; simp only [heapOf]
  try conv => arg 5; simp only [List.length, Nat.reduceAdd]
  try conv => arg 6; simp only [List.length, Nat.reduceAdd]
  refine EVgo9 (And.intro (h8') ( And.intro (h0') (fA))) (h9) trivial trivial trivial trivial trivial trivial trivial trivial trivial trivial ?_
  first | refine WO.step (k_rem hne rfl rfl) ?_ | refine WOc.step (k_rem hne rfl rfl) ?_
  conv => arg 2; simp only [setOpt, List.set, Nat.reduceLT, Int.reduceToNat, List.drop_drop, valT, List.getD_cons_zero, List.getD_cons_succ, Int.reduceLT, Int.reduceLE, Int.reduceAdd, Int.reduceSub, Int.reduceMul, Int.reduceNeg, Int.reduceEq, Int.reduceNe, Int.cast_ofNat_Int, Int.natCast_zero, Int.natCast_one, ge_iff_le, gt_iff_lt, decide_true, decide_false, Bool.not_true, Bool.not_false, Int.toNat_natCast, Nat.sub_zero, Nat.mul_one, Option.isSome_some, Option.isSome_none, Bool.false_eq_true, Bool.and_true, Bool.true_and, Bool.and_false, Bool.false_and, Nat.zero_add, Nat.zero_mul, List.drop_zero, reduceIte, setRange, PV.cells, fillB, List.take, List.drop, List.append_eq, List.cons_append, List.nil_append, List.length, List.map, List.zip, List.zipWith, List.replicate, List.flatten, Nat.reduceAdd, Nat.reduceMul, Nat.reduceSub, PV.mapId, mapIds, Option.map, Blk.mapId, sigN, sigS, hka]
  try conv => arg 3; simp only [Nat.reduceLT, List.reduceReplicate, List.flatten_cons, List.flatten_nil, List.append_nil, Nat.reduceMul, Nat.mul_one, Nat.one_mul, Nat.zero_mul, Nat.zero_add, List.drop_zero, List.drop_succ_cons, List.drop_nil, List.take_succ_cons, List.take_zero, List.take_nil, List.drop_drop, setRange, PV.cells, valT, List.getD_cons_zero, List.getD_cons_succ, List.take, List.length, Nat.reduceAdd, List.nil_append, applyU, hset, hdel, Nat.reduceEqDiff, reduceIte, List.append_eq, List.cons_append, List.nil_append, frz, rowsOf, updsNew, updsAt, sigN, sigS, PV.mapId, mapIds, Option.map, Blk.mapId, List.drop, heapOf, hka]
  conv => arg 5; simp only [stride, Nat.reduceAdd]
  refine EVgo9 (fB) trivial trivial trivial trivial trivial trivial trivial trivial trivial trivial trivial ?_
  first | refine WO.step (k_rem hne rfl rfl) ?_ | refine WOc.step (k_rem hne rfl rfl) ?_
  conv => arg 2; simp only [setOpt, List.set, Nat.reduceLT, Int.reduceToNat, List.drop_drop, valT, List.getD_cons_zero, List.getD_cons_succ, Int.reduceLT, Int.reduceLE, Int.reduceAdd, Int.reduceSub, Int.reduceMul, Int.reduceNeg, Int.reduceEq, Int.reduceNe, Int.cast_ofNat_Int, Int.natCast_zero, Int.natCast_one, ge_iff_le, gt_iff_lt, decide_true, decide_false, Bool.not_true, Bool.not_false, Int.toNat_natCast, Nat.sub_zero, Nat.mul_one, Option.isSome_some, Option.isSome_none, Bool.false_eq_true, Bool.and_true, Bool.true_and, Bool.and_false, Bool.false_and, Nat.zero_add, Nat.zero_mul, List.drop_zero, reduceIte, setRange, PV.cells, fillB, List.take, List.drop, List.append_eq, List.cons_append, List.nil_append, List.length, List.map, List.zip, List.zipWith, List.replicate, List.flatten, Nat.reduceAdd, Nat.reduceMul, Nat.reduceSub, PV.mapId, mapIds, Option.map, Blk.mapId, sigN, sigS, hkb]
  try conv => arg 3; simp only [Nat.reduceLT, List.reduceReplicate, List.flatten_cons, List.flatten_nil, List.append_nil, Nat.reduceMul, Nat.mul_one, Nat.one_mul, Nat.zero_mul, Nat.zero_add, List.drop_zero, List.drop_succ_cons, List.drop_nil, List.take_succ_cons, List.take_zero, List.take_nil, List.drop_drop, setRange, PV.cells, valT, List.getD_cons_zero, List.getD_cons_succ, List.take, List.length, Nat.reduceAdd, List.nil_append, applyU, hset, hdel, Nat.reduceEqDiff, reduceIte, List.append_eq, List.cons_append, List.nil_append, frz, rowsOf, updsNew, updsAt, sigN, sigS, PV.mapId, mapIds, Option.map, Blk.mapId, List.drop, heapOf, hkb]
  conv => arg 5; simp only [stride, Nat.reduceAdd]
  refine EVgo9 (And.intro (e1) ( And.intro (e2) ( And.intro (hal) ( And.intro (hbl) (eB))))) trivial trivial trivial trivial trivial trivial trivial trivial trivial trivial trivial ?_
  first | refine WO.step (k_store_row rfl rfl rfl rfl (by rw [lenT]; omega) rfl) ?_ | refine WOc.step (k_store_row rfl rfl rfl rfl (by rw [lenT]; omega) rfl) ?_
  conv => arg 2; simp only [setOpt, List.set, Nat.reduceLT, Int.reduceToNat, List.drop_drop, valT, List.getD_cons_zero, List.getD_cons_succ, Int.reduceLT, Int.reduceLE, Int.reduceAdd, Int.reduceSub, Int.reduceMul, Int.reduceNeg, Int.reduceEq, Int.reduceNe, Int.cast_ofNat_Int, Int.natCast_zero, Int.natCast_one, ge_iff_le, gt_iff_lt, decide_true, decide_false, Bool.not_true, Bool.not_false, Int.toNat_natCast, Nat.sub_zero, Nat.mul_one, Option.isSome_some, Option.isSome_none, Bool.false_eq_true, Bool.and_true, Bool.true_and, Bool.and_false, Bool.false_and, Nat.zero_add, Nat.zero_mul, List.drop_zero, reduceIte, setRange, PV.cells, fillB, List.take, List.drop, List.append_eq, List.cons_append, List.nil_append, List.length, List.map, List.zip, List.zipWith, List.replicate, List.flatten, Nat.reduceAdd, Nat.reduceMul, Nat.reduceSub, PV.mapId, mapIds, Option.map, Blk.mapId, sigN, sigS, hs1]
  try conv => arg 3; simp only [Nat.reduceLT, List.reduceReplicate, List.flatten_cons, List.flatten_nil, List.append_nil, Nat.reduceMul, Nat.mul_one, Nat.one_mul, Nat.zero_mul, Nat.zero_add, List.drop_zero, List.drop_succ_cons, List.drop_nil, List.take_succ_cons, List.take_zero, List.take_nil, List.drop_drop, setRange, PV.cells, valT, List.getD_cons_zero, List.getD_cons_succ, List.take, List.length, Nat.reduceAdd, List.nil_append, applyU, hset, hdel, Nat.reduceEqDiff, reduceIte, List.append_eq, List.cons_append, List.nil_append, frz, rowsOf, updsNew, updsAt, sigN, sigS, PV.mapId, mapIds, Option.map, Blk.mapId, List.drop, heapOf, hs1]
  conv => arg 5; simp only [stride, Nat.reduceAdd]
  refine EVgo9 (And.intro (e1) ( And.intro (e2) ( And.intro (hal) ( And.intro (hbl) (eA))))) trivial trivial trivial trivial trivial trivial trivial trivial trivial trivial trivial ?_
  first | refine WO.step (k_store_row rfl rfl rfl rfl (by rw [lenT, List.length_set]; omega) rfl) ?_ | refine WOc.step (k_store_row rfl rfl rfl rfl (by rw [lenT, List.length_set]; omega) rfl) ?_
  conv => arg 2; simp only [setOpt, List.set, Nat.reduceLT, Int.reduceToNat, List.drop_drop, valT, List.getD_cons_zero, List.getD_cons_succ, Int.reduceLT, Int.reduceLE, Int.reduceAdd, Int.reduceSub, Int.reduceMul, Int.reduceNeg, Int.reduceEq, Int.reduceNe, Int.cast_ofNat_Int, Int.natCast_zero, Int.natCast_one, ge_iff_le, gt_iff_lt, decide_true, decide_false, Bool.not_true, Bool.not_false, Int.toNat_natCast, Nat.sub_zero, Nat.mul_one, Option.isSome_some, Option.isSome_none, Bool.false_eq_true, Bool.and_true, Bool.true_and, Bool.and_false, Bool.false_and, Nat.zero_add, Nat.zero_mul, List.drop_zero, reduceIte, setRange, PV.cells, fillB, List.take, List.drop, List.append_eq, List.cons_append, List.nil_append, List.length, List.map, List.zip, List.zipWith, List.replicate, List.flatten, Nat.reduceAdd, Nat.reduceMul, Nat.reduceSub, PV.mapId, mapIds, Option.map, Blk.mapId, sigN, sigS, hs2]
  try conv => arg 3; simp only [Nat.reduceLT, List.reduceReplicate, List.flatten_cons, List.flatten_nil, List.append_nil, Nat.reduceMul, Nat.mul_one, Nat.one_mul, Nat.zero_mul, Nat.zero_add, List.drop_zero, List.drop_succ_cons, List.drop_nil, List.take_succ_cons, List.take_zero, List.take_nil, List.drop_drop, setRange, PV.cells, valT, List.getD_cons_zero, List.getD_cons_succ, List.take, List.length, Nat.reduceAdd, List.nil_append, applyU, hset, hdel, Nat.reduceEqDiff, reduceIte, List.append_eq, List.cons_append, List.nil_append, frz, rowsOf, updsNew, updsAt, sigN, sigS, PV.mapId, mapIds, Option.map, Blk.mapId, List.drop, heapOf, hs2]
  conv => arg 5; simp only [stride, Nat.reduceAdd]
  refine EVgo9 (hbeq) (h14r) (h13m) (h14l) (h13l) trivial trivial trivial trivial trivial trivial trivial ?_
  exact EVret trivial
end
end Go.Proofs.YtipnedhclbopdaaDoorR
