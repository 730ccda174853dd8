/- LinWider, walked. -/
import Derived.Test.YtipnedhclbopdaaDoorEvf22G2
open Go Go.Proofs.YtipnedhclbopdaaDoorEv Go.Proofs.YtipnedhclbopdaaDoorR Go.IntWalk Go.Proofs
set_option maxRecDepth 20000
set_option maxHeartbeats 8000000
set_option linter.unusedVariables false
set_option linter.unusedSimpArgs false
namespace Go.Proofs.YtipnedhclbopdaaDoorR
def wideT (x : Ot) (d : Int) : Ot := (x.1, x.2.1, x.2.2.1, x.2.2.2.1, x.2.2.2.2.1, fromT x - d, if 0 ≤ toT x then toT x + d else toT x)
theorem wideT_arg (x : Ot) (d : Int) : argT (wideT x d) = argT x := rfl
section
variable {cf : CF} (hcf : cf = ev env)
include hcf
theorem s6 (l : List Ot) (n k by_ : Int) (hin : ∀ x ∈ l, inI (argT x) = true) (hwd : ∀ (a d : Nat), a < l.length → l.length ≤ 8 → linT l n = 1 → linT (l.set a (wideT (l.getD a nilT) d)) n = 1) : Sp cf 6 [slT l, .int .i64 n, .int .i64 k, .int .i64 by_] (.bool true) := by
  have h9 := s9 hcf
  refine sp_of hcf env6 ?_
  by_cases h8 : l.length > 8
  · have h8' : (8 : Int) < (l.length : Int) := by omega
    simp only [slT]
    conv => arg 2; simp only [ir6]
    conv => arg 3; simp only [ir6, Go.Proofs.YtipnedhclbopdaaDoorEv.start, List.length, Nat.reduceAdd, Nat.reduceSub, List.reduceReplicate, List.append_eq, List.cons_append, List.nil_append]
    conv => arg 4; simp only [heapOf]
    try conv => arg 5; simp only [List.length, Nat.reduceAdd]
    try conv => arg 6; simp only [List.length, Nat.reduceAdd]
    refine EVgo9 (h8') (h9) trivial trivial trivial trivial trivial trivial trivial trivial trivial trivial ?_
    exact EVret trivial
  have h8' : ¬ (8 : Int) < (l.length : Int) := by omega
  by_cases h0 : l.length = 0
  · have h0' : (l.length : Int) = 0 := by omega
    simp only [slT]
    conv => arg 2; simp only [ir6]
    conv => arg 3; simp only [ir6, Go.Proofs.YtipnedhclbopdaaDoorEv.start, List.length, Nat.reduceAdd, Nat.reduceSub, List.reduceReplicate, List.append_eq, List.cons_append, List.nil_append]
    conv => arg 4; simp only [heapOf]
    try conv => arg 5; simp only [List.length, Nat.reduceAdd]
    try conv => arg 6; simp only [List.length, Nat.reduceAdd]
    refine EVgo9 (And.intro (h8') (h0')) (h9) trivial trivial trivial trivial trivial trivial trivial trivial trivial trivial ?_
    exact EVret trivial
  have h0' : ((l.length : Int) == 0) = false := beqf (by omega)
  have hne : (l.length : Int) ≠ 0 := by omega
  have h14l := s14 hcf l (by omega)
  have h13l := s13 hcf l n hin
  by_cases h1 : ¬ linT l n = 1
  · have h1' : (linT l n != 1) = true := by simpa using h1
    simp only [slT] at h14l h13l ⊢
    conv => arg 2; simp only [ir6]
    conv => arg 3; simp only [ir6, Go.Proofs.YtipnedhclbopdaaDoorEv.start, List.length, Nat.reduceAdd, Nat.reduceSub, List.reduceReplicate, List.append_eq, List.cons_append, List.nil_append]
    conv => arg 4; simp only [heapOf]
    try conv => arg 5; simp only [List.length, Nat.reduceAdd]
    try conv => arg 6; simp only [List.length, Nat.reduceAdd]
    refine EVgo9 (And.intro (h8') ( And.intro (h0') (h1'))) (h9) (h14l) (h13l) trivial trivial trivial trivial trivial trivial trivial trivial ?_
    exact EVret trivial
  have h1 := Decidable.not_not.1 h1
  rw [h1] at h13l
  obtain ⟨a, ha, hka⟩ := pick_lt k (n := l.length) (by omega)
  obtain ⟨dd, hdd0, hdl⟩ := andI_le by_ 65535 (by decide)
  have hdd : andI by_ 65535 = (dd : Int) := hdd0
  have fA := andI_fold k 65535
  have fB := andI_fold by_ 65535
  have hal : (a : Int) < (l.length : Int) := by omega
  have eA := at_T ha
  have hm0 : (l.set a (wideT (l.getD a nilT) dd)).length = l.length := by simp
  have hmin : ∀ x ∈ l.set a (wideT (l.getD a nilT) dd), inI (argT x) = true := fun x hx => by
    rcases mem_set hx with q | q
    · exact hin x q
    · rw [q, wideT_arg]; exact hin _ (mem_getD ha)
  have h14m := s14 hcf (l.set a (wideT (l.getD a nilT) dd)) (by omega)
  have h13m := s13 hcf (l.set a (wideT (l.getD a nilT) dd)) n hmin
  have hraw := raw_T l (l.set a (wideT (l.getD a nilT) dd)) hm0
  rw [hwd a dd ha (by omega) h1] at h13m
  simp only [slT] at h14m h13m h14l h13l ⊢
  rw [hm0] at h14m h13m
  have h14r : Sp cf 14 [.sl l.length false (((flat encT (l.set a (wideT (l.getD a nilT) dd))).drop 0).take (l.length * 7))] (.sl l.length false (flat encT (l.set a (wideT (l.getD a nilT) dd)))) := by rw [hraw]; exact h14m
  have e1 := lenT l
  have e2 := allT l
  clear hmin h14m hraw hm0 hwd hin
  generalize hM : flat encT (l.set a (wideT (l.getD a nilT) dd)) = M at *
  unfold wideT at hM
  generalize hxa : l.getD a nilT = xa at eA hM
  obtain ⟨a1, a2, a3, a4, a5, f, g⟩ := xa
  simp only at eA
  have hM2 : flat encT (l.set a (a1, a2, a3, a4, a5, f - (dd : Int), if 0 ≤ g then g + (dd : Int) else g)) = M := hM
  clear hM
  by_cases hf : f < 0
  · conv => arg 2; simp only [ir6]
    conv => arg 3; simp only [ir6, Go.Proofs.YtipnedhclbopdaaDoorEv.start, List.length, Nat.reduceAdd, Nat.reduceSub, List.reduceReplicate, List.append_eq, List.cons_append, List.nil_append]
    conv => arg 4; simp only [heapOf]
    try conv => arg 5; simp only [List.length, Nat.reduceAdd]
    try conv => arg 6; simp only [List.length, Nat.reduceAdd]
    refine EVgo9 (And.intro (h8') ( And.intro (h0') (fA))) (h9) (h14l) (h13l) trivial trivial trivial trivial trivial trivial trivial trivial ?_
    first | refine WO.step (k_rem hne rfl rfl) ?_ | refine WOc.step (k_rem hne rfl rfl) ?_
    conv => arg 2; simp only [setOpt, List.set, Nat.reduceLT, Int.reduceToNat, List.drop_drop, valT, List.getD_cons_zero, List.getD_cons_succ, Int.reduceLT, Int.reduceLE, Int.reduceAdd, Int.reduceSub, Int.reduceMul, Int.reduceNeg, Int.reduceEq, Int.reduceNe, Int.cast_ofNat_Int, Int.natCast_zero, Int.natCast_one, ge_iff_le, gt_iff_lt, decide_true, decide_false, Bool.not_true, Bool.not_false, Int.toNat_natCast, Nat.sub_zero, Nat.mul_one, Option.isSome_some, Option.isSome_none, Bool.false_eq_true, Bool.and_true, Bool.true_and, Bool.and_false, Bool.false_and, Nat.zero_add, Nat.zero_mul, List.drop_zero, reduceIte, setRange, PV.cells, fillB, List.take, List.drop, List.append_eq, List.cons_append, List.nil_append, List.length, List.map, List.zip, List.zipWith, List.replicate, List.flatten, Nat.reduceAdd, Nat.reduceMul, Nat.reduceSub, PV.mapId, mapIds, Option.map, Blk.mapId, sigN, sigS, hka]
    try conv => arg 3; simp only [Nat.reduceLT, List.reduceReplicate, List.flatten_cons, List.flatten_nil, List.append_nil, Nat.reduceMul, Nat.mul_one, Nat.one_mul, Nat.zero_mul, Nat.zero_add, List.drop_zero, List.drop_succ_cons, List.drop_nil, List.take_succ_cons, List.take_zero, List.take_nil, List.drop_drop, setRange, PV.cells, valT, List.getD_cons_zero, List.getD_cons_succ, List.take, List.length, Nat.reduceAdd, List.nil_append, applyU, hset, hdel, Nat.reduceEqDiff, reduceIte, List.append_eq, List.cons_append, List.nil_append, frz, rowsOf, updsNew, updsAt, sigN, sigS, PV.mapId, mapIds, Option.map, Blk.mapId, List.drop, heapOf, hka]
    conv => arg 5; simp only [stride, Nat.reduceAdd]
    refine EVgo9 (And.intro (fB) ( And.intro (hdd) ( And.intro (hal) ( And.intro (eA) (hf))))) trivial trivial trivial trivial trivial trivial trivial trivial trivial trivial trivial ?_
    exact EVret trivial
  by_cases hf2 : 1099511627776 < f
  · conv => arg 2; simp only [ir6]
    conv => arg 3; simp only [ir6, Go.Proofs.YtipnedhclbopdaaDoorEv.start, List.length, Nat.reduceAdd, Nat.reduceSub, List.reduceReplicate, List.append_eq, List.cons_append, List.nil_append]
    conv => arg 4; simp only [heapOf]
    try conv => arg 5; simp only [List.length, Nat.reduceAdd]
    try conv => arg 6; simp only [List.length, Nat.reduceAdd]
    refine EVgo9 (And.intro (h8') ( And.intro (h0') (fA))) (h9) (h14l) (h13l) trivial trivial trivial trivial trivial trivial trivial trivial ?_
    first | refine WO.step (k_rem hne rfl rfl) ?_ | refine WOc.step (k_rem hne rfl rfl) ?_
    conv => arg 2; simp only [setOpt, List.set, Nat.reduceLT, Int.reduceToNat, List.drop_drop, valT, List.getD_cons_zero, List.getD_cons_succ, Int.reduceLT, Int.reduceLE, Int.reduceAdd, Int.reduceSub, Int.reduceMul, Int.reduceNeg, Int.reduceEq, Int.reduceNe, Int.cast_ofNat_Int, Int.natCast_zero, Int.natCast_one, ge_iff_le, gt_iff_lt, decide_true, decide_false, Bool.not_true, Bool.not_false, Int.toNat_natCast, Nat.sub_zero, Nat.mul_one, Option.isSome_some, Option.isSome_none, Bool.false_eq_true, Bool.and_true, Bool.true_and, Bool.and_false, Bool.false_and, Nat.zero_add, Nat.zero_mul, List.drop_zero, reduceIte, setRange, PV.cells, fillB, List.take, List.drop, List.append_eq, List.cons_append, List.nil_append, List.length, List.map, List.zip, List.zipWith, List.replicate, List.flatten, Nat.reduceAdd, Nat.reduceMul, Nat.reduceSub, PV.mapId, mapIds, Option.map, Blk.mapId, sigN, sigS, hka]
    try conv => arg 3; simp only [Nat.reduceLT, List.reduceReplicate, List.flatten_cons, List.flatten_nil, List.append_nil, Nat.reduceMul, Nat.mul_one, Nat.one_mul, Nat.zero_mul, Nat.zero_add, List.drop_zero, List.drop_succ_cons, List.drop_nil, List.take_succ_cons, List.take_zero, List.take_nil, List.drop_drop, setRange, PV.cells, valT, List.getD_cons_zero, List.getD_cons_succ, List.take, List.length, Nat.reduceAdd, List.nil_append, applyU, hset, hdel, Nat.reduceEqDiff, reduceIte, List.append_eq, List.cons_append, List.nil_append, frz, rowsOf, updsNew, updsAt, sigN, sigS, PV.mapId, mapIds, Option.map, Blk.mapId, List.drop, heapOf, hka]
    conv => arg 5; simp only [stride, Nat.reduceAdd]
    refine EVgo9 (And.intro (fB) ( And.intro (hdd) ( And.intro (hal) ( And.intro (eA) ( And.intro (hf) (hf2)))))) trivial trivial trivial trivial trivial trivial trivial trivial trivial trivial trivial ?_
    exact EVret trivial
  by_cases hg2 : 1099511627776 < g
  · conv => arg 2; simp only [ir6]
    conv => arg 3; simp only [ir6, Go.Proofs.YtipnedhclbopdaaDoorEv.start, List.length, Nat.reduceAdd, Nat.reduceSub, List.reduceReplicate, List.append_eq, List.cons_append, List.nil_append]
    conv => arg 4; simp only [heapOf]
    try conv => arg 5; simp only [List.length, Nat.reduceAdd]
    try conv => arg 6; simp only [List.length, Nat.reduceAdd]
    refine EVgo9 (And.intro (h8') ( And.intro (h0') (fA))) (h9) (h14l) (h13l) trivial trivial trivial trivial trivial trivial trivial trivial ?_
    first | refine WO.step (k_rem hne rfl rfl) ?_ | refine WOc.step (k_rem hne rfl rfl) ?_
    conv => arg 2; simp only [setOpt, List.set, Nat.reduceLT, Int.reduceToNat, List.drop_drop, valT, List.getD_cons_zero, List.getD_cons_succ, Int.reduceLT, Int.reduceLE, Int.reduceAdd, Int.reduceSub, Int.reduceMul, Int.reduceNeg, Int.reduceEq, Int.reduceNe, Int.cast_ofNat_Int, Int.natCast_zero, Int.natCast_one, ge_iff_le, gt_iff_lt, decide_true, decide_false, Bool.not_true, Bool.not_false, Int.toNat_natCast, Nat.sub_zero, Nat.mul_one, Option.isSome_some, Option.isSome_none, Bool.false_eq_true, Bool.and_true, Bool.true_and, Bool.and_false, Bool.false_and, Nat.zero_add, Nat.zero_mul, List.drop_zero, reduceIte, setRange, PV.cells, fillB, List.take, List.drop, List.append_eq, List.cons_append, List.nil_append, List.length, List.map, List.zip, List.zipWith, List.replicate, List.flatten, Nat.reduceAdd, Nat.reduceMul, Nat.reduceSub, PV.mapId, mapIds, Option.map, Blk.mapId, sigN, sigS, hka]
    try conv => arg 3; simp only [Nat.reduceLT, List.reduceReplicate, List.flatten_cons, List.flatten_nil, List.append_nil, Nat.reduceMul, Nat.mul_one, Nat.one_mul, Nat.zero_mul, Nat.zero_add, List.drop_zero, List.drop_succ_cons, List.drop_nil, List.take_succ_cons, List.take_zero, List.take_nil, List.drop_drop, setRange, PV.cells, valT, List.getD_cons_zero, List.getD_cons_succ, List.take, List.length, Nat.reduceAdd, List.nil_append, applyU, hset, hdel, Nat.reduceEqDiff, reduceIte, List.append_eq, List.cons_append, List.nil_append, frz, rowsOf, updsNew, updsAt, sigN, sigS, PV.mapId, mapIds, Option.map, Blk.mapId, List.drop, heapOf, hka]
    conv => arg 5; simp only [stride, Nat.reduceAdd]
    refine EVgo9 (And.intro (fB) ( And.intro (hdd) ( And.intro (hal) ( And.intro (eA) ( And.intro (hf) ( And.intro (hf2) (hg2))))))) trivial trivial trivial trivial trivial trivial trivial trivial trivial trivial trivial ?_
    exact EVret trivial
  have hwf : IntKind.i64.wrap (f - (dd : Int)) = f - (dd : Int) := i64_in _ (by omega)
  by_cases hg : 0 ≤ g
  · rw [if_pos hg] at hM2
    have hwg : IntKind.i64.wrap (g + (dd : Int)) = g + (dd : Int) := i64_in _ (by omega)
    have hs1 := set_T l a a1 a2 a3 a4 a5 (f - dd) (g + dd) ha
    rw [hM2] at hs1
    conv => arg 2; simp only [ir6]
    conv => arg 3; simp only [ir6, Go.Proofs.YtipnedhclbopdaaDoorEv.start, List.length, Nat.reduceAdd, Nat.reduceSub, List.reduceReplicate, List.append_eq, List.cons_append, List.nil_append]
    conv => arg 4; simp only [heapOf]
    try conv => arg 5; simp only [List.length, Nat.reduceAdd]
    try conv => arg 6; simp only [List.length, Nat.reduceAdd]
    refine EVgo9 (And.intro (h8') ( And.intro (h0') (fA))) (h9) (h14l) (h13l) trivial trivial trivial trivial trivial trivial trivial trivial ?_
    first | refine WO.step (k_rem hne rfl rfl) ?_ | refine WOc.step (k_rem hne rfl rfl) ?_
    conv => arg 2; simp only [setOpt, List.set, Nat.reduceLT, Int.reduceToNat, List.drop_drop, valT, List.getD_cons_zero, List.getD_cons_succ, Int.reduceLT, Int.reduceLE, Int.reduceAdd, Int.reduceSub, Int.reduceMul, Int.reduceNeg, Int.reduceEq, Int.reduceNe, Int.cast_ofNat_Int, Int.natCast_zero, Int.natCast_one, ge_iff_le, gt_iff_lt, decide_true, decide_false, Bool.not_true, Bool.not_false, Int.toNat_natCast, Nat.sub_zero, Nat.mul_one, Option.isSome_some, Option.isSome_none, Bool.false_eq_true, Bool.and_true, Bool.true_and, Bool.and_false, Bool.false_and, Nat.zero_add, Nat.zero_mul, List.drop_zero, reduceIte, setRange, PV.cells, fillB, List.take, List.drop, List.append_eq, List.cons_append, List.nil_append, List.length, List.map, List.zip, List.zipWith, List.replicate, List.flatten, Nat.reduceAdd, Nat.reduceMul, Nat.reduceSub, PV.mapId, mapIds, Option.map, Blk.mapId, sigN, sigS, hka]
    try conv => arg 3; simp only [Nat.reduceLT, List.reduceReplicate, List.flatten_cons, List.flatten_nil, List.append_nil, Nat.reduceMul, Nat.mul_one, Nat.one_mul, Nat.zero_mul, Nat.zero_add, List.drop_zero, List.drop_succ_cons, List.drop_nil, List.take_succ_cons, List.take_zero, List.take_nil, List.drop_drop, setRange, PV.cells, valT, List.getD_cons_zero, List.getD_cons_succ, List.take, List.length, Nat.reduceAdd, List.nil_append, applyU, hset, hdel, Nat.reduceEqDiff, reduceIte, List.append_eq, List.cons_append, List.nil_append, frz, rowsOf, updsNew, updsAt, sigN, sigS, PV.mapId, mapIds, Option.map, Blk.mapId, List.drop, heapOf, hka]
    conv => arg 5; simp only [stride, Nat.reduceAdd]
    refine EVgo9 (And.intro (fB) ( And.intro (hdd) ( And.intro (hal) ( And.intro (eA) ( And.intro (hf) ( And.intro (hf2) ( And.intro (hg2) ( And.intro (hwf) ( And.intro (hg) (hwg)))))))))) trivial trivial trivial trivial trivial trivial trivial trivial trivial trivial trivial ?_
    refine EVgo9 (And.intro (e1) ( And.intro (e2) (hal))) trivial trivial trivial trivial trivial trivial trivial trivial trivial trivial trivial ?_
    first | refine WO.step (k_store_row rfl rfl rfl rfl (by rw [lenT]; omega) rfl) ?_ | refine WOc.step (k_store_row rfl rfl rfl rfl (by rw [lenT]; omega) rfl) ?_
    conv => arg 2; simp only [setOpt, List.set, Nat.reduceLT, Int.reduceToNat, List.drop_drop, valT, List.getD_cons_zero, List.getD_cons_succ, Int.reduceLT, Int.reduceLE, Int.reduceAdd, Int.reduceSub, Int.reduceMul, Int.reduceNeg, Int.reduceEq, Int.reduceNe, Int.cast_ofNat_Int, Int.natCast_zero, Int.natCast_one, ge_iff_le, gt_iff_lt, decide_true, decide_false, Bool.not_true, Bool.not_false, Int.toNat_natCast, Nat.sub_zero, Nat.mul_one, Option.isSome_some, Option.isSome_none, Bool.false_eq_true, Bool.and_true, Bool.true_and, Bool.and_false, Bool.false_and, Nat.zero_add, Nat.zero_mul, List.drop_zero, reduceIte, setRange, PV.cells, fillB, List.take, List.drop, List.append_eq, List.cons_append, List.nil_append, List.length, List.map, List.zip, List.zipWith, List.replicate, List.flatten, Nat.reduceAdd, Nat.reduceMul, Nat.reduceSub, PV.mapId, mapIds, Option.map, Blk.mapId, sigN, sigS, hs1]
    try conv => arg 3; simp only [Nat.reduceLT, List.reduceReplicate, List.flatten_cons, List.flatten_nil, List.append_nil, Nat.reduceMul, Nat.mul_one, Nat.one_mul, Nat.zero_mul, Nat.zero_add, List.drop_zero, List.drop_succ_cons, List.drop_nil, List.take_succ_cons, List.take_zero, List.take_nil, List.drop_drop, setRange, PV.cells, valT, List.getD_cons_zero, List.getD_cons_succ, List.take, List.length, Nat.reduceAdd, List.nil_append, applyU, hset, hdel, Nat.reduceEqDiff, reduceIte, List.append_eq, List.cons_append, List.nil_append, frz, rowsOf, updsNew, updsAt, sigN, sigS, PV.mapId, mapIds, Option.map, Blk.mapId, List.drop, heapOf, hs1]
    conv => arg 5; simp only [stride, Nat.reduceAdd]
    refine EVgo9 trivial (h14r) (h13m) trivial trivial trivial trivial trivial trivial trivial trivial trivial ?_
    exact EVret trivial
  · rw [if_neg hg] at hM2
    have hs1 := set_T l a a1 a2 a3 a4 a5 (f - dd) g ha
    rw [hM2] at hs1
    conv => arg 2; simp only [ir6]
    conv => arg 3; simp only [ir6, Go.Proofs.YtipnedhclbopdaaDoorEv.start, List.length, Nat.reduceAdd, Nat.reduceSub, List.reduceReplicate, List.append_eq, List.cons_append, List.nil_append]
    conv => arg 4; simp only [heapOf]
    try conv => arg 5; simp only [List.length, Nat.reduceAdd]
    try conv => arg 6; simp only [List.length, Nat.reduceAdd]
    refine EVgo9 (And.intro (h8') ( And.intro (h0') (fA))) (h9) (h14l) (h13l) trivial trivial trivial trivial trivial trivial trivial trivial ?_
    first | refine WO.step (k_rem hne rfl rfl) ?_ | refine WOc.step (k_rem hne rfl rfl) ?_
    conv => arg 2; simp only [setOpt, List.set, Nat.reduceLT, Int.reduceToNat, List.drop_drop, valT, List.getD_cons_zero, List.getD_cons_succ, Int.reduceLT, Int.reduceLE, Int.reduceAdd, Int.reduceSub, Int.reduceMul, Int.reduceNeg, Int.reduceEq, Int.reduceNe, Int.cast_ofNat_Int, Int.natCast_zero, Int.natCast_one, ge_iff_le, gt_iff_lt, decide_true, decide_false, Bool.not_true, Bool.not_false, Int.toNat_natCast, Nat.sub_zero, Nat.mul_one, Option.isSome_some, Option.isSome_none, Bool.false_eq_true, Bool.and_true, Bool.true_and, Bool.and_false, Bool.false_and, Nat.zero_add, Nat.zero_mul, List.drop_zero, reduceIte, setRange, PV.cells, fillB, List.take, List.drop, List.append_eq, List.cons_append, List.nil_append, List.length, List.map, List.zip, List.zipWith, List.replicate, List.flatten, Nat.reduceAdd, Nat.reduceMul, Nat.reduceSub, PV.mapId, mapIds, Option.map, Blk.mapId, sigN, sigS, hka]
    try conv => arg 3; simp only [Nat.reduceLT, List.reduceReplicate, List.flatten_cons, List.flatten_nil, List.append_nil, Nat.reduceMul, Nat.mul_one, Nat.one_mul, Nat.zero_mul, Nat.zero_add, List.drop_zero, List.drop_succ_cons, List.drop_nil, List.take_succ_cons, List.take_zero, List.take_nil, List.drop_drop, setRange, PV.cells, valT, List.getD_cons_zero, List.getD_cons_succ, List.take, List.length, Nat.reduceAdd, List.nil_append, applyU, hset, hdel, Nat.reduceEqDiff, reduceIte, List.append_eq, List.cons_append, List.nil_append, frz, rowsOf, updsNew, updsAt, sigN, sigS, PV.mapId, mapIds, Option.map, Blk.mapId, List.drop, heapOf, hka]
    conv => arg 5; simp only [stride, Nat.reduceAdd]
    refine EVgo9 (And.intro (fB) ( And.intro (hdd) ( And.intro (hal) ( And.intro (eA) ( And.intro (hf) ( And.intro (hf2) ( And.intro (hg2) ( And.intro (hwf) (hg))))))))) trivial trivial trivial trivial trivial trivial trivial trivial trivial trivial trivial ?_
    refine EVgo9 (And.intro (e1) ( And.intro (e2) (hal))) trivial trivial trivial trivial trivial trivial trivial trivial trivial trivial trivial ?_
    first | refine WO.step (k_store_row rfl rfl rfl rfl (by rw [lenT]; omega) rfl) ?_ | refine WOc.step (k_store_row rfl rfl rfl rfl (by rw [lenT]; omega) rfl) ?_
    conv => arg 2; simp only [setOpt, List.set, Nat.reduceLT, Int.reduceToNat, List.drop_drop, valT, List.getD_cons_zero, List.getD_cons_succ, Int.reduceLT, Int.reduceLE, Int.reduceAdd, Int.reduceSub, Int.reduceMul, Int.reduceNeg, Int.reduceEq, Int.reduceNe, Int.cast_ofNat_Int, Int.natCast_zero, Int.natCast_one, ge_iff_le, gt_iff_lt, decide_true, decide_false, Bool.not_true, Bool.not_false, Int.toNat_natCast, Nat.sub_zero, Nat.mul_one, Option.isSome_some, Option.isSome_none, Bool.false_eq_true, Bool.and_true, Bool.true_and, Bool.and_false, Bool.false_and, Nat.zero_add, Nat.zero_mul, List.drop_zero, reduceIte, setRange, PV.cells, fillB, List.take, List.drop, List.append_eq, List.cons_append, List.nil_append, List.length, List.map, List.zip, List.zipWith, List.replicate, List.flatten, Nat.reduceAdd, Nat.reduceMul, Nat.reduceSub, PV.mapId, mapIds, Option.map, Blk.mapId, sigN, sigS, hs1]
    try conv => arg 3; simp only [Nat.reduceLT, List.reduceReplicate, List.flatten_cons, List.flatten_nil, List.append_nil, Nat.reduceMul, Nat.mul_one, Nat.one_mul, Nat.zero_mul, Nat.zero_add, List.drop_zero, List.drop_succ_cons, List.drop_nil, List.take_succ_cons, List.take_zero, List.take_nil, List.drop_drop, setRange, PV.cells, valT, List.getD_cons_zero, List.getD_cons_succ, List.take, List.length, Nat.reduceAdd, List.nil_append, applyU, hset, hdel, Nat.reduceEqDiff, reduceIte, List.append_eq, List.cons_append, List.nil_append, frz, rowsOf, updsNew, updsAt, sigN, sigS, PV.mapId, mapIds, Option.map, Blk.mapId, List.drop, heapOf, hs1]
    conv => arg 5; simp only [stride, Nat.reduceAdd]
    refine EVgo9 trivial (h14r) (h13m) trivial trivial trivial trivial trivial trivial trivial trivial trivial ?_
    exact EVret trivial
end
end Go.Proofs.YtipnedhclbopdaaDoorR
