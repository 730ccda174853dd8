/- LinRow, walked: last in, first out. -/
import Derived.Test.YtipnedhclbopdaaDoorEvf22J0
open Go Go.Proofs.YtipnedhclbopdaaDoorEv Go.Proofs.YtipnedhclbopdaaDoorR Go.IntWalk Go.Proofs
set_option maxRecDepth 20000
set_option maxHeartbeats 8000000
set_option linter.unusedVariables false
set_option linter.unusedSimpArgs false
namespace Go.Proofs.YtipnedhclbopdaaDoorR
section
variable {cf : CF} (hcf : cf = ev env)
include hcf
theorem s4f (vals : List Int) (n : Int) (spoil : Int) : Sp cf 4 [slI vals, .int .i64 n, .bool false, .int .i64 spoil] (.bool true) := by
  have h9 := s9 hcf
  refine sp_of hcf env4 ?_
  by_cases h8 : vals.length > 8
  · have h8' : (8 : Int) < (vals.length : Int) := by omega
    simp only [slI]
    conv => arg 2; simp only [ir4]
    conv => arg 3; simp only [ir4, Go.Proofs.YtipnedhclbopdaaDoorEv.start, List.length, Nat.reduceAdd, Nat.reduceSub, List.reduceReplicate, List.append_eq, List.cons_append, List.nil_append]
    conv => arg 4; simp only [heapOf]
    try conv => arg 5; simp only [List.length, Nat.reduceAdd]
    try conv => arg 6; simp only [List.length, Nat.reduceAdd]
    refine EVgo9 (h8') (h9) trivial trivial trivial trivial trivial trivial trivial trivial trivial trivial ?_
    exact EVret trivial
  have h8' : ¬ (8 : Int) < (vals.length : Int) := by omega
  have fN := andI_fold n 3
  have hn3 := and3 n
  obtain ⟨room, hr⟩ : ∃ room, room = 1 + andI n 3 := ⟨_, rfl⟩
  have hroom : IntKind.i64.wrap (1 + andI n 3) = room := by rw [hr]; exact i64_in _ (by omega)
  have hr1 : 1 ≤ room := by omega
  have hr4 : room ≤ 4 := by omega
  have hK : Kinds 0 1 false := ⟨rfl, rfl⟩
  simp only [slI]
  conv => arg 2; simp only [ir4]
  conv => arg 3; simp only [ir4, Go.Proofs.YtipnedhclbopdaaDoorEv.start, List.length, Nat.reduceAdd, Nat.reduceSub, List.reduceReplicate, List.append_eq, List.cons_append, List.nil_append]
  conv => arg 4; simp only [heapOf]
  try conv => arg 5; simp only [List.length, Nat.reduceAdd]
  try conv => arg 6; simp only [List.length, Nat.reduceAdd]
  refine EVgo9 (And.intro (h8') ( And.intro (fN) (hroom))) (h9) trivial trivial trivial trivial trivial trivial trivial trivial trivial trivial ?_
  refine WC.loop (T' := _) (H' := _) (n' := _) rfl ((?_ : ∀ (r p : List Int) (L : List Ot) (hv : PV) (h : List Int), p ++ r = vals → L.length = p.length → L ++ rowL 0 1 false room p.length r h = rowL 0 1 false room 0 vals [] → h.length ≤ p.length → (hv = slI h ∨ hv = .nil ∧ h = []) →
    WC cf _ (mkT 189 [(0, .sl vals.length false (flat encI vals)), (2, .bool false), (3, .int .i64 spoil), (9, .bool true), (10, .int .i64 room), (11, .int .i64 0), (12, .int .i64 1), (13, .own 0 7 0 p.length), (14, hv), (15, .int .i64 (p.length : Nat))]) [(0, .row (flat encT L))] 0 1 _) vals [] [] .nil [] rfl rfl rfl (Nat.le_refl _) (.inr ⟨rfl, rfl⟩))
  intro r
  induction r with
  | nil =>
    intro p L hv h hp hLp hF hhl _
    rw [List.append_nil] at hp
    have hpl : p.length = vals.length := by rw [hp]
    rw [rowL, List.append_nil] at hF
    subst hF
    rw [hpl] at hLp ⊢
    clear hp hpl
    have h13 := s13 hcf (rowL 0 1 false room 0 vals []) room (rowL_in _ _ _)
    rw [lin_row hK hr1 hr4 vals (by omega)] at h13
    have hraw : ((flat encT (rowL 0 1 false room 0 vals [])).drop 0).take (vals.length * 7) = flat encT (rowL 0 1 false room 0 vals []) := by
      have := allT (rowL 0 1 false room 0 vals [])
      rwa [hLp] at this
    simp only [slT] at h13
    rw [hLp] at h13
    have h13r : Sp cf 13 [.sl vals.length false (((flat encT (rowL 0 1 false room 0 vals [])).drop 0).take (vals.length * 7)), .int .i64 room] (.int .i64 1) := by rw [hraw]; exact h13
    by_cases h0 : vals.length = 0
    · have h0b : ((vals.length : Int) == 0) = true := by rw [h0]; rfl
      conv => arg 3; simp only [mkT, putT, List.reduceReplicate, List.set]
      refine EVgl9 trivial trivial trivial trivial trivial trivial trivial trivial trivial trivial trivial trivial ?_
      refine EVgo9 (h0b) (h13r) trivial trivial trivial trivial trivial trivial trivial trivial trivial trivial ?_
      exact EVret trivial
    have h0b : ((vals.length : Int) == 0) = false := beqf (by omega)
    have hne : (vals.length : Int) ≠ 0 := by omega
    obtain ⟨k, hk, hkk⟩ := pick_lt spoil (n := vals.length) (by omega)
    have fS := andI_fold spoil 65535
    have hkl : (k : Int) < (vals.length : Int) := by omega
    have hkL : k < (rowL 0 1 false room 0 vals []).length := by rw [hLp]; exact hk
    have hflip := lin_flip hK hr1 hr4 vals (by omega) k hk
    have h13m := s13 hcf ((rowL 0 1 false room 0 vals []).set k (flip ((rowL 0 1 false room 0 vals []).getD k nilT))) room (fun x hx => by
      rcases mem_set hx with q | q
      · exact rowL_in _ _ _ x q
      · have e0 : ∀ y : Ot, argT (flip y) = argT y := fun _ => rfl
        rw [q, e0]; exact rowL_in _ _ _ _ (mem_getD hkL))
    rw [hflip] at h13m
    have hrawm : ((flat encT ((rowL 0 1 false room 0 vals []).set k (flip ((rowL 0 1 false room 0 vals []).getD k nilT)))).drop 0).take (vals.length * 7) = flat encT ((rowL 0 1 false room 0 vals []).set k (flip ((rowL 0 1 false room 0 vals []).getD k nilT))) := by
      have := allT ((rowL 0 1 false room 0 vals []).set k (flip ((rowL 0 1 false room 0 vals []).getD k nilT)))
      rwa [List.length_set, hLp] at this
    simp only [slT] at h13m
    rw [List.length_set, hLp, ← hrawm] at h13m
    have eL1 := lenT (rowL 0 1 false room 0 vals [])
    rw [hLp] at eL1
    have eL2 := allT (rowL 0 1 false room 0 vals [])
    rw [hLp] at eL2
    clear hflip hrawm
    generalize hx : (rowL 0 1 false room 0 vals []).getD k nilT = x at h13m
    generalize rowL 0 1 false room 0 vals [] = FL at *
    obtain ⟨a, b, c, d, e, f, g⟩ := x
    obtain ⟨w0, w1, w2, w3, w4, w5, w6⟩ := cells_T hkL hx
    have hs1 := set_T FL k a b c d (!e) f g hkL
    have hfl : flip (a, b, c, d, e, f, g) = (a, b, c, d, !e, f, g) := rfl
    rw [hfl] at h13m
    conv => arg 3; simp only [mkT, putT, List.reduceReplicate, List.set]
    refine EVgl9 trivial trivial trivial trivial trivial trivial trivial trivial trivial trivial trivial trivial ?_
    refine EVgo9 (And.intro (h0b) (fS)) (h13r) trivial trivial trivial trivial trivial trivial trivial trivial trivial trivial ?_
    first | refine WO.step (k_rem hne rfl rfl) ?_ | refine WOc.step (k_rem hne rfl rfl) ?_
    conv => arg 2; simp only [setOpt, List.set, Nat.reduceLT, Int.reduceToNat, List.drop_drop, valT, List.getD_cons_zero, List.getD_cons_succ, Int.reduceLT, Int.reduceLE, Int.reduceAdd, Int.reduceSub, Int.reduceMul, Int.reduceNeg, Int.reduceEq, Int.reduceNe, Int.cast_ofNat_Int, Int.natCast_zero, Int.natCast_one, ge_iff_le, gt_iff_lt, decide_true, decide_false, Bool.not_true, Bool.not_false, Int.toNat_natCast, Nat.sub_zero, Nat.mul_one, Option.isSome_some, Option.isSome_none, Bool.false_eq_true, Bool.and_true, Bool.true_and, Bool.and_false, Bool.false_and, Nat.zero_add, Nat.zero_mul, List.drop_zero, reduceIte, setRange, PV.cells, fillB, List.take, List.drop, List.append_eq, List.cons_append, List.nil_append, List.length, List.map, List.zip, List.zipWith, List.replicate, List.flatten, Nat.reduceAdd, Nat.reduceMul, Nat.reduceSub, PV.mapId, mapIds, Option.map, Blk.mapId, sigN, sigS, hkk]
    try conv => arg 3; simp only [Nat.reduceLT, List.reduceReplicate, List.flatten_cons, List.flatten_nil, List.append_nil, Nat.reduceMul, Nat.mul_one, Nat.one_mul, Nat.zero_mul, Nat.zero_add, List.drop_zero, List.drop_succ_cons, List.drop_nil, List.take_succ_cons, List.take_zero, List.take_nil, List.drop_drop, setRange, PV.cells, valT, List.getD_cons_zero, List.getD_cons_succ, List.take, List.length, Nat.reduceAdd, List.nil_append, applyU, hset, hdel, Nat.reduceEqDiff, reduceIte, List.append_eq, List.cons_append, List.nil_append, frz, rowsOf, updsNew, updsAt, sigN, sigS, PV.mapId, mapIds, Option.map, Blk.mapId, List.drop, heapOf, hkk]
    conv => arg 5; simp only [stride, Nat.reduceAdd]
    refine EVgo9 (And.intro (eL1) (eL2)) trivial trivial trivial trivial trivial trivial trivial trivial trivial trivial trivial ?_
    first | refine WO.step (k_append_own (ys := ((flat encT FL).drop 0).take (vals.length * 7)) rfl rfl rfl (by rw [hraw]; exact eL1) (by unfold mostLen; omega) (by simp)) ?_ | refine WOc.step (k_append_own (ys := ((flat encT FL).drop 0).take (vals.length * 7)) rfl rfl rfl (by rw [hraw]; exact eL1) (by unfold mostLen; omega) (by simp)) ?_
    conv => arg 2; simp only [setOpt, List.set, Nat.reduceLT, Int.reduceToNat, List.drop_drop, valT, List.getD_cons_zero, List.getD_cons_succ, Int.reduceLT, Int.reduceLE, Int.reduceAdd, Int.reduceSub, Int.reduceMul, Int.reduceNeg, Int.reduceEq, Int.reduceNe, Int.cast_ofNat_Int, Int.natCast_zero, Int.natCast_one, ge_iff_le, gt_iff_lt, decide_true, decide_false, Bool.not_true, Bool.not_false, Int.toNat_natCast, Nat.sub_zero, Nat.mul_one, Option.isSome_some, Option.isSome_none, Bool.false_eq_true, Bool.and_true, Bool.true_and, Bool.and_false, Bool.false_and, Nat.zero_add, Nat.zero_mul, List.drop_zero, reduceIte, setRange, PV.cells, fillB, List.take, List.drop, List.append_eq, List.cons_append, List.nil_append, List.length, List.map, List.zip, List.zipWith, List.replicate, List.flatten, Nat.reduceAdd, Nat.reduceMul, Nat.reduceSub, PV.mapId, mapIds, Option.map, Blk.mapId, sigN, sigS, eL2]
    try conv => arg 3; simp only [Nat.reduceLT, List.reduceReplicate, List.flatten_cons, List.flatten_nil, List.append_nil, Nat.reduceMul, Nat.mul_one, Nat.one_mul, Nat.zero_mul, Nat.zero_add, List.drop_zero, List.drop_succ_cons, List.drop_nil, List.take_succ_cons, List.take_zero, List.take_nil, List.drop_drop, setRange, PV.cells, valT, List.getD_cons_zero, List.getD_cons_succ, List.take, List.length, Nat.reduceAdd, List.nil_append, applyU, hset, hdel, Nat.reduceEqDiff, reduceIte, List.append_eq, List.cons_append, List.nil_append, frz, rowsOf, updsNew, updsAt, sigN, sigS, PV.mapId, mapIds, Option.map, Blk.mapId, List.drop, heapOf, eL2]
    conv => arg 5; simp only [stride, Nat.reduceAdd]
    refine EVgo9 (And.intro (hkl) ( And.intro (eL1) (eL2))) trivial trivial trivial trivial trivial trivial trivial trivial trivial trivial trivial ?_
    first | refine WO.step (k_load1 rfl rfl w0) ?_ | refine WOc.step (k_load1 rfl rfl w0) ?_
    conv => arg 2; simp only [setOpt, List.set, Nat.reduceLT, Int.reduceToNat, List.drop_drop, valT, List.getD_cons_zero, List.getD_cons_succ, Int.reduceLT, Int.reduceLE, Int.reduceAdd, Int.reduceSub, Int.reduceMul, Int.reduceNeg, Int.reduceEq, Int.reduceNe, Int.cast_ofNat_Int, Int.natCast_zero, Int.natCast_one, ge_iff_le, gt_iff_lt, decide_true, decide_false, Bool.not_true, Bool.not_false, Int.toNat_natCast, Nat.sub_zero, Nat.mul_one, Option.isSome_some, Option.isSome_none, Bool.false_eq_true, Bool.and_true, Bool.true_and, Bool.and_false, Bool.false_and, Nat.zero_add, Nat.zero_mul, List.drop_zero, reduceIte, setRange, PV.cells, fillB, List.take, List.drop, List.append_eq, List.cons_append, List.nil_append, List.length, List.map, List.zip, List.zipWith, List.replicate, List.flatten, Nat.reduceAdd, Nat.reduceMul, Nat.reduceSub, PV.mapId, mapIds, Option.map, Blk.mapId, sigN, sigS]
    try conv => arg 3; simp only [Nat.reduceLT, List.reduceReplicate, List.flatten_cons, List.flatten_nil, List.append_nil, Nat.reduceMul, Nat.mul_one, Nat.one_mul, Nat.zero_mul, Nat.zero_add, List.drop_zero, List.drop_succ_cons, List.drop_nil, List.take_succ_cons, List.take_zero, List.take_nil, List.drop_drop, setRange, PV.cells, valT, List.getD_cons_zero, List.getD_cons_succ, List.take, List.length, Nat.reduceAdd, List.nil_append, applyU, hset, hdel, Nat.reduceEqDiff, reduceIte, List.append_eq, List.cons_append, List.nil_append, frz, rowsOf, updsNew, updsAt, sigN, sigS, PV.mapId, mapIds, Option.map, Blk.mapId, List.drop, heapOf]
    conv => arg 5; simp only [stride, Nat.reduceAdd]
    refine EVgo9 (And.intro (hkl) ( And.intro (eL1) (eL2))) trivial trivial trivial trivial trivial trivial trivial trivial trivial trivial trivial ?_
    first | refine WO.step (k_load1 rfl rfl w1) ?_ | refine WOc.step (k_load1 rfl rfl w1) ?_
    conv => arg 2; simp only [setOpt, List.set, Nat.reduceLT, Int.reduceToNat, List.drop_drop, valT, List.getD_cons_zero, List.getD_cons_succ, Int.reduceLT, Int.reduceLE, Int.reduceAdd, Int.reduceSub, Int.reduceMul, Int.reduceNeg, Int.reduceEq, Int.reduceNe, Int.cast_ofNat_Int, Int.natCast_zero, Int.natCast_one, ge_iff_le, gt_iff_lt, decide_true, decide_false, Bool.not_true, Bool.not_false, Int.toNat_natCast, Nat.sub_zero, Nat.mul_one, Option.isSome_some, Option.isSome_none, Bool.false_eq_true, Bool.and_true, Bool.true_and, Bool.and_false, Bool.false_and, Nat.zero_add, Nat.zero_mul, List.drop_zero, reduceIte, setRange, PV.cells, fillB, List.take, List.drop, List.append_eq, List.cons_append, List.nil_append, List.length, List.map, List.zip, List.zipWith, List.replicate, List.flatten, Nat.reduceAdd, Nat.reduceMul, Nat.reduceSub, PV.mapId, mapIds, Option.map, Blk.mapId, sigN, sigS]
    try conv => arg 3; simp only [Nat.reduceLT, List.reduceReplicate, List.flatten_cons, List.flatten_nil, List.append_nil, Nat.reduceMul, Nat.mul_one, Nat.one_mul, Nat.zero_mul, Nat.zero_add, List.drop_zero, List.drop_succ_cons, List.drop_nil, List.take_succ_cons, List.take_zero, List.take_nil, List.drop_drop, setRange, PV.cells, valT, List.getD_cons_zero, List.getD_cons_succ, List.take, List.length, Nat.reduceAdd, List.nil_append, applyU, hset, hdel, Nat.reduceEqDiff, reduceIte, List.append_eq, List.cons_append, List.nil_append, frz, rowsOf, updsNew, updsAt, sigN, sigS, PV.mapId, mapIds, Option.map, Blk.mapId, List.drop, heapOf]
    conv => arg 5; simp only [stride, Nat.reduceAdd]
    refine EVgo9 (And.intro (hkl) ( And.intro (eL1) (eL2))) trivial trivial trivial trivial trivial trivial trivial trivial trivial trivial trivial ?_
    first | refine WO.step (k_load1 rfl rfl w2) ?_ | refine WOc.step (k_load1 rfl rfl w2) ?_
    conv => arg 2; simp only [setOpt, List.set, Nat.reduceLT, Int.reduceToNat, List.drop_drop, valT, List.getD_cons_zero, List.getD_cons_succ, Int.reduceLT, Int.reduceLE, Int.reduceAdd, Int.reduceSub, Int.reduceMul, Int.reduceNeg, Int.reduceEq, Int.reduceNe, Int.cast_ofNat_Int, Int.natCast_zero, Int.natCast_one, ge_iff_le, gt_iff_lt, decide_true, decide_false, Bool.not_true, Bool.not_false, Int.toNat_natCast, Nat.sub_zero, Nat.mul_one, Option.isSome_some, Option.isSome_none, Bool.false_eq_true, Bool.and_true, Bool.true_and, Bool.and_false, Bool.false_and, Nat.zero_add, Nat.zero_mul, List.drop_zero, reduceIte, setRange, PV.cells, fillB, List.take, List.drop, List.append_eq, List.cons_append, List.nil_append, List.length, List.map, List.zip, List.zipWith, List.replicate, List.flatten, Nat.reduceAdd, Nat.reduceMul, Nat.reduceSub, PV.mapId, mapIds, Option.map, Blk.mapId, sigN, sigS]
    try conv => arg 3; simp only [Nat.reduceLT, List.reduceReplicate, List.flatten_cons, List.flatten_nil, List.append_nil, Nat.reduceMul, Nat.mul_one, Nat.one_mul, Nat.zero_mul, Nat.zero_add, List.drop_zero, List.drop_succ_cons, List.drop_nil, List.take_succ_cons, List.take_zero, List.take_nil, List.drop_drop, setRange, PV.cells, valT, List.getD_cons_zero, List.getD_cons_succ, List.take, List.length, Nat.reduceAdd, List.nil_append, applyU, hset, hdel, Nat.reduceEqDiff, reduceIte, List.append_eq, List.cons_append, List.nil_append, frz, rowsOf, updsNew, updsAt, sigN, sigS, PV.mapId, mapIds, Option.map, Blk.mapId, List.drop, heapOf]
    conv => arg 5; simp only [stride, Nat.reduceAdd]
    refine EVgo9 (And.intro (hkl) ( And.intro (eL1) (eL2))) trivial trivial trivial trivial trivial trivial trivial trivial trivial trivial trivial ?_
    first | refine WO.step (k_load1 rfl rfl w3) ?_ | refine WOc.step (k_load1 rfl rfl w3) ?_
    conv => arg 2; simp only [setOpt, List.set, Nat.reduceLT, Int.reduceToNat, List.drop_drop, valT, List.getD_cons_zero, List.getD_cons_succ, Int.reduceLT, Int.reduceLE, Int.reduceAdd, Int.reduceSub, Int.reduceMul, Int.reduceNeg, Int.reduceEq, Int.reduceNe, Int.cast_ofNat_Int, Int.natCast_zero, Int.natCast_one, ge_iff_le, gt_iff_lt, decide_true, decide_false, Bool.not_true, Bool.not_false, Int.toNat_natCast, Nat.sub_zero, Nat.mul_one, Option.isSome_some, Option.isSome_none, Bool.false_eq_true, Bool.and_true, Bool.true_and, Bool.and_false, Bool.false_and, Nat.zero_add, Nat.zero_mul, List.drop_zero, reduceIte, setRange, PV.cells, fillB, List.take, List.drop, List.append_eq, List.cons_append, List.nil_append, List.length, List.map, List.zip, List.zipWith, List.replicate, List.flatten, Nat.reduceAdd, Nat.reduceMul, Nat.reduceSub, PV.mapId, mapIds, Option.map, Blk.mapId, sigN, sigS]
    try conv => arg 3; simp only [Nat.reduceLT, List.reduceReplicate, List.flatten_cons, List.flatten_nil, List.append_nil, Nat.reduceMul, Nat.mul_one, Nat.one_mul, Nat.zero_mul, Nat.zero_add, List.drop_zero, List.drop_succ_cons, List.drop_nil, List.take_succ_cons, List.take_zero, List.take_nil, List.drop_drop, setRange, PV.cells, valT, List.getD_cons_zero, List.getD_cons_succ, List.take, List.length, Nat.reduceAdd, List.nil_append, applyU, hset, hdel, Nat.reduceEqDiff, reduceIte, List.append_eq, List.cons_append, List.nil_append, frz, rowsOf, updsNew, updsAt, sigN, sigS, PV.mapId, mapIds, Option.map, Blk.mapId, List.drop, heapOf]
    conv => arg 5; simp only [stride, Nat.reduceAdd]
    refine EVgo9 (And.intro (hkl) ( And.intro (eL1) (eL2))) trivial trivial trivial trivial trivial trivial trivial trivial trivial trivial trivial ?_
    first | refine WO.step (k_load1 rfl rfl w4) ?_ | refine WOc.step (k_load1 rfl rfl w4) ?_
    conv => arg 2; simp only [setOpt, List.set, Nat.reduceLT, Int.reduceToNat, List.drop_drop, valT, List.getD_cons_zero, List.getD_cons_succ, Int.reduceLT, Int.reduceLE, Int.reduceAdd, Int.reduceSub, Int.reduceMul, Int.reduceNeg, Int.reduceEq, Int.reduceNe, Int.cast_ofNat_Int, Int.natCast_zero, Int.natCast_one, ge_iff_le, gt_iff_lt, decide_true, decide_false, Bool.not_true, Bool.not_false, Int.toNat_natCast, Nat.sub_zero, Nat.mul_one, Option.isSome_some, Option.isSome_none, Bool.false_eq_true, Bool.and_true, Bool.true_and, Bool.and_false, Bool.false_and, Nat.zero_add, Nat.zero_mul, List.drop_zero, reduceIte, setRange, PV.cells, fillB, List.take, List.drop, List.append_eq, List.cons_append, List.nil_append, List.length, List.map, List.zip, List.zipWith, List.replicate, List.flatten, Nat.reduceAdd, Nat.reduceMul, Nat.reduceSub, PV.mapId, mapIds, Option.map, Blk.mapId, sigN, sigS]
    try conv => arg 3; simp only [Nat.reduceLT, List.reduceReplicate, List.flatten_cons, List.flatten_nil, List.append_nil, Nat.reduceMul, Nat.mul_one, Nat.one_mul, Nat.zero_mul, Nat.zero_add, List.drop_zero, List.drop_succ_cons, List.drop_nil, List.take_succ_cons, List.take_zero, List.take_nil, List.drop_drop, setRange, PV.cells, valT, List.getD_cons_zero, List.getD_cons_succ, List.take, List.length, Nat.reduceAdd, List.nil_append, applyU, hset, hdel, Nat.reduceEqDiff, reduceIte, List.append_eq, List.cons_append, List.nil_append, frz, rowsOf, updsNew, updsAt, sigN, sigS, PV.mapId, mapIds, Option.map, Blk.mapId, List.drop, heapOf]
    conv => arg 5; simp only [stride, Nat.reduceAdd]
    refine EVgo9 (And.intro (hkl) ( And.intro (eL1) (eL2))) trivial trivial trivial trivial trivial trivial trivial trivial trivial trivial trivial ?_
    first | refine WO.step (k_load1 rfl rfl w5) ?_ | refine WOc.step (k_load1 rfl rfl w5) ?_
    conv => arg 2; simp only [setOpt, List.set, Nat.reduceLT, Int.reduceToNat, List.drop_drop, valT, List.getD_cons_zero, List.getD_cons_succ, Int.reduceLT, Int.reduceLE, Int.reduceAdd, Int.reduceSub, Int.reduceMul, Int.reduceNeg, Int.reduceEq, Int.reduceNe, Int.cast_ofNat_Int, Int.natCast_zero, Int.natCast_one, ge_iff_le, gt_iff_lt, decide_true, decide_false, Bool.not_true, Bool.not_false, Int.toNat_natCast, Nat.sub_zero, Nat.mul_one, Option.isSome_some, Option.isSome_none, Bool.false_eq_true, Bool.and_true, Bool.true_and, Bool.and_false, Bool.false_and, Nat.zero_add, Nat.zero_mul, List.drop_zero, reduceIte, setRange, PV.cells, fillB, List.take, List.drop, List.append_eq, List.cons_append, List.nil_append, List.length, List.map, List.zip, List.zipWith, List.replicate, List.flatten, Nat.reduceAdd, Nat.reduceMul, Nat.reduceSub, PV.mapId, mapIds, Option.map, Blk.mapId, sigN, sigS]
    try conv => arg 3; simp only [Nat.reduceLT, List.reduceReplicate, List.flatten_cons, List.flatten_nil, List.append_nil, Nat.reduceMul, Nat.mul_one, Nat.one_mul, Nat.zero_mul, Nat.zero_add, List.drop_zero, List.drop_succ_cons, List.drop_nil, List.take_succ_cons, List.take_zero, List.take_nil, List.drop_drop, setRange, PV.cells, valT, List.getD_cons_zero, List.getD_cons_succ, List.take, List.length, Nat.reduceAdd, List.nil_append, applyU, hset, hdel, Nat.reduceEqDiff, reduceIte, List.append_eq, List.cons_append, List.nil_append, frz, rowsOf, updsNew, updsAt, sigN, sigS, PV.mapId, mapIds, Option.map, Blk.mapId, List.drop, heapOf]
    conv => arg 5; simp only [stride, Nat.reduceAdd]
    refine EVgo9 (And.intro (hkl) ( And.intro (eL1) (eL2))) trivial trivial trivial trivial trivial trivial trivial trivial trivial trivial trivial ?_
    first | refine WO.step (k_load1 rfl rfl w6) ?_ | refine WOc.step (k_load1 rfl rfl w6) ?_
    conv => arg 2; simp only [setOpt, List.set, Nat.reduceLT, Int.reduceToNat, List.drop_drop, valT, List.getD_cons_zero, List.getD_cons_succ, Int.reduceLT, Int.reduceLE, Int.reduceAdd, Int.reduceSub, Int.reduceMul, Int.reduceNeg, Int.reduceEq, Int.reduceNe, Int.cast_ofNat_Int, Int.natCast_zero, Int.natCast_one, ge_iff_le, gt_iff_lt, decide_true, decide_false, Bool.not_true, Bool.not_false, Int.toNat_natCast, Nat.sub_zero, Nat.mul_one, Option.isSome_some, Option.isSome_none, Bool.false_eq_true, Bool.and_true, Bool.true_and, Bool.and_false, Bool.false_and, Nat.zero_add, Nat.zero_mul, List.drop_zero, reduceIte, setRange, PV.cells, fillB, List.take, List.drop, List.append_eq, List.cons_append, List.nil_append, List.length, List.map, List.zip, List.zipWith, List.replicate, List.flatten, Nat.reduceAdd, Nat.reduceMul, Nat.reduceSub, PV.mapId, mapIds, Option.map, Blk.mapId, sigN, sigS]
    try conv => arg 3; simp only [Nat.reduceLT, List.reduceReplicate, List.flatten_cons, List.flatten_nil, List.append_nil, Nat.reduceMul, Nat.mul_one, Nat.one_mul, Nat.zero_mul, Nat.zero_add, List.drop_zero, List.drop_succ_cons, List.drop_nil, List.take_succ_cons, List.take_zero, List.take_nil, List.drop_drop, setRange, PV.cells, valT, List.getD_cons_zero, List.getD_cons_succ, List.take, List.length, Nat.reduceAdd, List.nil_append, applyU, hset, hdel, Nat.reduceEqDiff, reduceIte, List.append_eq, List.cons_append, List.nil_append, frz, rowsOf, updsNew, updsAt, sigN, sigS, PV.mapId, mapIds, Option.map, Blk.mapId, List.drop, heapOf]
    conv => arg 5; simp only [stride, Nat.reduceAdd]
    refine EVgo9 (And.intro (hkl) ( And.intro (eL1) (eL2))) trivial trivial trivial trivial trivial trivial trivial trivial trivial trivial trivial ?_
    first | refine WO.step (k_store_row rfl rfl rfl rfl (by rw [eL1]; omega) rfl) ?_ | refine WOc.step (k_store_row rfl rfl rfl rfl (by rw [eL1]; omega) rfl) ?_
    conv => arg 2; simp only [setOpt, List.set, Nat.reduceLT, Int.reduceToNat, List.drop_drop, valT, List.getD_cons_zero, List.getD_cons_succ, Int.reduceLT, Int.reduceLE, Int.reduceAdd, Int.reduceSub, Int.reduceMul, Int.reduceNeg, Int.reduceEq, Int.reduceNe, Int.cast_ofNat_Int, Int.natCast_zero, Int.natCast_one, ge_iff_le, gt_iff_lt, decide_true, decide_false, Bool.not_true, Bool.not_false, Int.toNat_natCast, Nat.sub_zero, Nat.mul_one, Option.isSome_some, Option.isSome_none, Bool.false_eq_true, Bool.and_true, Bool.true_and, Bool.and_false, Bool.false_and, Nat.zero_add, Nat.zero_mul, List.drop_zero, reduceIte, setRange, PV.cells, fillB, List.take, List.drop, List.append_eq, List.cons_append, List.nil_append, List.length, List.map, List.zip, List.zipWith, List.replicate, List.flatten, Nat.reduceAdd, Nat.reduceMul, Nat.reduceSub, PV.mapId, mapIds, Option.map, Blk.mapId, sigN, sigS, hs1]
    try conv => arg 3; simp only [Nat.reduceLT, List.reduceReplicate, List.flatten_cons, List.flatten_nil, List.append_nil, Nat.reduceMul, Nat.mul_one, Nat.one_mul, Nat.zero_mul, Nat.zero_add, List.drop_zero, List.drop_succ_cons, List.drop_nil, List.take_succ_cons, List.take_zero, List.take_nil, List.drop_drop, setRange, PV.cells, valT, List.getD_cons_zero, List.getD_cons_succ, List.take, List.length, Nat.reduceAdd, List.nil_append, applyU, hset, hdel, Nat.reduceEqDiff, reduceIte, List.append_eq, List.cons_append, List.nil_append, frz, rowsOf, updsNew, updsAt, sigN, sigS, PV.mapId, mapIds, Option.map, Blk.mapId, List.drop, heapOf, hs1]
    conv => arg 5; simp only [stride, Nat.reduceAdd]
    refine EVgo9 trivial (h13m) trivial trivial trivial trivial trivial trivial trivial trivial trivial trivial ?_
    exact EVret trivial
  | cons v r ih =>
    intro p L hv h hp hLp hF hhl hhv
    have hlen : vals.length = p.length + (r.length + 1) := by rw [← hp]; simp
    have hlt : (p.length : Int) < (vals.length : Int) := by omega
    have hw : IntKind.i64.wrap ((p.length : Int) + 1) = ((p.length + 1 : Nat) : Int) := by rw [i64_in _ (by omega)]; simp
    have hm : IntKind.i64.wrap (2 * (p.length : Int)) = 2 * (p.length : Int) := i64_in _ (by omega)
    have hm1 : IntKind.i64.wrap (2 * (p.length : Int) + 1) = 2 * (p.length : Int) + 1 := i64_in _ (by omega)
    have eK := mid_I hp
    have f1 := andI_fold v 65535
    have f2 := andI_fold (andI v 65535) 1
    have f3 := andI_fold (p.length : Nat) 3
    have eL1 := lenT L
    have eL2 := allT L
    rw [hLp] at eL1 eL2
    rcases hhv with rfl | ⟨rfl, rfl⟩
    · simp only [slI]
      rcases and01 (andI v 65535) with hb | hb
      · by_cases hh : h.length = 0
        · have hh2 : ¬ (0 : Int) < (h.length : Int) := by omega
          have ho : rowOp 0 1 false room p.length v h = (andI (p.length : Nat) 3, 1, 0, 0, false, 2 * ((p.length : Nat) : Int), 2 * ((p.length : Nat) : Int) + 1) := by
            unfold rowOp
            rw [if_pos hb]
            simp [hh, hh2] <;> omega
          have h10 := s10 hcf h (rowOp 0 1 false room p.length v h) room (by first | omega | simp)
          have hq := apply_len h (rowOp 0 1 false room p.length v h) room
          have hok := (rowOp_ok hK hr1 hr4 p.length v h).1
          rw [rowL, List.append_cons] at hF
          generalize applyT h (rowOp 0 1 false room p.length v h) room = q at h10 hq hok hF
          obtain ⟨q1, q2⟩ := q
          simp only at h10 hq hok hF
          subst hok
          have hlq : q1.length ≤ p.length + 1 := by first | omega | (simp only [List.length_nil] at hq; omega)
          have hih := ih (p ++ [v]) (L ++ [rowOp 0 1 false room p.length v h]) (slI q1) q1 (by rw [List.append_assoc]; exact hp) (by rw [snoc_len, snoc_len, hLp]) (by rw [snoc_len]; exact hF) (by rw [snoc_len]; exact hlq) (.inl rfl)
          rw [snoc_len] at hih
          rw [ho] at h10 hih
          have es := snocT L (andI (p.length : Nat) 3) 1 0 (0) false (2 * ((p.length : Nat) : Int)) (2 * ((p.length : Nat) : Int) + 1)
          simp only [slI, encT] at h10 hih
          conv => arg 3; simp only [mkT, putT, List.reduceReplicate, List.set]
          refine EVgo9 (And.intro (hlt) ( And.intro (eK) ( And.intro (f1) ( And.intro (f2) ( And.intro (f3) ( And.intro (hm) ( And.intro (hm1) ( And.intro (hb) (hh2))))))))) trivial trivial trivial trivial trivial trivial trivial trivial trivial trivial trivial ?_
          refine EVgo9 (And.intro (hlt) ( And.intro (eK) ( And.intro (f1) ( And.intro (f2) ( And.intro (f3) ( And.intro (hm) ( And.intro (hm1) ( And.intro (hb) ( And.intro (hw) ( And.intro (eL1) ( And.intro (eL2) ( And.intro (es) (hh2))))))))))))) (h10) trivial trivial trivial trivial trivial trivial trivial trivial trivial trivial ?_
          exact WC.loop rfl hih
        · have hh2 : (0 : Int) < (h.length : Int) := by omega
          have a0 : PV.rop (flat encI h) = PV.rop (PV.int .i64 (h.getD 0 0) :: flat encI (h.drop 1)) := by
            have := at_I (l := h) (i := 0) (by omega)
            rw [List.drop_zero] at this
            exact congrArg _ this
          have hwl : IntKind.i64.wrap ((h.length : Int) - 1) = ((h.length - 1 : Nat) : Int) := by rw [i64_in _ (by omega)]; omega
          have hll : ((h.length - 1 : Nat) : Int) < (h.length : Int) := by omega
          have a1 := at_I (l := h) (i := h.length - 1) (by omega)
          have ho : rowOp 0 1 false room p.length v h = (andI (p.length : Nat) 3, 1, 0, h.getD (h.length - 1) 0, true, 2 * ((p.length : Nat) : Int), 2 * ((p.length : Nat) : Int) + 1) := by
            unfold rowOp
            rw [if_pos hb]
            simp [hh, hh2] <;> omega
          have h10 := s10 hcf h (rowOp 0 1 false room p.length v h) room (by first | omega | simp)
          have hq := apply_len h (rowOp 0 1 false room p.length v h) room
          have hok := (rowOp_ok hK hr1 hr4 p.length v h).1
          rw [rowL, List.append_cons] at hF
          generalize applyT h (rowOp 0 1 false room p.length v h) room = q at h10 hq hok hF
          obtain ⟨q1, q2⟩ := q
          simp only at h10 hq hok hF
          subst hok
          have hlq : q1.length ≤ p.length + 1 := by first | omega | (simp only [List.length_nil] at hq; omega)
          have hih := ih (p ++ [v]) (L ++ [rowOp 0 1 false room p.length v h]) (slI q1) q1 (by rw [List.append_assoc]; exact hp) (by rw [snoc_len, snoc_len, hLp]) (by rw [snoc_len]; exact hF) (by rw [snoc_len]; exact hlq) (.inl rfl)
          rw [snoc_len] at hih
          rw [ho] at h10 hih
          have es := snocT L (andI (p.length : Nat) 3) 1 0 (h.getD (h.length - 1) 0) true (2 * ((p.length : Nat) : Int)) (2 * ((p.length : Nat) : Int) + 1)
          simp only [slI, encT] at h10 hih
          conv => arg 3; simp only [mkT, putT, List.reduceReplicate, List.set]
          refine EVgo9 (And.intro (hlt) ( And.intro (eK) ( And.intro (f1) ( And.intro (f2) ( And.intro (f3) ( And.intro (hm) ( And.intro (hm1) ( And.intro (hb) ( And.intro (hh2) ( And.intro (a0) ( And.intro (hwl) ( And.intro (hll) (a1))))))))))))) trivial trivial trivial trivial trivial trivial trivial trivial trivial trivial trivial ?_
          refine EVgo9 (And.intro (hlt) ( And.intro (eK) ( And.intro (f1) ( And.intro (f2) ( And.intro (f3) ( And.intro (hm) ( And.intro (hm1) ( And.intro (hb) ( And.intro (hw) ( And.intro (eL1) ( And.intro (eL2) ( And.intro (es) ( And.intro (hh2) ( And.intro (a0) ( And.intro (hwl) ( And.intro (hll) (a1))))))))))))))))) (h10) trivial trivial trivial trivial trivial trivial trivial trivial trivial trivial ?_
          exact WC.loop rfl hih
      · by_cases hh2 : (h.length : Int) < room
        · have hh := hh2
          have ho : rowOp 0 1 false room p.length v h = (andI (p.length : Nat) 3, 0, andI v 65535, 0, true, 2 * ((p.length : Nat) : Int), 2 * ((p.length : Nat) : Int) + 1) := by
            unfold rowOp
            rw [if_neg (by rw [hb]; decide)]
            simp [hh, hh2] <;> omega
          have h10 := s10 hcf h (rowOp 0 1 false room p.length v h) room (by first | omega | simp)
          have hq := apply_len h (rowOp 0 1 false room p.length v h) room
          have hok := (rowOp_ok hK hr1 hr4 p.length v h).1
          rw [rowL, List.append_cons] at hF
          generalize applyT h (rowOp 0 1 false room p.length v h) room = q at h10 hq hok hF
          obtain ⟨q1, q2⟩ := q
          simp only at h10 hq hok hF
          subst hok
          have hlq : q1.length ≤ p.length + 1 := by first | omega | (simp only [List.length_nil] at hq; omega)
          have hih := ih (p ++ [v]) (L ++ [rowOp 0 1 false room p.length v h]) (slI q1) q1 (by rw [List.append_assoc]; exact hp) (by rw [snoc_len, snoc_len, hLp]) (by rw [snoc_len]; exact hF) (by rw [snoc_len]; exact hlq) (.inl rfl)
          rw [snoc_len] at hih
          rw [ho] at h10 hih
          have es := snocT L (andI (p.length : Nat) 3) 0 (andI v 65535) 0 true (2 * ((p.length : Nat) : Int)) (2 * ((p.length : Nat) : Int) + 1)
          simp only [slI, encT] at h10 hih
          conv => arg 3; simp only [mkT, putT, List.reduceReplicate, List.set]
          refine EVgo9 (And.intro (hlt) ( And.intro (eK) ( And.intro (f1) ( And.intro (f2) ( And.intro (f3) ( And.intro (hm) ( And.intro (hm1) ( And.intro (hb) (hh2))))))))) trivial trivial trivial trivial trivial trivial trivial trivial trivial trivial trivial ?_
          refine EVgo9 (And.intro (hlt) ( And.intro (eK) ( And.intro (f1) ( And.intro (f2) ( And.intro (f3) ( And.intro (hm) ( And.intro (hm1) ( And.intro (hb) ( And.intro (hw) ( And.intro (eL1) ( And.intro (eL2) ( And.intro (es) (hh2))))))))))))) (h10) trivial trivial trivial trivial trivial trivial trivial trivial trivial trivial ?_
          exact WC.loop rfl hih
        · have hh := hh2
          have ho : rowOp 0 1 false room p.length v h = (andI (p.length : Nat) 3, 0, andI v 65535, 0, false, 2 * ((p.length : Nat) : Int), 2 * ((p.length : Nat) : Int) + 1) := by
            unfold rowOp
            rw [if_neg (by rw [hb]; decide)]
            simp [hh, hh2] <;> omega
          have h10 := s10 hcf h (rowOp 0 1 false room p.length v h) room (by first | omega | simp)
          have hq := apply_len h (rowOp 0 1 false room p.length v h) room
          have hok := (rowOp_ok hK hr1 hr4 p.length v h).1
          rw [rowL, List.append_cons] at hF
          generalize applyT h (rowOp 0 1 false room p.length v h) room = q at h10 hq hok hF
          obtain ⟨q1, q2⟩ := q
          simp only at h10 hq hok hF
          subst hok
          have hlq : q1.length ≤ p.length + 1 := by first | omega | (simp only [List.length_nil] at hq; omega)
          have hih := ih (p ++ [v]) (L ++ [rowOp 0 1 false room p.length v h]) (slI q1) q1 (by rw [List.append_assoc]; exact hp) (by rw [snoc_len, snoc_len, hLp]) (by rw [snoc_len]; exact hF) (by rw [snoc_len]; exact hlq) (.inl rfl)
          rw [snoc_len] at hih
          rw [ho] at h10 hih
          have es := snocT L (andI (p.length : Nat) 3) 0 (andI v 65535) 0 false (2 * ((p.length : Nat) : Int)) (2 * ((p.length : Nat) : Int) + 1)
          simp only [slI, encT] at h10 hih
          conv => arg 3; simp only [mkT, putT, List.reduceReplicate, List.set]
          refine EVgo9 (And.intro (hlt) ( And.intro (eK) ( And.intro (f1) ( And.intro (f2) ( And.intro (f3) ( And.intro (hm) ( And.intro (hm1) ( And.intro (hb) (hh2))))))))) trivial trivial trivial trivial trivial trivial trivial trivial trivial trivial trivial ?_
          refine EVgo9 (And.intro (hlt) ( And.intro (eK) ( And.intro (f1) ( And.intro (f2) ( And.intro (f3) ( And.intro (hm) ( And.intro (hm1) ( And.intro (hb) ( And.intro (hw) ( And.intro (eL1) ( And.intro (eL2) ( And.intro (es) (hh2))))))))))))) (h10) trivial trivial trivial trivial trivial trivial trivial trivial trivial trivial ?_
          exact WC.loop rfl hih
    · have hr0 : (0 : Int) < room := by omega
      rcases and01 (andI v 65535) with hb | hb
      · have ho : rowOp 0 1 false room p.length v [] = (andI (p.length : Nat) 3, 1, 0, 0, false, 2 * ((p.length : Nat) : Int), 2 * ((p.length : Nat) : Int) + 1) := by
          unfold rowOp
          rw [if_pos hb]
          simp [hr1, Int.lt_of_lt_of_le (by decide : (0:Int) < 1) hr1] <;> omega
        have h10 := s10 hcf [] (rowOp 0 1 false room p.length v []) room (by first | omega | simp)
        have hq := apply_len [] (rowOp 0 1 false room p.length v []) room
        have hok := (rowOp_ok hK hr1 hr4 p.length v []).1
        rw [rowL, List.append_cons] at hF
        generalize applyT [] (rowOp 0 1 false room p.length v []) room = q at h10 hq hok hF
        obtain ⟨q1, q2⟩ := q
        simp only at h10 hq hok hF
        subst hok
        have hlq : q1.length ≤ p.length + 1 := by first | omega | (simp only [List.length_nil] at hq; omega)
        have hih := ih (p ++ [v]) (L ++ [rowOp 0 1 false room p.length v []]) (slI q1) q1 (by rw [List.append_assoc]; exact hp) (by rw [snoc_len, snoc_len, hLp]) (by rw [snoc_len]; exact hF) (by rw [snoc_len]; exact hlq) (.inl rfl)
        rw [snoc_len] at hih
        rw [ho] at h10 hih
        have es := snocT L (andI (p.length : Nat) 3) 1 0 (0) false (2 * ((p.length : Nat) : Int)) (2 * ((p.length : Nat) : Int) + 1)
        simp only [slI, encT] at h10 hih
        conv => arg 3; simp only [mkT, putT, List.reduceReplicate, List.set]
        refine EVgo9 (And.intro (hlt) ( And.intro (eK) ( And.intro (f1) ( And.intro (f2) ( And.intro (f3) ( And.intro (hm) ( And.intro (hm1) (hb)))))))) trivial trivial trivial trivial trivial trivial trivial trivial trivial trivial trivial ?_
        refine EVgo9 (And.intro (hlt) ( And.intro (eK) ( And.intro (f1) ( And.intro (f2) ( And.intro (f3) ( And.intro (hm) ( And.intro (hm1) ( And.intro (hb) ( And.intro (hw) ( And.intro (eL1) ( And.intro (eL2) (es)))))))))))) (h10) trivial trivial trivial trivial trivial trivial trivial trivial trivial trivial ?_
        exact WC.loop rfl hih
      · have ho : rowOp 0 1 false room p.length v [] = (andI (p.length : Nat) 3, 0, andI v 65535, 0, true, 2 * ((p.length : Nat) : Int), 2 * ((p.length : Nat) : Int) + 1) := by
          unfold rowOp
          rw [if_neg (by rw [hb]; decide)]
          simp [hr1, Int.lt_of_lt_of_le (by decide : (0:Int) < 1) hr1] <;> omega
        have h10 := s10 hcf [] (rowOp 0 1 false room p.length v []) room (by first | omega | simp)
        have hq := apply_len [] (rowOp 0 1 false room p.length v []) room
        have hok := (rowOp_ok hK hr1 hr4 p.length v []).1
        rw [rowL, List.append_cons] at hF
        generalize applyT [] (rowOp 0 1 false room p.length v []) room = q at h10 hq hok hF
        obtain ⟨q1, q2⟩ := q
        simp only at h10 hq hok hF
        subst hok
        have hlq : q1.length ≤ p.length + 1 := by first | omega | (simp only [List.length_nil] at hq; omega)
        have hih := ih (p ++ [v]) (L ++ [rowOp 0 1 false room p.length v []]) (slI q1) q1 (by rw [List.append_assoc]; exact hp) (by rw [snoc_len, snoc_len, hLp]) (by rw [snoc_len]; exact hF) (by rw [snoc_len]; exact hlq) (.inl rfl)
        rw [snoc_len] at hih
        rw [ho] at h10 hih
        have es := snocT L (andI (p.length : Nat) 3) 0 (andI v 65535) 0 true (2 * ((p.length : Nat) : Int)) (2 * ((p.length : Nat) : Int) + 1)
        simp only [slI, encT] at h10 hih
        conv => arg 3; simp only [mkT, putT, List.reduceReplicate, List.set]
        refine EVgo9 (And.intro (hlt) ( And.intro (eK) ( And.intro (f1) ( And.intro (f2) ( And.intro (f3) ( And.intro (hm) ( And.intro (hm1) ( And.intro (hb) (hr0))))))))) trivial trivial trivial trivial trivial trivial trivial trivial trivial trivial trivial ?_
        refine EVgo9 (And.intro (hlt) ( And.intro (eK) ( And.intro (f1) ( And.intro (f2) ( And.intro (f3) ( And.intro (hm) ( And.intro (hm1) ( And.intro (hb) ( And.intro (hw) ( And.intro (eL1) ( And.intro (eL2) ( And.intro (es) (hr0))))))))))))) (h10) trivial trivial trivial trivial trivial trivial trivial trivial trivial trivial ?_
        exact WC.loop rfl hih
end
end Go.Proofs.YtipnedhclbopdaaDoorR
