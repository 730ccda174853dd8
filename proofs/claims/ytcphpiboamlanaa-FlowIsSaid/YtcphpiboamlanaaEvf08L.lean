/- Evf08L: a part of the proof. -/
import Derived.Test.YtcphpiboamlanaaEvf08K
open Go Go.Proofs.YtcphpiboamlanaaEv Go.Proofs.YtcphpiboamlanaaR Go.IntWalk
set_option maxRecDepth 20000
set_option maxHeartbeats 8000000
set_option linter.unusedVariables false
set_option linter.unusedSimpArgs false
namespace Go.Proofs.YtcphpiboamlanaaR
theorem k_clear {cf : CF} {new : Nat} {T : List PV} {H : Heap} {es : Nat} {zero : List PV} {a : X} {id k off len : Nat} {cs cs' : List PV} (ha : valT T a = .own id k off len) (hc : hget H id = some (.row cs)) (hle : off + len * es ≤ cs.length) (hr : setRange cs off ((List.replicate len zero).flatten) = cs') : EK cf (.clear es zero a) new T H .undef [(id, some (.row cs'))] := ⟨by
  simp only [evalK, ha, hc]
  rw [if_pos hle, hr]⟩
section
variable {cf : CF} (hcf : cf = ev env)
include hcf
theorem s78y (d : Int) (b : Bd) (rm : List Pr) (hr : rm.take b.m.length = b.m) (hb : Sm b) (i0 : Nat) (h0 : i0 < b.o.length) (hno : ∀ j, j < i0 → (b.o.getD j (0, 0)).1 ≠ d) (hy : (b.o.getD i0 (0, 0)).1 = d) (hok : OutOk b.c.length b.o) :
    cf 78 [.own 0 2 0 b.o.length, .fn 79 [] [.ptr 1 0, .cp (.ptr 2 0)]] (hD d b b.c rm b.o) = some (.own 0 2 0 (keep d b.o).length, hD d b (killC d b.c b.o) rm (keep d b.o ++ List.replicate (b.o.length - (keep d b.o).length) (0, 0))) := by
  obtain ⟨n0, en, hn⟩ := hok _ (getD_mem h0)
  have ho := hb.o
  have h63 := s63y hcf d b rm hr hb i0 n0 h0 hno hy en hn
  have hl := resC_len b.c hn
  have w0 : IntKind.i64.wrap ((i0 : Int) + 1) = ((i0 + 1 : Nat) : Int) := by rw [i64_in _ (by omega)]; simp
  have ne : ((i0 : Int) == -1) = false := beq_eq_false_iff_ne.2 (by omega)
  have k0 : keep d (b.o.take (i0 + 1)) = b.o.take i0 := by
    rw [take_snoc h0, keep_snoc, if_pos hy, List.append_nil]
    exact keep_all d _ fun p hp => by
      obtain ⟨j, hj, e⟩ := mem_take_getD (by omega) hp
      rw [← e]
      exact hno j hj
  have c0 : killC d b.c (b.o.take (i0 + 1)) = resC b.c n0 := by
    rw [take_snoc h0, killC_snoc, if_pos hy, en, Int.toNat_natCast, killC_none d _ _ fun p hp => by
      obtain ⟨j, hj, e⟩ := mem_take_getD (by omega) hp
      rw [← e]
      exact hno j hj]
  have l0 : (b.o.take i0).length = i0 := List.length_take_of_le (by omega)
  refine ev_ofC' hcf env78 ?_
  simp only [hD, hl] at h63 ⊢
  conv => arg 2; simp only [ir78]
  conv => arg 3; simp only [ir78, Go.Proofs.YtcphpiboamlanaaEv.start, List.length, Nat.reduceAdd, Nat.reduceSub, List.reduceReplicate, List.append_eq, List.cons_append, List.nil_append]
  conv => arg 4; simp only [heapOf]
  try conv => arg 5; simp only [List.length, Nat.reduceAdd]
  try conv => arg 6; simp only [List.length, Nat.reduceAdd]
  refine EVgo9 (And.intro (ne) (w0)) (h63) trivial trivial trivial trivial trivial trivial trivial trivial trivial trivial ?_
  refine WC.loop (T' := _) (H' := _) (n' := _) rfl ((?_ : ∀ (k j w : Nat) (Q c : List Pr), j + k = b.o.length → Q.length = b.o.length → w = (keep d (b.o.take j)).length → w < j → Q.take w = keep d (b.o.take j) → Q.drop j = b.o.drop j → c = killC d b.c (b.o.take j) →
    WC cf _ (mkT 42 [(0, .own 0 2 0 b.o.length), (1, .fn 79 [] [.ptr 1 0, .cp (.ptr 2 0)]), (5, .int .i64 (w : Nat)), (6, .int .i64 (j : Nat))]) [(0, .row (flat encP Q)), (1, .box [.int .i64 d]), (2, .box [.own 3 2 0 b.c.length, .own 4 2 0 b.m.length, .own 0 2 0 b.o.length]), (3, .row (flat encP c)), (4, .row (flat encP rm))] 5 5 _) (b.o.length - (i0 + 1)) (i0 + 1) i0 b.o (resC b.c n0) (by omega) rfl (by rw [k0, l0]) (by omega) k0.symm rfl c0.symm)
  intro k
  induction k with
  | zero =>
    intro j w Q c hj hQ hw hwj hQw hQd hc
    obtain rfl : j = b.o.length := by omega
    rw [List.take_length] at hw hQw hc
    rw [hc]
    have e3 : (flat encP Q).take (w * 2) = flat encP (keep d b.o) := by rw [takeP, hQw]
    have lw : ((flat encP Q).drop (w * 2)).length = (b.o.length - w) * 2 := by rw [dropP, lenP, List.length_drop, hQ]
    conv => arg 3; simp only [mkT, putT, List.reduceReplicate, List.set]
    refine EVgl9 trivial trivial trivial trivial trivial trivial trivial trivial trivial trivial trivial trivial ?_
    have hz : setRange (flat encP Q) (w * 2) ((List.replicate (b.o.length - w) [PV.int .i64 0, .int .i64 0]).flatten) = flat encP (keep d b.o ++ List.replicate (b.o.length - (keep d b.o).length) (0, 0)) := by
      unfold setRange
      rw [e3, zeros, lenP, List.length_replicate, List.drop_eq_nil_of_le (by rw [lenP, hQ]; omega), List.append_nil, appP, hw]
    first | refine WO.step (k_clear rfl rfl (by rw [lenP, hQ]; omega) hz) ?_ | refine WOc.step (k_clear rfl rfl (by rw [lenP, hQ]; omega) hz) ?_
    conv => arg 2; simp only [setOpt, List.set, Nat.reduceLT, Int.reduceToNat, List.drop_drop, valT, List.getD_cons_zero, List.getD_cons_succ, Int.reduceLT, Int.reduceLE, Int.reduceAdd, Int.reduceSub, Int.reduceMul, Int.reduceNeg, Int.reduceEq, Int.reduceNe, Int.cast_ofNat_Int, Int.natCast_zero, Int.natCast_one, ge_iff_le, gt_iff_lt, decide_true, decide_false, Bool.not_true, Bool.not_false, Int.toNat_natCast, Nat.sub_zero, Nat.mul_one, Option.isSome_some, Option.isSome_none, Bool.false_eq_true, Bool.and_true, Bool.true_and, Bool.and_false, Bool.false_and, Nat.zero_add, Nat.zero_mul, List.drop_zero, reduceIte, setRange, PV.cells, fillB, List.take, List.drop, List.append_eq, List.cons_append, List.nil_append, List.length, List.map, List.zip, List.zipWith, List.replicate, List.flatten, Nat.reduceAdd, Nat.reduceMul, Nat.reduceSub, PV.mapId, mapIds, Option.map, Blk.mapId, sigN, sigS, Int.lt_irrefl]
    try conv => arg 3; simp only [Nat.reduceLT, List.reduceReplicate, List.flatten_cons, List.flatten_nil, List.append_nil, Nat.reduceMul, Nat.mul_one, Nat.one_mul, Nat.zero_mul, Nat.zero_add, List.drop_zero, List.drop_succ_cons, List.drop_nil, List.take_succ_cons, List.take_zero, List.take_nil, List.drop_drop, setRange, PV.cells, valT, List.getD_cons_zero, List.getD_cons_succ, List.take, List.length, Nat.reduceAdd, List.nil_append, applyU, hset, hdel, Nat.reduceEqDiff, reduceIte, List.append_eq, List.cons_append, List.nil_append, frz, rowsOf, updsNew, updsAt, sigN, sigS, PV.mapId, mapIds, Option.map, Blk.mapId, List.drop, heapOf, Int.lt_irrefl]
    conv => arg 5; simp only [stride, Nat.reduceAdd]
    refine EVgo9 trivial trivial trivial trivial trivial trivial trivial trivial trivial trivial trivial trivial ?_
    rw [← hw]
    exact WQ.ret rfl
  | succ k ih =>
    intro j w Q c hj hQ hw hwj hQw hQd hc
    have hj' : j < b.o.length := by omega
    have hlt : (j : Int) < (b.o.length : Int) := by omega
    have hw1 : IntKind.i64.wrap ((j : Int) + 1) = ((j + 1 : Nat) : Int) := by rw [i64_in _ (by omega)]; simp
    have hw2 : IntKind.i64.wrap ((w : Int) + 1) = ((w + 1 : Nat) : Int) := by rw [i64_in _ (by omega)]; simp
    have hQj : Q.getD j (0, 0) = b.o.getD j (0, 0) := by
      have := congrArg (fun l => l.getD 0 (0, 0)) hQd
      simpa [List.getD_eq_getElem?_getD, List.getElem?_drop] using this
    have e1 : ((flat encP Q).drop (j * 2)).take 2 = [.int .i64 (b.o.getD j (0, 0)).1, .int .i64 (b.o.getD j (0, 0)).2] := by rw [at_P (by omega), hQj]; rfl
    have cl : c.length = b.c.length := by rw [hc]; exact killC_len d _ (fun p hp => hok p (List.mem_of_mem_take hp)) rfl
    obtain ⟨nj, ej, hnj⟩ := hok _ (getD_mem hj')
    have hnx : Q.drop (j + 1) = b.o.drop (j + 1) := by
      have := congrArg (List.drop 1) hQd
      rwa [List.drop_drop, List.drop_drop] at this
    by_cases hd : (b.o.getD j (0, 0)).1 = d
    · have ks : keep d (b.o.take (j + 1)) = keep d (b.o.take j) := by rw [take_snoc hj', keep_snoc, if_pos hd, List.append_nil]
      have cs : resC c nj = killC d b.c (b.o.take (j + 1)) := by rw [take_snoc hj', killC_snoc, if_pos hd, ej, Int.toNat_natCast, hc]
      have hnj' : nj < c.length := by rw [cl]; exact hnj
      have h79 := s79t hcf d (b.o.getD j (0, 0)).2 nj ej ⟨c, b.m, Q⟩ c rm Q ⟨List.take_length, hr, List.take_length⟩ ⟨by rw [cl]; exact hb.c, hb.m, by rw [hQ]; exact ho⟩ hnj'
      have hih := ih (j + 1) w Q (resC c nj) (by omega) hQ (by rw [ks]; exact hw) (by omega) (by rw [ks]; exact hQw) hnx cs
      have rl : (resC c nj).length = b.c.length := by rw [resC_len c hnj', cl]
      rw [hd] at e1
      simp only [hC, cl, hQ, rl] at h79
      conv => arg 3; simp only [mkT, putT, List.reduceReplicate, List.set]
      refine EVgo9 (hlt) trivial trivial trivial trivial trivial trivial trivial trivial trivial trivial trivial ?_
      first | refine WO.step (k_loadn rfl rfl e1 rfl) ?_ | refine WOc.step (k_loadn rfl rfl e1 rfl) ?_
      conv => arg 2; simp only [setOpt, List.set, Nat.reduceLT, Int.reduceToNat, List.drop_drop, valT, List.getD_cons_zero, List.getD_cons_succ, Int.reduceLT, Int.reduceLE, Int.reduceAdd, Int.reduceSub, Int.reduceMul, Int.reduceNeg, Int.reduceEq, Int.reduceNe, Int.cast_ofNat_Int, Int.natCast_zero, Int.natCast_one, ge_iff_le, gt_iff_lt, decide_true, decide_false, Bool.not_true, Bool.not_false, Int.toNat_natCast, Nat.sub_zero, Nat.mul_one, Option.isSome_some, Option.isSome_none, Bool.false_eq_true, Bool.and_true, Bool.true_and, Bool.and_false, Bool.false_and, Nat.zero_add, Nat.zero_mul, List.drop_zero, reduceIte, setRange, PV.cells, fillB, List.take, List.drop, List.append_eq, List.cons_append, List.nil_append, List.length, List.map, List.zip, List.zipWith, List.replicate, List.flatten, Nat.reduceAdd, Nat.reduceMul, Nat.reduceSub, PV.mapId, mapIds, Option.map, Blk.mapId, sigN, sigS, hlt]
      try conv => arg 3; simp only [Nat.reduceLT, List.reduceReplicate, List.flatten_cons, List.flatten_nil, List.append_nil, Nat.reduceMul, Nat.mul_one, Nat.one_mul, Nat.zero_mul, Nat.zero_add, List.drop_zero, List.drop_succ_cons, List.drop_nil, List.take_succ_cons, List.take_zero, List.take_nil, List.drop_drop, setRange, PV.cells, valT, List.getD_cons_zero, List.getD_cons_succ, List.take, List.length, Nat.reduceAdd, List.nil_append, applyU, hset, hdel, Nat.reduceEqDiff, reduceIte, List.append_eq, List.cons_append, List.nil_append, frz, rowsOf, updsNew, updsAt, sigN, sigS, PV.mapId, mapIds, Option.map, Blk.mapId, List.drop, heapOf, hlt]
      conv => arg 5; simp only [stride, Nat.reduceAdd]
      refine EVgo9 (hw1) (h79) trivial trivial trivial trivial trivial trivial trivial trivial trivial trivial ?_
      exact WC.loop rfl hih
    · have ks : keep d (b.o.take (j + 1)) = keep d (b.o.take j) ++ [b.o.getD j (0, 0)] := by rw [take_snoc hj', keep_snoc, if_neg hd]
      have cs : c = killC d b.c (b.o.take (j + 1)) := by rw [take_snoc hj', killC_snoc, if_neg hd, hc]
      have h79 := s79f hcf d (b.o.getD j (0, 0)).1 (b.o.getD j (0, 0)).2 hd ⟨c, b.m, Q⟩ c rm Q
      simp only [hC, cl, hQ] at h79
      have hwl : (w : Int) < (b.o.length : Int) := by omega
      have tl : (Q.take w).length = w := List.length_take_of_le (by omega)
      have hih := ih (j + 1) (w + 1) (Q.take w ++ [b.o.getD j (0, 0)] ++ Q.drop (w + 1)) c (by omega) (by simp only [List.length_append, tl, List.length_cons, List.length_nil, List.length_drop]; omega) (by rw [ks, List.length_append, ← hw]; rfl) (by omega) (by
        rw [ks, ← hQw]
        exact List.take_left' (by simp only [List.length_append, tl, List.length_cons, List.length_nil])) (by
        rw [← hnx, List.drop_append, List.drop_eq_nil_of_le (by simp only [List.length_append, tl, List.length_cons, List.length_nil]; omega), List.nil_append, List.drop_drop]
        congr 1
        simp only [List.length_append, tl, List.length_cons, List.length_nil]
        omega) cs
      have hst : (flat encP Q).take (w * 2) ++ [PV.int .i64 (b.o.getD j (0, 0)).1, .int .i64 (b.o.getD j (0, 0)).2] ++ (flat encP Q).drop (w * 2 + 2) = flat encP (Q.take w ++ [b.o.getD j (0, 0)] ++ Q.drop (w + 1)) := by
        rw [takeP, show w * 2 + 2 = (w + 1) * 2 by omega, dropP, ← appP, ← appP]
        rfl
      conv => arg 3; simp only [mkT, putT, List.reduceReplicate, List.set]
      refine EVgo9 (hlt) trivial trivial trivial trivial trivial trivial trivial trivial trivial trivial trivial ?_
      first | refine WO.step (k_loadn rfl rfl e1 rfl) ?_ | refine WOc.step (k_loadn rfl rfl e1 rfl) ?_
      conv => arg 2; simp only [setOpt, List.set, Nat.reduceLT, Int.reduceToNat, List.drop_drop, valT, List.getD_cons_zero, List.getD_cons_succ, Int.reduceLT, Int.reduceLE, Int.reduceAdd, Int.reduceSub, Int.reduceMul, Int.reduceNeg, Int.reduceEq, Int.reduceNe, Int.cast_ofNat_Int, Int.natCast_zero, Int.natCast_one, ge_iff_le, gt_iff_lt, decide_true, decide_false, Bool.not_true, Bool.not_false, Int.toNat_natCast, Nat.sub_zero, Nat.mul_one, Option.isSome_some, Option.isSome_none, Bool.false_eq_true, Bool.and_true, Bool.true_and, Bool.and_false, Bool.false_and, Nat.zero_add, Nat.zero_mul, List.drop_zero, reduceIte, setRange, PV.cells, fillB, List.take, List.drop, List.append_eq, List.cons_append, List.nil_append, List.length, List.map, List.zip, List.zipWith, List.replicate, List.flatten, Nat.reduceAdd, Nat.reduceMul, Nat.reduceSub, PV.mapId, mapIds, Option.map, Blk.mapId, sigN, sigS, hlt]
      try conv => arg 3; simp only [Nat.reduceLT, List.reduceReplicate, List.flatten_cons, List.flatten_nil, List.append_nil, Nat.reduceMul, Nat.mul_one, Nat.one_mul, Nat.zero_mul, Nat.zero_add, List.drop_zero, List.drop_succ_cons, List.drop_nil, List.take_succ_cons, List.take_zero, List.take_nil, List.drop_drop, setRange, PV.cells, valT, List.getD_cons_zero, List.getD_cons_succ, List.take, List.length, Nat.reduceAdd, List.nil_append, applyU, hset, hdel, Nat.reduceEqDiff, reduceIte, List.append_eq, List.cons_append, List.nil_append, frz, rowsOf, updsNew, updsAt, sigN, sigS, PV.mapId, mapIds, Option.map, Blk.mapId, List.drop, heapOf, hlt]
      conv => arg 5; simp only [stride, Nat.reduceAdd]
      refine EVgo9 (And.intro (hw1) (hwl)) (h79) trivial trivial trivial trivial trivial trivial trivial trivial trivial trivial ?_
      first | refine WO.step (k_store_row rfl rfl rfl rfl (by rw [lenP]; omega) rfl) ?_ | refine WOc.step (k_store_row rfl rfl rfl rfl (by rw [lenP]; omega) rfl) ?_
      conv => arg 2; simp only [setOpt, List.set, Nat.reduceLT, Int.reduceToNat, List.drop_drop, valT, List.getD_cons_zero, List.getD_cons_succ, Int.reduceLT, Int.reduceLE, Int.reduceAdd, Int.reduceSub, Int.reduceMul, Int.reduceNeg, Int.reduceEq, Int.reduceNe, Int.cast_ofNat_Int, Int.natCast_zero, Int.natCast_one, ge_iff_le, gt_iff_lt, decide_true, decide_false, Bool.not_true, Bool.not_false, Int.toNat_natCast, Nat.sub_zero, Nat.mul_one, Option.isSome_some, Option.isSome_none, Bool.false_eq_true, Bool.and_true, Bool.true_and, Bool.and_false, Bool.false_and, Nat.zero_add, Nat.zero_mul, List.drop_zero, reduceIte, setRange, PV.cells, fillB, List.take, List.drop, List.append_eq, List.cons_append, List.nil_append, List.length, List.map, List.zip, List.zipWith, List.replicate, List.flatten, Nat.reduceAdd, Nat.reduceMul, Nat.reduceSub, PV.mapId, mapIds, Option.map, Blk.mapId, sigN, sigS, hst]
      try conv => arg 3; simp only [Nat.reduceLT, List.reduceReplicate, List.flatten_cons, List.flatten_nil, List.append_nil, Nat.reduceMul, Nat.mul_one, Nat.one_mul, Nat.zero_mul, Nat.zero_add, List.drop_zero, List.drop_succ_cons, List.drop_nil, List.take_succ_cons, List.take_zero, List.take_nil, List.drop_drop, setRange, PV.cells, valT, List.getD_cons_zero, List.getD_cons_succ, List.take, List.length, Nat.reduceAdd, List.nil_append, applyU, hset, hdel, Nat.reduceEqDiff, reduceIte, List.append_eq, List.cons_append, List.nil_append, frz, rowsOf, updsNew, updsAt, sigN, sigS, PV.mapId, mapIds, Option.map, Blk.mapId, List.drop, heapOf, hst]
      conv => arg 5; simp only [stride, Nat.reduceAdd]
      refine EVgo9 (And.intro (hw1) (hw2)) trivial trivial trivial trivial trivial trivial trivial trivial trivial trivial trivial ?_
      exact WC.loop rfl hih
end
end Go.Proofs.YtcphpiboamlanaaR
