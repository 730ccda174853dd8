/- Evf08H: a part of the proof. -/
import Derived.Test.YtcphpiboamlanaaEvf08G
open Go Go.Proofs.YtcphpiboamlanaaEv Go.Proofs.YtcphpiboamlanaaR Go.IntWalk
set_option maxRecDepth 20000
set_option maxHeartbeats 8000000
set_option linter.unusedVariables false
set_option linter.unusedSimpArgs false
namespace Go.Proofs.YtcphpiboamlanaaR
theorem drop_last {l : List Pr} (h : 1 ≤ l.length) : l.drop (l.length - 1 + 1) = [] := List.drop_eq_nil_of_le (by omega)
section
variable {cf : CF} (hcf : cf = ev env)
include hcf
theorem s48 : Sp1 cf 48 elseW := by
  intro b hb
  have h70 := s70v hcf b b.c b.m b.o 0 1 (Rw.refl b) hb.sm (by omega)
  cases ht : (topP b.m 0 1).2
  · rw [topP_n ht] at h70
    have e : elseW b = (-22, b) := by simp only [elseW, ht, Bool.false_eq_true, if_false]
    rw [e]
    refine ⟨false, false, false, _, _, _, Rw.refl b, ?_⟩
    refine ev_ofC' hcf env48 ?_
    simp only [hB]
    conv => arg 2; simp only [ir48]
    conv => arg 3; simp only [ir48, Go.Proofs.YtcphpiboamlanaaEv.start, List.length, Nat.reduceAdd, Nat.reduceSub, List.reduceReplicate, List.append_eq, List.cons_append, List.nil_append]
    conv => arg 4; simp only [heapOf]
    try conv => arg 5; simp only [List.length, Nat.reduceAdd]
    try conv => arg 6; simp only [List.length, Nat.reduceAdd]
    refine EVgo9 trivial (h70) trivial trivial trivial trivial trivial trivial trivial trivial trivial trivial ?_
    exact WQ.ret rfl
  · obtain ⟨n, en, hn⟩ := hb.orig (below := 0) (a := (topP b.m 0 1).fst) (Prod.ext rfl ht)
    have h0 := topP_ok (Prod.ext rfl ht : topP b.m 0 1 = (_, true))
    rw [ht, en] at h70
    by_cases h : b.c.length + 1 ≤ 4096
    · have h28 := s28 hcf b b.c b.m b.o [(1, 0)] (Rw.refl b) hb.sm (by simp) (by simp; omega)
      have lc : (b.c ++ [(1, 0)]).length = b.c.length + 1 := by simp only [List.length_append, List.length_cons, List.length_nil]
      have sc : (b.c ++ [(1, 0)]).length ≤ 1000000 := by omega
      have hn' : n < (b.c ++ [(1, 0)]).length := by omega
      have h71 := s71 hcf ⟨b.c ++ [(1, 0)], b.m, b.o⟩ (b.c ++ [(1, 0)]) b.m b.o n ⟨List.take_length, List.take_length, List.take_length⟩ ⟨sc, hb.sm.m, hb.sm.o⟩ hn'
      have hl := resC_len (b.c ++ [(1, 0)]) hn'
      have e : elseW b = (0, ⟨resC (b.c ++ [(1, 0)]) n, b.m.take (b.m.length - 1) ++ [(1, (b.c.length : Int))], b.o⟩) := by simp only [elseW, if_pos ht, if_pos h, en, Int.toNat_natCast]
      rw [e]
      have w1 : IntKind.i64.wrap (((resC (b.c ++ [(1, 0)]) n).length : Int) - 1) = (b.c.length : Int) := by rw [hl, lc]; rw [i64_in _ (by omega)]; omega
      have w2 : IntKind.i64.wrap ((b.m.length : Int) - 1) = ((b.m.length - 1 : Nat) : Int) := by have := hb.sm.m; rw [i64_in _ (by omega)]; omega
      have hrow : (flat encP b.m).take ((b.m.length - 1) * 2 + 1) ++ [PV.int .i64 (b.c.length : Int)] ++ (flat encP b.m).drop ((b.m.length - 1) * 2 + 1 + 1) = flat encP (b.m.take (b.m.length - 1) ++ [(1, (b.c.length : Int))]) := by
        rw [set2 b.m (by omega), drop_last h0.1, List.append_nil]
        have := h0.2
        simp only [Nat.sub_zero] at this
        rw [this]
      have lm : (b.m.take (b.m.length - 1) ++ [(1, (b.c.length : Int))]).length = b.m.length := by simp only [List.length_append, len_pre, List.length_cons, List.length_nil]; omega
      refine ⟨true, false, false, resC (b.c ++ [(1, 0)]) n, b.m.take (b.m.length - 1) ++ [(1, (b.c.length : Int))], b.o, ⟨List.take_length, List.take_length, List.take_length⟩, ?_⟩
      refine ev_ofC' hcf env48 ?_
      simp only [hB] at h28 h71 ⊢
      conv => arg 2; simp only [ir48]
      conv => arg 3; simp only [ir48, Go.Proofs.YtcphpiboamlanaaEv.start, List.length, Nat.reduceAdd, Nat.reduceSub, List.reduceReplicate, List.append_eq, List.cons_append, List.nil_append]
      conv => arg 4; simp only [heapOf]
      try conv => arg 5; simp only [List.length, Nat.reduceAdd]
      try conv => arg 6; simp only [List.length, Nat.reduceAdd]
      refine EVgo9 (And.intro (w1) (w2)) (h70) (h28) (h71) trivial trivial trivial trivial trivial trivial trivial trivial ?_
      first | refine WO.step (k_store_row rfl rfl rfl rfl (by rw [lenP]; omega) rfl) ?_ | refine WOc.step (k_store_row rfl rfl rfl rfl (by rw [lenP]; omega) rfl) ?_
      conv => arg 2; simp only [setOpt, List.set, Nat.reduceLT, Int.reduceToNat, List.drop_drop, valT, List.getD_cons_zero, List.getD_cons_succ, Int.reduceLT, Int.reduceLE, Int.reduceAdd, Int.reduceSub, Int.reduceMul, Int.reduceNeg, Int.reduceEq, Int.reduceNe, Int.cast_ofNat_Int, Int.natCast_zero, Int.natCast_one, ge_iff_le, gt_iff_lt, decide_true, decide_false, Bool.not_true, Bool.not_false, Int.toNat_natCast, Nat.sub_zero, Nat.mul_one, Option.isSome_some, Option.isSome_none, Bool.false_eq_true, Bool.and_true, Bool.true_and, Bool.and_false, Bool.false_and, Nat.zero_add, Nat.zero_mul, List.drop_zero, reduceIte, setRange, PV.cells, fillB, List.take, List.drop, List.append_eq, List.cons_append, List.nil_append, List.length, List.map, List.zip, List.zipWith, List.replicate, List.flatten, Nat.reduceAdd, Nat.reduceMul, Nat.reduceSub, PV.mapId, mapIds, Option.map, Blk.mapId, sigN, sigS, hrow]
      try conv => arg 3; simp only [Nat.reduceLT, List.reduceReplicate, List.flatten_cons, List.flatten_nil, List.append_nil, Nat.reduceMul, Nat.mul_one, Nat.one_mul, Nat.zero_mul, Nat.zero_add, List.drop_zero, List.drop_succ_cons, List.drop_nil, List.take_succ_cons, List.take_zero, List.take_nil, List.drop_drop, setRange, PV.cells, valT, List.getD_cons_zero, List.getD_cons_succ, List.take, List.length, Nat.reduceAdd, List.nil_append, applyU, hset, hdel, Nat.reduceEqDiff, reduceIte, List.append_eq, List.cons_append, List.nil_append, frz, rowsOf, updsNew, updsAt, sigN, sigS, PV.mapId, mapIds, Option.map, Blk.mapId, List.drop, heapOf, hrow]
      conv => arg 5; simp only [stride, Nat.reduceAdd]
      refine EVgo9 trivial trivial trivial trivial trivial trivial trivial trivial trivial trivial trivial trivial ?_
      simp only [hS, lm, cond_true, cond_false]
      exact WQ.ret rfl
    · have h28 := s28n hcf b b.c b.m b.o [(1, 0)] (Rw.refl b) hb.sm (by simp) (by simp; omega)
      have e : elseW b = (-8, b) := by simp only [elseW, if_pos ht, if_neg h]
      rw [e]
      refine ⟨false, false, false, _, _, _, Rw.refl b, ?_⟩
      refine ev_ofC' hcf env48 ?_
      simp only [hB] at h28 ⊢
      conv => arg 2; simp only [ir48]
      conv => arg 3; simp only [ir48, Go.Proofs.YtcphpiboamlanaaEv.start, List.length, Nat.reduceAdd, Nat.reduceSub, List.reduceReplicate, List.append_eq, List.cons_append, List.nil_append]
      conv => arg 4; simp only [heapOf]
      try conv => arg 5; simp only [List.length, Nat.reduceAdd]
      try conv => arg 6; simp only [List.length, Nat.reduceAdd]
      refine EVgo9 trivial (h70) (h28) trivial trivial trivial trivial trivial trivial trivial trivial trivial ?_
      exact WQ.ret rfl
omit hcf in
theorem take_pre2 (l : List Pr) : (l.take (l.length - 1)).length - 1 = l.length - 2 := by rw [len_pre]; omega
theorem s54 : Sp1 cf 54 repeatW := by
  intro b hb
  have h70 := s70v hcf b b.c b.m b.o 1 1 (Rw.refl b) hb.sm (by omega)
  have h70' := s70v hcf b b.c b.m b.o 0 2 (Rw.refl b) hb.sm (by omega)
  by_cases hq : (topP b.m 1 1).2 = true ∧ (topP b.m 0 2).2 = true
  · have ht := hq.1
    have hu := hq.2
    obtain ⟨n, en, hn⟩ := hb.orig (below := 1) (a := (topP b.m 1 1).fst) (Prod.ext rfl ht)
    have h0 := topP_ok (Prod.ext rfl ht : topP b.m 1 1 = (_, true))
    rw [ht, en] at h70
    rw [hu] at h70'
    by_cases h : b.c.length + 1 ≤ 4096
    · have h74 := s74 hcf b b.c b.m b.o 1 2 (topP b.m 0 2).fst (Rw.refl b) hb.sm h (Prod.ext rfl hu)
      have lc : (b.c ++ [(1, (topP b.m 0 2).fst)]).length = b.c.length + 1 := by simp only [List.length_append, List.length_cons, List.length_nil]
      have sc : (b.c ++ [(1, (topP b.m 0 2).fst)]).length ≤ 1000000 := by omega
      have hn' : n < (b.c ++ [(1, (topP b.m 0 2).fst)]).length := by omega
      have sm1 : (b.m.take (b.m.length - 1)).length ≤ 1000000 := by have := hb.sm.m; rw [len_pre]; omega
      have sm2 : (b.m.take (b.m.length - 2)).length ≤ 1000000 := by have := hb.sm.m; rw [len_pre]; omega
      have h72 := s72 hcf ⟨b.c ++ [(1, (topP b.m 0 2).fst)], b.m.take (b.m.length - 1), b.o⟩ (b.c ++ [(1, (topP b.m 0 2).fst)]) b.m b.o 1 ⟨List.take_length, take_pre b.m, List.take_length⟩ ⟨sc, sm1, hb.sm.o⟩ (by show 1 ≤ (b.m.take (b.m.length - 1)).length; rw [len_pre]; omega)
      have h71 := s71 hcf ⟨b.c ++ [(1, (topP b.m 0 2).fst)], b.m.take (b.m.length - 2), b.o⟩ (b.c ++ [(1, (topP b.m 0 2).fst)]) b.m b.o n ⟨List.take_length, take_pre b.m, List.take_length⟩ ⟨sc, sm2, hb.sm.o⟩ hn'
      have hl := resC_len (b.c ++ [(1, (topP b.m 0 2).fst)]) hn'
      have e : repeatW b = (0, ⟨resC (b.c ++ [(1, (topP b.m 0 2).fst)]) n, b.m.take (b.m.length - 2), b.o⟩) := by simp only [repeatW, if_pos hq, if_pos h, en, Int.toNat_natCast]
      rw [e]
      refine ⟨true, false, false, resC (b.c ++ [(1, (topP b.m 0 2).fst)]) n, b.m, b.o, ⟨List.take_length, take_pre b.m, List.take_length⟩, ?_⟩
      refine ev_ofC' hcf env54 ?_
      simp only [hB] at h74 h72 h71 ⊢
      simp only [take_pre2] at h72
      simp only [len_pre] at h72 h71
      conv => arg 2; simp only [ir54]
      conv => arg 3; simp only [ir54, Go.Proofs.YtcphpiboamlanaaEv.start, List.length, Nat.reduceAdd, Nat.reduceSub, List.reduceReplicate, List.append_eq, List.cons_append, List.nil_append]
      conv => arg 4; simp only [heapOf]
      try conv => arg 5; simp only [List.length, Nat.reduceAdd]
      try conv => arg 6; simp only [List.length, Nat.reduceAdd]
      refine EVgo9 trivial (h70) (h70') (h74) (h72) (h71) trivial trivial trivial trivial trivial trivial ?_
      simp only [hS, len_pre, cond_true, cond_false]
      exact WQ.ret rfl
    · have h74 := s74n hcf b b.c b.m b.o 1 2 (topP b.m 0 2).fst (Rw.refl b) hb.sm h (Prod.ext rfl hu)
      have e : repeatW b = (-8, b) := by simp only [repeatW, if_pos hq, if_neg h]
      rw [e]
      refine ⟨false, false, false, _, _, _, Rw.refl b, ?_⟩
      refine ev_ofC' hcf env54 ?_
      simp only [hB] at h74 ⊢
      conv => arg 2; simp only [ir54]
      conv => arg 3; simp only [ir54, Go.Proofs.YtcphpiboamlanaaEv.start, List.length, Nat.reduceAdd, Nat.reduceSub, List.reduceReplicate, List.append_eq, List.cons_append, List.nil_append]
      conv => arg 4; simp only [heapOf]
      try conv => arg 5; simp only [List.length, Nat.reduceAdd]
      try conv => arg 6; simp only [List.length, Nat.reduceAdd]
      refine EVgo9 trivial (h70) (h70') (h74) trivial trivial trivial trivial trivial trivial trivial trivial ?_
      exact WQ.ret rfl
  · have e : repeatW b = (-22, b) := if_neg hq
    rw [e]
    refine ⟨false, false, false, _, _, _, Rw.refl b, ?_⟩
    refine ev_ofC' hcf env54 ?_
    simp only [hB]
    conv => arg 2; simp only [ir54]
    conv => arg 3; simp only [ir54, Go.Proofs.YtcphpiboamlanaaEv.start, List.length, Nat.reduceAdd, Nat.reduceSub, List.reduceReplicate, List.append_eq, List.cons_append, List.nil_append]
    conv => arg 4; simp only [heapOf]
    try conv => arg 5; simp only [List.length, Nat.reduceAdd]
    try conv => arg 6; simp only [List.length, Nat.reduceAdd]
    cases ht : (topP b.m 1 1).2
    · rw [topP_n ht] at h70
      refine EVgo9 trivial (h70) (h70') trivial trivial trivial trivial trivial trivial trivial trivial trivial ?_
      exact WQ.ret rfl
    · cases hu : (topP b.m 0 2).2
      · rw [topP_n hu] at h70'
        rw [ht] at h70
        refine EVgo9 trivial (h70) (h70') trivial trivial trivial trivial trivial trivial trivial trivial trivial ?_
        exact WQ.ret rfl
      · exact absurd ⟨ht, hu⟩ hq
end
end Go.Proofs.YtcphpiboamlanaaR
