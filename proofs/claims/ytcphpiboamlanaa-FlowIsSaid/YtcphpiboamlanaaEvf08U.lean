/- Evf08U: a part of the proof. -/
import Derived.Test.YtcphpiboamlanaaEvf08T
open Go Go.Proofs.YtcphpiboamlanaaEv Go.Proofs.YtcphpiboamlanaaR Go.IntWalk
set_option maxRecDepth 20000
set_option maxHeartbeats 8000000
set_option linter.unusedVariables false
set_option linter.unusedSimpArgs false
namespace Go.Proofs.YtcphpiboamlanaaR
theorem row_res {c : List Pr} {a : Nat} (h : a < c.length) : (flat encP c).take (a * 2) ++ [PV.int .i64 (c.getD a (0, 0)).1, .int .i64 (c.length : Int)] ++ (flat encP c).drop (a * 2 + 2) = flat encP (resC c a) := by
  unfold resC resR
  rw [takeP, show a * 2 + 2 = (a + 1) * 2 by omega, dropP, ← appP, ← appP]
  rfl
def encTop (x : Int × Bool) (kind : Int) : PV := .tup [.agg [.int .i64 (if x.2 = true then kind else 0), .int .i64 x.1], .bool x.2]
def encW (x : Int × Bd) : PV := .tup [bE x.2, .int .i64 x.1]
structure Mid (b : Bd) : Prop where
  c : b.c.length ≤ 200000
  m : b.m.length ≤ 200000
  o : b.o.length ≤ 200000
theorem Few.mid {b : Bd} (h : Few b) : Mid b := ⟨by have := h.c; omega, by have := h.m; omega, by have := h.o; omega⟩
section
variable {cf : CF} (hcf : cf = ev env)
include hcf
theorem s37 (b : Bd) (hb : Mid b) : Sp cf 37 [bE b] (bE (ownB b)) := by
  have := hb.c; have := hb.m; have := hb.o
  have h24 := s24 hcf b (by omega) (by omega) (by omega)
  refine sp_of hcf env37 ?_
  unfold ownB
  cases hs : saneB b with
  | false =>
    rw [hs] at h24
    rw [if_neg (by simp), show bE emp = .agg [.sl 0 false [], .sl 0 false [], .sl 0 false []] from rfl]
    simp only [bE, slP] at h24 ⊢
    conv => arg 2; simp only [ir37]
    conv => arg 3; simp only [ir37, Go.Proofs.YtcphpiboamlanaaEv.start, List.length, Nat.reduceAdd, Nat.reduceSub, List.reduceReplicate, List.append_eq, List.cons_append, List.nil_append]
    conv => arg 4; simp only [heapOf]
    try conv => arg 5; simp only [List.length, Nat.reduceAdd]
    try conv => arg 6; simp only [List.length, Nat.reduceAdd]
    refine EVgo9 trivial (h24) trivial trivial trivial trivial trivial trivial trivial trivial trivial trivial ?_
    exact EVret trivial
  | true =>
    rw [hs] at h24
    rw [if_pos rfl]
    simp only [bE, slP] at h24 ⊢
    conv => arg 2; simp only [ir37]
    conv => arg 3; simp only [ir37, Go.Proofs.YtcphpiboamlanaaEv.start, List.length, Nat.reduceAdd, Nat.reduceSub, List.reduceReplicate, List.append_eq, List.cons_append, List.nil_append]
    conv => arg 4; simp only [heapOf]
    try conv => arg 5; simp only [List.length, Nat.reduceAdd]
    try conv => arg 6; simp only [List.length, Nat.reduceAdd]
    refine EVgo9 (And.intro (lenP) (allP)) (h24) trivial trivial trivial trivial trivial trivial trivial trivial trivial trivial ?_
    exact EVret (allP)
theorem s20 (b : Bd) (l : List Pr) (hb : Mid b) (hl : l.length ≤ 200000) : Sp cf 20 [bE b, slP l] (encEmit (emitB b l)) := by
  have h37 := s37 hcf b hb
  have hc := (ok_ownB b).c
  refine sp_of hcf env20 ?_
  unfold emitB
  generalize ownB b = d at *
  have w : IntKind.i64.wrap ((d.c.length : Int) + (l.length : Int)) = (d.c.length : Int) + l.length := by rw [i64_in _ (by omega)]
  by_cases h : d.c.length + l.length ≤ 4096
  · have h1 : ¬ ((d.c.length : Int) + l.length > 4096) := by omega
    have hap : (flat encP (d.c ++ l)).take ((d.c.length + l.length) * 2) = flat encP (d.c ++ l) := by rw [← List.length_append, allP]
    simp only [if_pos h, encEmit]
    simp only [bE, slP, List.length_append] at h37 ⊢
    conv => arg 2; simp only [ir20]
    conv => arg 3; simp only [ir20, Go.Proofs.YtcphpiboamlanaaEv.start, List.length, Nat.reduceAdd, Nat.reduceSub, List.reduceReplicate, List.append_eq, List.cons_append, List.nil_append]
    conv => arg 4; simp only [heapOf]
    try conv => arg 5; simp only [List.length, Nat.reduceAdd]
    try conv => arg 6; simp only [List.length, Nat.reduceAdd]
    refine EVgo9 (And.intro (w) ( And.intro (h1) ( And.intro (lenP) ( And.intro (allP) (appP))))) (h37) trivial trivial trivial trivial trivial trivial trivial trivial trivial trivial ?_
    exact EVret (And.intro (allP) (hap))
  · have h1 : ((d.c.length : Int) + l.length > 4096) := by omega
    simp only [if_neg h, encEmit]
    simp only [bE, slP] at h37 ⊢
    conv => arg 2; simp only [ir20]
    conv => arg 3; simp only [ir20, Go.Proofs.YtcphpiboamlanaaEv.start, List.length, Nat.reduceAdd, Nat.reduceSub, List.reduceReplicate, List.append_eq, List.cons_append, List.nil_append]
    conv => arg 4; simp only [heapOf]
    try conv => arg 5; simp only [List.length, Nat.reduceAdd]
    try conv => arg 6; simp only [List.length, Nat.reduceAdd]
    refine EVgo9 (And.intro (w) ( And.intro (h1) ( And.intro (lenP) ( And.intro (allP) (appP))))) (h37) trivial trivial trivial trivial trivial trivial trivial trivial trivial trivial ?_
    exact EVret (allP)
theorem s44 (b : Bd) (o a : Int) (hb : Mid b) : Sp cf 44 [bE b, .int .i64 o, .int .i64 a] (encEmit (emitB b [(o, a)])) := by
  have h20 := s20 hcf b [(o, a)] hb (by simp)
  refine sp_of hcf env44 ?_
  generalize emitB b [(o, a)] = x at *
  simp only [encEmit, bE, slP] at h20 ⊢
  conv => arg 2; simp only [ir44]
  conv => arg 3; simp only [ir44, Go.Proofs.YtcphpiboamlanaaEv.start, List.length, Nat.reduceAdd, Nat.reduceSub, List.reduceReplicate, List.append_eq, List.cons_append, List.nil_append]
  conv => arg 4; simp only [heapOf]
  try conv => arg 5; simp only [List.length, Nat.reduceAdd]
  try conv => arg 6; simp only [List.length, Nat.reduceAdd]
  refine EVgo9 trivial (h20) trivial trivial trivial trivial trivial trivial trivial trivial trivial trivial ?_
  exact EVret trivial
theorem s66 (b : Bd) (below : Nat) (kind : Int) (hm : b.m.length ≤ 1000000) (hb : below ≤ 10) : Sp cf 66 [bE b, .int .i64 below, .int .i64 kind] (encTop (topP b.m below kind) kind) := by
  have w1 : IntKind.i64.wrap ((b.m.length : Int) - 1) = (b.m.length : Int) - 1 := i64_in _ (by omega)
  have w2 : IntKind.i64.wrap ((b.m.length : Int) - 1 - (below : Int)) = (b.m.length : Int) - 1 - (below : Int) := i64_in _ (by omega)
  refine sp_of hcf env66 ?_
  unfold encTop
  simp only [bE, slP]
  conv => arg 2; simp only [ir66]
  conv => arg 3; simp only [ir66, Go.Proofs.YtcphpiboamlanaaEv.start, List.length, Nat.reduceAdd, Nat.reduceSub, List.reduceReplicate, List.append_eq, List.cons_append, List.nil_append]
  conv => arg 4; simp only [heapOf]
  try conv => arg 5; simp only [List.length, Nat.reduceAdd]
  try conv => arg 6; simp only [List.length, Nat.reduceAdd]
  by_cases h1 : below + 1 ≤ b.m.length
  · have e1 : (b.m.length : Int) - 1 - (below : Int) = ((b.m.length - 1 - below : Nat) : Int) := by omega
    have n1 : ¬ (((b.m.length - 1 - below : Nat) : Int) < 0) := by omega
    have e0 := at_P (l := b.m) (i := b.m.length - 1 - below) (by omega)
    replace w2 := w2.trans e1
    by_cases h2 : (b.m.getD (b.m.length - 1 - below) (0, 0)).1 = kind
    · have h2' : ((b.m.getD (b.m.length - 1 - below) (0, 0)).1 != kind) = false := by rw [h2]; simp
      simp only [topP, if_pos (And.intro h1 h2), if_true]
      refine EVgo9 (And.intro (w1) ( And.intro (w2) ( And.intro (n1) ( And.intro (e0) (h2'))))) trivial trivial trivial trivial trivial trivial trivial trivial trivial trivial trivial ?_
      rw [h2]
      exact EVret trivial
    · have h2' : ((b.m.getD (b.m.length - 1 - below) (0, 0)).1 != kind) = true := bne_iff_ne.2 h2
      simp only [topP, if_neg (show ¬ (below + 1 ≤ b.m.length ∧ (b.m.getD (b.m.length - 1 - below) (0, 0)).1 = kind) from fun q => h2 q.2), Bool.false_eq_true, if_false]
      refine EVgo9 (And.intro (w1) ( And.intro (w2) ( And.intro (n1) ( And.intro (e0) (h2'))))) trivial trivial trivial trivial trivial trivial trivial trivial trivial trivial trivial ?_
      exact EVret trivial
  · have n1 : (b.m.length : Int) - 1 - (below : Int) < 0 := by omega
    simp only [topP, if_neg (show ¬ (below + 1 ≤ b.m.length ∧ (b.m.getD (b.m.length - 1 - below) (0, 0)).1 = kind) from fun q => h1 q.1), Bool.false_eq_true, if_false]
    refine EVgo9 (And.intro (w1) ( And.intro (w2) (n1))) trivial trivial trivial trivial trivial trivial trivial trivial trivial trivial trivial ?_
    exact EVret trivial
theorem s68 (b : Bd) (n : Nat) (hb : Mid b) (hn : n ≤ b.m.length) : Sp cf 68 [bE b, .int .i64 n] (bE ⟨b.c, b.m.take (b.m.length - n), b.o⟩) := by
  have := hb.m
  have w : IntKind.i64.wrap ((b.m.length : Int) - (n : Int)) = ((b.m.length - n : Nat) : Int) := by rw [i64_in _ (by omega)]; omega
  refine sp_of hcf env68 ?_
  simp only [bE, slP, len_pre]
  conv => arg 2; simp only [ir68]
  conv => arg 3; simp only [ir68, Go.Proofs.YtcphpiboamlanaaEv.start, List.length, Nat.reduceAdd, Nat.reduceSub, List.reduceReplicate, List.append_eq, List.cons_append, List.nil_append]
  conv => arg 4; simp only [heapOf]
  try conv => arg 5; simp only [List.length, Nat.reduceAdd]
  try conv => arg 6; simp only [List.length, Nat.reduceAdd]
  refine EVgo9 (And.intro (w) ( And.intro (takeP) ( And.intro (lenP) (len_pre)))) trivial trivial trivial trivial trivial trivial trivial trivial trivial trivial trivial ?_
  exact EVret (And.intro (allP) ( And.intro (takeP) (len_pre)))
theorem s64 (b : Bd) (k a : Int) (hb : Mid b) : Sp cf 64 [bE b, .int .i64 k, .int .i64 a] (bE ⟨b.c, b.m ++ [(k, a)], b.o⟩) := by
  have := hb.m
  refine sp_of hcf env64 ?_
  simp only [bE, slP, snoc_len]
  conv => arg 2; simp only [ir64]
  conv => arg 3; simp only [ir64, Go.Proofs.YtcphpiboamlanaaEv.start, List.length, Nat.reduceAdd, Nat.reduceSub, List.reduceReplicate, List.append_eq, List.cons_append, List.nil_append]
  conv => arg 4; simp only [heapOf]
  try conv => arg 5; simp only [List.length, Nat.reduceAdd]
  try conv => arg 6; simp only [List.length, Nat.reduceAdd]
  refine EVgo9 (And.intro (lenP) ( And.intro (allP) (snocP))) trivial trivial trivial trivial trivial trivial trivial trivial trivial trivial trivial ?_
  exact EVret (And.intro (allP) (snoc_len))
theorem s65 (b : Bd) (a : Int) (hb : Mid b) : Sp cf 65 [bE b, .int .i64 a] (bE ⟨b.c, b.m, b.o ++ [((deep b.m : Int), a)]⟩) := by
  have := hb.o
  have h16 := s16 hcf b (by have := hb.m; omega)
  refine sp_of hcf env65 ?_
  simp only [bE, slP, snoc_len] at h16 ⊢
  conv => arg 2; simp only [ir65]
  conv => arg 3; simp only [ir65, Go.Proofs.YtcphpiboamlanaaEv.start, List.length, Nat.reduceAdd, Nat.reduceSub, List.reduceReplicate, List.append_eq, List.cons_append, List.nil_append]
  conv => arg 4; simp only [heapOf]
  try conv => arg 5; simp only [List.length, Nat.reduceAdd]
  try conv => arg 6; simp only [List.length, Nat.reduceAdd]
  refine EVgo9 (And.intro (lenP) ( And.intro (allP) (snocP))) (h16) trivial trivial trivial trivial trivial trivial trivial trivial trivial trivial ?_
  exact EVret (And.intro (allP) (snoc_len))
theorem s67 (b : Bd) (a : Nat) (hb : Mid b) (ha : a < b.c.length) : Sp cf 67 [bE b, .int .i64 a] (bE ⟨resC b.c a, b.m, b.o⟩) := by
  have := hb.c
  have hl := resC_len b.c ha
  have e0 := at_P (l := b.c) (i := a) ha
  have hrow := row_res ha
  refine sp_of hcf env67 ?_
  simp only [bE, slP, hl]
  conv => arg 2; simp only [ir67]
  conv => arg 3; simp only [ir67, Go.Proofs.YtcphpiboamlanaaEv.start, List.length, Nat.reduceAdd, Nat.reduceSub, List.reduceReplicate, List.append_eq, List.cons_append, List.nil_append]
  conv => arg 4; simp only [heapOf]
  try conv => arg 5; simp only [List.length, Nat.reduceAdd]
  try conv => arg 6; simp only [List.length, Nat.reduceAdd]
  have e1 : ((flat encP b.c).drop (a * 2 + 0)).take 1 = [.int .i64 (b.c.getD a (0, 0)).1] := by rw [Nat.add_zero, e0]; rfl
  refine EVgo9 (And.intro (lenP) ( And.intro (allP) (e0))) trivial trivial trivial trivial trivial trivial trivial trivial trivial trivial trivial ?_
  first | refine WO.step (k_load1 rfl rfl e1) ?_ | refine WOc.step (k_load1 rfl rfl e1) ?_
  conv => arg 2; simp only [setOpt, List.set, Nat.reduceLT, Int.reduceToNat, List.drop_drop, valT, List.getD_cons_zero, List.getD_cons_succ, Int.reduceLT, Int.reduceLE, Int.reduceAdd, Int.reduceSub, Int.reduceMul, Int.reduceNeg, Int.reduceEq, Int.reduceNe, Int.cast_ofNat_Int, Int.natCast_zero, Int.natCast_one, ge_iff_le, gt_iff_lt, decide_true, decide_false, Bool.not_true, Bool.not_false, Int.toNat_natCast, Nat.sub_zero, Nat.mul_one, Option.isSome_some, Option.isSome_none, Bool.false_eq_true, Bool.and_true, Bool.true_and, Bool.and_false, Bool.false_and, Nat.zero_add, Nat.zero_mul, List.drop_zero, reduceIte, setRange, PV.cells, fillB, List.take, List.drop, List.append_eq, List.cons_append, List.nil_append, List.length, List.map, List.zip, List.zipWith, List.replicate, List.flatten, Nat.reduceAdd, Nat.reduceMul, Nat.reduceSub, PV.mapId, mapIds, Option.map, Blk.mapId, sigN, sigS]
  try conv => arg 3; simp only [Nat.reduceLT, List.reduceReplicate, List.flatten_cons, List.flatten_nil, List.append_nil, Nat.reduceMul, Nat.mul_one, Nat.one_mul, Nat.zero_mul, Nat.zero_add, List.drop_zero, List.drop_succ_cons, List.drop_nil, List.take_succ_cons, List.take_zero, List.take_nil, List.drop_drop, setRange, PV.cells, valT, List.getD_cons_zero, List.getD_cons_succ, List.take, List.length, Nat.reduceAdd, List.nil_append, applyU, hset, hdel, Nat.reduceEqDiff, reduceIte, List.append_eq, List.cons_append, List.nil_append, frz, rowsOf, updsNew, updsAt, sigN, sigS, PV.mapId, mapIds, Option.map, Blk.mapId, List.drop, heapOf]
  conv => arg 5; simp only [stride, Nat.reduceAdd]
  refine EVgo9 trivial trivial trivial trivial trivial trivial trivial trivial trivial trivial trivial trivial ?_
  first | refine WO.step (k_store_row rfl rfl rfl rfl (by rw [lenP]; omega) rfl) ?_ | refine WOc.step (k_store_row rfl rfl rfl rfl (by rw [lenP]; omega) rfl) ?_
  conv => arg 2; simp only [setOpt, List.set, Nat.reduceLT, Int.reduceToNat, List.drop_drop, valT, List.getD_cons_zero, List.getD_cons_succ, Int.reduceLT, Int.reduceLE, Int.reduceAdd, Int.reduceSub, Int.reduceMul, Int.reduceNeg, Int.reduceEq, Int.reduceNe, Int.cast_ofNat_Int, Int.natCast_zero, Int.natCast_one, ge_iff_le, gt_iff_lt, decide_true, decide_false, Bool.not_true, Bool.not_false, Int.toNat_natCast, Nat.sub_zero, Nat.mul_one, Option.isSome_some, Option.isSome_none, Bool.false_eq_true, Bool.and_true, Bool.true_and, Bool.and_false, Bool.false_and, Nat.zero_add, Nat.zero_mul, List.drop_zero, reduceIte, setRange, PV.cells, fillB, List.take, List.drop, List.append_eq, List.cons_append, List.nil_append, List.length, List.map, List.zip, List.zipWith, List.replicate, List.flatten, Nat.reduceAdd, Nat.reduceMul, Nat.reduceSub, PV.mapId, mapIds, Option.map, Blk.mapId, sigN, sigS, hrow]
  try conv => arg 3; simp only [Nat.reduceLT, List.reduceReplicate, List.flatten_cons, List.flatten_nil, List.append_nil, Nat.reduceMul, Nat.mul_one, Nat.one_mul, Nat.zero_mul, Nat.zero_add, List.drop_zero, List.drop_succ_cons, List.drop_nil, List.take_succ_cons, List.take_zero, List.take_nil, List.drop_drop, setRange, PV.cells, valT, List.getD_cons_zero, List.getD_cons_succ, List.take, List.length, Nat.reduceAdd, List.nil_append, applyU, hset, hdel, Nat.reduceEqDiff, reduceIte, List.append_eq, List.cons_append, List.nil_append, frz, rowsOf, updsNew, updsAt, sigN, sigS, PV.mapId, mapIds, Option.map, Blk.mapId, List.drop, heapOf, hrow]
  conv => arg 5; simp only [stride, Nat.reduceAdd]
  refine EVgo9 trivial trivial trivial trivial trivial trivial trivial trivial trivial trivial trivial trivial ?_
  exact EVret (And.intro (allP) (hl))
theorem s43 (b : Bd) (hb : Few b) (ho : Ok b) : Sp cf 43 [bE b] (encW (leaveW b)) := by
  have hc := ho.c
  have h16 := s16 hcf b (by have := hb.m; omega)
  have h20 := s20 hcf b [(9, 0), (1, 0)] hb.mid (by simp)
  unfold emitB at h20
  rw [ownB_ok ho] at h20
  refine sp_of hcf env43 ?_
  by_cases h0 : deep b.m = 0
  · have e : leaveW b = _ := if_pos h0
    rw [e]
    rw [h0] at h16
    simp only [encW, bE, slP] at h16 ⊢
    conv => arg 2; simp only [ir43]
    conv => arg 3; simp only [ir43, Go.Proofs.YtcphpiboamlanaaEv.start, List.length, Nat.reduceAdd, Nat.reduceSub, List.reduceReplicate, List.append_eq, List.cons_append, List.nil_append]
    conv => arg 4; simp only [heapOf]
    try conv => arg 5; simp only [List.length, Nat.reduceAdd]
    try conv => arg 6; simp only [List.length, Nat.reduceAdd]
    refine EVgo9 trivial (h16) trivial trivial trivial trivial trivial trivial trivial trivial trivial trivial ?_
    exact EVret trivial
  · have h0' : (((deep b.m : Nat) : Int) == 0) = false := beq_eq_false_iff_ne.2 (by omega)
    by_cases h1 : b.c.length + 2 ≤ 4096
    · have e : leaveW b = _ := (if_neg h0).trans (if_pos h1)
      have h65 := s65 hcf ⟨b.c ++ [(9, 0), (1, 0)], b.m, b.o⟩ ((b.c.length : Int) + 1) ⟨by simp; omega, by have := hb.m; show b.m.length ≤ _; omega, by have := hb.o; show b.o.length ≤ _; omega⟩
      have w : IntKind.i64.wrap ((b.c.length : Int) + 1) = (b.c.length : Int) + 1 := i64_in _ (by omega)
      rw [if_pos (by simpa using h1)] at h20
      rw [e]
      simp only [encW, encEmit, bE, slP] at h16 h20 h65 ⊢
      conv => arg 2; simp only [ir43]
      conv => arg 3; simp only [ir43, Go.Proofs.YtcphpiboamlanaaEv.start, List.length, Nat.reduceAdd, Nat.reduceSub, List.reduceReplicate, List.append_eq, List.cons_append, List.nil_append]
      conv => arg 4; simp only [heapOf]
      try conv => arg 5; simp only [List.length, Nat.reduceAdd]
      try conv => arg 6; simp only [List.length, Nat.reduceAdd]
      refine EVgo9 (And.intro (h0') (w)) (h16) (h20) (h65) trivial trivial trivial trivial trivial trivial trivial trivial ?_
      exact EVret trivial
    · have e : leaveW b = _ := (if_neg h0).trans (if_neg h1)
      rw [if_neg (by simpa using h1)] at h20
      rw [e]
      simp only [encW, encEmit, bE, slP] at h16 h20 ⊢
      conv => arg 2; simp only [ir43]
      conv => arg 3; simp only [ir43, Go.Proofs.YtcphpiboamlanaaEv.start, List.length, Nat.reduceAdd, Nat.reduceSub, List.reduceReplicate, List.append_eq, List.cons_append, List.nil_append]
      conv => arg 4; simp only [heapOf]
      try conv => arg 5; simp only [List.length, Nat.reduceAdd]
      try conv => arg 6; simp only [List.length, Nat.reduceAdd]
      refine EVgo9 (h0') (h16) (h20) trivial trivial trivial trivial trivial trivial trivial trivial trivial ?_
      exact EVret trivial
end
end Go.Proofs.YtcphpiboamlanaaR
