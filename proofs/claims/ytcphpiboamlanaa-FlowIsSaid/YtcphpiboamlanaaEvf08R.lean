/- Evf08R: a part of the proof. -/
import Derived.Test.YtcphpiboamlanaaEvf08R0
open Go Go.Proofs.YtcphpiboamlanaaEv Go.Proofs.YtcphpiboamlanaaR Go.IntWalk
set_option maxRecDepth 20000
set_option maxHeartbeats 8000000
set_option linter.unusedVariables false
set_option linter.unusedSimpArgs false
namespace Go.Proofs.YtcphpiboamlanaaR
section
variable {cf : CF} (hcf : cf = ev env)
include hcf
theorem sW {k : Nat} (hk : k < 13) : Sp1 cf (47 + k) (wordF k) := by
  match k, hk with
  | 0, _ => exact s47 hcf
  | 1, _ => exact s48 hcf
  | 2, _ => exact s49 hcf
  | 3, _ => exact s50 hcf
  | 4, _ => exact s51 hcf
  | 5, _ => exact s52 hcf
  | 6, _ => exact s53 hcf
  | 7, _ => exact s54 hcf
  | 8, _ => exact s55 hcf
  | 9, _ => exact s56 hcf
  | 10, _ => exact s57 hcf
  | 11, _ => exact s58 hcf
  | 12, _ => exact s59 hcf
theorem s10n (b : Bd) (s : ByteArray) (hb : Few b) (hs : s.size ≤ 1000000) (hk : wordK s = -1) : Sp cf 10 [bE b, .str s] (encWord (wordB b s)) := by
  have h26 := s26 hcf b (by have := hb.c; omega) (by have := hb.m; omega) (by have := hb.o; omega)
  have h27 := s27n hcf (ownB b) s hs hk
  refine sp_of hcf env10 ?_
  have e : wordB b s = _ := if_pos hk
  rw [e]
  simp only [encWord, hB, bE, slP] at h26 h27 ⊢
  conv => arg 2; simp only [ir10]
  conv => arg 3; simp only [ir10, Go.Proofs.YtcphpiboamlanaaEv.start, List.length, Nat.reduceAdd, Nat.reduceSub, List.reduceReplicate, List.append_eq, List.cons_append, List.nil_append]
  conv => arg 4; simp only [heapOf]
  try conv => arg 5; simp only [List.length, Nat.reduceAdd]
  try conv => arg 6; simp only [List.length, Nat.reduceAdd]
  refine EVgo9 trivial (h26) (h27) trivial trivial trivial trivial trivial trivial trivial trivial trivial ?_
  exact EVret (allP)
theorem s10k (b : Bd) (s : ByteArray) (hb : Few b) (hs : s.size ≤ 1000000) (k : Nat) (hk : k < 13) (hw : wordK s = k) : Sp cf 10 [bE b, .str s] (encWord (wordB b s)) := by
  have h26 := s26 hcf b (by have := hb.c; omega) (by have := hb.m; omega) (by have := hb.o; omega)
  have h27 := s27 hcf (ownB b) s hs k hk hw
  obtain ⟨mc, mm, mo, rc, rm, rq, hr, hw'⟩ := sW hcf hk (ownB b) (own_good hb)
  have n1 : wordK s ≠ -1 := by omega
  have ek : (wordK s).toNat = k := by omega
  have e : wordB b s = _ := if_neg n1
  rw [e, ek]
  generalize wordF k (ownB b) = x at hr hw'
  refine sp_of hcf env10 ?_
  by_cases hx : x.1 = 0
  · rw [if_pos hx]
    have z : (x.1 != 0) = false := by rw [hx]; rfl
    simp only [encWord, hB, bE, slP] at h26 h27 hw' ⊢
    conv => arg 2; simp only [ir10]
    conv => arg 3; simp only [ir10, Go.Proofs.YtcphpiboamlanaaEv.start, List.length, Nat.reduceAdd, Nat.reduceSub, List.reduceReplicate, List.append_eq, List.cons_append, List.nil_append]
    conv => arg 4; simp only [heapOf]
    try conv => arg 5; simp only [List.length, Nat.reduceAdd]
    try conv => arg 6; simp only [List.length, Nat.reduceAdd]
    refine EVgo9 (z) (h26) trivial trivial trivial trivial trivial trivial trivial trivial trivial trivial ?_
    first | refine WO.step ((show EK cf _ _ _ _ (.fn (47 + k) [.ptr 320 0] []) [(320, some (.box [.own 321 2 0 (ownB b).c.length, .own 322 2 0 (ownB b).m.length, .own 323 2 0 (ownB b).o.length])), (321, some (.row (flat encP (ownB b).c))), (322, some (.row (flat encP (ownB b).m))), (323, some (.row (flat encP (ownB b).o)))] from k_call (x := (_, _)) h27 rfl)) ?_ | refine WOc.step ((show EK cf _ _ _ _ (.fn (47 + k) [.ptr 320 0] []) [(320, some (.box [.own 321 2 0 (ownB b).c.length, .own 322 2 0 (ownB b).m.length, .own 323 2 0 (ownB b).o.length])), (321, some (.row (flat encP (ownB b).c))), (322, some (.row (flat encP (ownB b).m))), (323, some (.row (flat encP (ownB b).o)))] from k_call (x := (_, _)) h27 rfl)) ?_
    conv => arg 2; simp only [setOpt, List.set, Nat.reduceLT, Int.reduceToNat, List.drop_drop, valT, List.getD_cons_zero, List.getD_cons_succ, Int.reduceLT, Int.reduceLE, Int.reduceAdd, Int.reduceSub, Int.reduceMul, Int.reduceNeg, Int.reduceEq, Int.reduceNe, Int.cast_ofNat_Int, Int.natCast_zero, Int.natCast_one, ge_iff_le, gt_iff_lt, decide_true, decide_false, Bool.not_true, Bool.not_false, Int.toNat_natCast, Nat.sub_zero, Nat.mul_one, Option.isSome_some, Option.isSome_none, Bool.false_eq_true, Bool.and_true, Bool.true_and, Bool.and_false, Bool.false_and, Nat.zero_add, Nat.zero_mul, List.drop_zero, reduceIte, setRange, PV.cells, fillB, List.take, List.drop, List.append_eq, List.cons_append, List.nil_append, List.length, List.map, List.zip, List.zipWith, List.replicate, List.flatten, Nat.reduceAdd, Nat.reduceMul, Nat.reduceSub, PV.mapId, mapIds, Option.map, Blk.mapId, sigN, sigS]
    try conv => arg 3; simp only [Nat.reduceLT, List.reduceReplicate, List.flatten_cons, List.flatten_nil, List.append_nil, Nat.reduceMul, Nat.mul_one, Nat.one_mul, Nat.zero_mul, Nat.zero_add, List.drop_zero, List.drop_succ_cons, List.drop_nil, List.take_succ_cons, List.take_zero, List.take_nil, List.drop_drop, setRange, PV.cells, valT, List.getD_cons_zero, List.getD_cons_succ, List.take, List.length, Nat.reduceAdd, List.nil_append, applyU, hset, hdel, Nat.reduceEqDiff, reduceIte, List.append_eq, List.cons_append, List.nil_append, frz, rowsOf, updsNew, updsAt, sigN, sigS, PV.mapId, mapIds, Option.map, Blk.mapId, List.drop, heapOf]
    conv => arg 5; simp only [stride, Nat.reduceAdd]
    refine EVgo9 (z) trivial trivial trivial trivial trivial trivial trivial trivial trivial trivial trivial ?_
    cases mc <;> cases mm <;> cases mo <;> (simp only [hS, cond_true, cond_false, List.append_nil, List.cons_append, List.nil_append] at hw')
    · refine EVgo9 (z) (hw') trivial trivial trivial trivial trivial trivial trivial trivial trivial trivial ?_
      exact EVret (And.intro (hr.c) ( And.intro (hr.m) ( And.intro (hr.o) (takeP))))
    · refine EVgo9 (z) (hw') trivial trivial trivial trivial trivial trivial trivial trivial trivial trivial ?_
      exact EVret (And.intro (hr.c) ( And.intro (hr.m) ( And.intro (hr.o) (takeP))))
    · refine EVgo9 (z) (hw') trivial trivial trivial trivial trivial trivial trivial trivial trivial trivial ?_
      exact EVret (And.intro (hr.c) ( And.intro (hr.m) ( And.intro (hr.o) (takeP))))
    · refine EVgo9 (z) (hw') trivial trivial trivial trivial trivial trivial trivial trivial trivial trivial ?_
      exact EVret (And.intro (hr.c) ( And.intro (hr.m) ( And.intro (hr.o) (takeP))))
    · refine EVgo9 (z) (hw') trivial trivial trivial trivial trivial trivial trivial trivial trivial trivial ?_
      exact EVret (And.intro (hr.c) ( And.intro (hr.m) ( And.intro (hr.o) (takeP))))
    · refine EVgo9 (z) (hw') trivial trivial trivial trivial trivial trivial trivial trivial trivial trivial ?_
      exact EVret (And.intro (hr.c) ( And.intro (hr.m) ( And.intro (hr.o) (takeP))))
    · refine EVgo9 (z) (hw') trivial trivial trivial trivial trivial trivial trivial trivial trivial trivial ?_
      exact EVret (And.intro (hr.c) ( And.intro (hr.m) ( And.intro (hr.o) (takeP))))
    · refine EVgo9 (z) (hw') trivial trivial trivial trivial trivial trivial trivial trivial trivial trivial ?_
      exact EVret (And.intro (hr.c) ( And.intro (hr.m) ( And.intro (hr.o) (takeP))))
  · rw [if_neg hx]
    have z : (x.1 != 0) = true := bne_iff_ne.2 hx
    simp only [encWord, hB, bE, slP] at h26 h27 hw' ⊢
    conv => arg 2; simp only [ir10]
    conv => arg 3; simp only [ir10, Go.Proofs.YtcphpiboamlanaaEv.start, List.length, Nat.reduceAdd, Nat.reduceSub, List.reduceReplicate, List.append_eq, List.cons_append, List.nil_append]
    conv => arg 4; simp only [heapOf]
    try conv => arg 5; simp only [List.length, Nat.reduceAdd]
    try conv => arg 6; simp only [List.length, Nat.reduceAdd]
    refine EVgo9 (z) (h26) trivial trivial trivial trivial trivial trivial trivial trivial trivial trivial ?_
    first | refine WO.step ((show EK cf _ _ _ _ (.fn (47 + k) [.ptr 320 0] []) [(320, some (.box [.own 321 2 0 (ownB b).c.length, .own 322 2 0 (ownB b).m.length, .own 323 2 0 (ownB b).o.length])), (321, some (.row (flat encP (ownB b).c))), (322, some (.row (flat encP (ownB b).m))), (323, some (.row (flat encP (ownB b).o)))] from k_call (x := (_, _)) h27 rfl)) ?_ | refine WOc.step ((show EK cf _ _ _ _ (.fn (47 + k) [.ptr 320 0] []) [(320, some (.box [.own 321 2 0 (ownB b).c.length, .own 322 2 0 (ownB b).m.length, .own 323 2 0 (ownB b).o.length])), (321, some (.row (flat encP (ownB b).c))), (322, some (.row (flat encP (ownB b).m))), (323, some (.row (flat encP (ownB b).o)))] from k_call (x := (_, _)) h27 rfl)) ?_
    conv => arg 2; simp only [setOpt, List.set, Nat.reduceLT, Int.reduceToNat, List.drop_drop, valT, List.getD_cons_zero, List.getD_cons_succ, Int.reduceLT, Int.reduceLE, Int.reduceAdd, Int.reduceSub, Int.reduceMul, Int.reduceNeg, Int.reduceEq, Int.reduceNe, Int.cast_ofNat_Int, Int.natCast_zero, Int.natCast_one, ge_iff_le, gt_iff_lt, decide_true, decide_false, Bool.not_true, Bool.not_false, Int.toNat_natCast, Nat.sub_zero, Nat.mul_one, Option.isSome_some, Option.isSome_none, Bool.false_eq_true, Bool.and_true, Bool.true_and, Bool.and_false, Bool.false_and, Nat.zero_add, Nat.zero_mul, List.drop_zero, reduceIte, setRange, PV.cells, fillB, List.take, List.drop, List.append_eq, List.cons_append, List.nil_append, List.length, List.map, List.zip, List.zipWith, List.replicate, List.flatten, Nat.reduceAdd, Nat.reduceMul, Nat.reduceSub, PV.mapId, mapIds, Option.map, Blk.mapId, sigN, sigS]
    try conv => arg 3; simp only [Nat.reduceLT, List.reduceReplicate, List.flatten_cons, List.flatten_nil, List.append_nil, Nat.reduceMul, Nat.mul_one, Nat.one_mul, Nat.zero_mul, Nat.zero_add, List.drop_zero, List.drop_succ_cons, List.drop_nil, List.take_succ_cons, List.take_zero, List.take_nil, List.drop_drop, setRange, PV.cells, valT, List.getD_cons_zero, List.getD_cons_succ, List.take, List.length, Nat.reduceAdd, List.nil_append, applyU, hset, hdel, Nat.reduceEqDiff, reduceIte, List.append_eq, List.cons_append, List.nil_append, frz, rowsOf, updsNew, updsAt, sigN, sigS, PV.mapId, mapIds, Option.map, Blk.mapId, List.drop, heapOf]
    conv => arg 5; simp only [stride, Nat.reduceAdd]
    refine EVgo9 (z) trivial trivial trivial trivial trivial trivial trivial trivial trivial trivial trivial ?_
    cases mc <;> cases mm <;> cases mo <;> (simp only [hS, cond_true, cond_false, List.append_nil, List.cons_append, List.nil_append] at hw')
    · refine EVgo9 (z) (hw') (h26) trivial trivial trivial trivial trivial trivial trivial trivial trivial ?_
      exact EVret (allP)
    · refine EVgo9 (z) (hw') (h26) trivial trivial trivial trivial trivial trivial trivial trivial trivial ?_
      exact EVret (allP)
    · refine EVgo9 (z) (hw') (h26) trivial trivial trivial trivial trivial trivial trivial trivial trivial ?_
      exact EVret (allP)
    · refine EVgo9 (z) (hw') (h26) trivial trivial trivial trivial trivial trivial trivial trivial trivial ?_
      exact EVret (allP)
    · refine EVgo9 (z) (hw') (h26) trivial trivial trivial trivial trivial trivial trivial trivial trivial ?_
      exact EVret (allP)
    · refine EVgo9 (z) (hw') (h26) trivial trivial trivial trivial trivial trivial trivial trivial trivial ?_
      exact EVret (allP)
    · refine EVgo9 (z) (hw') (h26) trivial trivial trivial trivial trivial trivial trivial trivial trivial ?_
      exact EVret (allP)
    · refine EVgo9 (z) (hw') (h26) trivial trivial trivial trivial trivial trivial trivial trivial trivial ?_
      exact EVret (allP)
theorem s10 (b : Bd) (s : ByteArray) (hb : Few b) (hs : s.size ≤ 1000000) : Sp cf 10 [bE b, .str s] (encWord (wordB b s)) := by
  rcases idxS_lt (upL s.toList) theWords 0 with h | ⟨k, hk, h⟩
  · exact s10n hcf b s hb hs h
  · exact s10k hcf b s hb hs k hk (by rw [Nat.zero_add] at h; exact h)
end
end Go.Proofs.YtcphpiboamlanaaR
