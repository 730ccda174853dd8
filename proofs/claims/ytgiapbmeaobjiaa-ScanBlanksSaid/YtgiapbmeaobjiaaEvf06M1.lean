/- Evf06M1: a part of the proof. -/
import Derived.Test.YtgiapbmeaobjiaaEvf06L1
open Go Go.Proofs.YtgiapbmeaobjiaaEv Go.Proofs.YtgiapbmeaobjiaaR Go.IntWalk
set_option maxRecDepth 20000
set_option maxHeartbeats 8000000
set_option linter.unusedVariables false
set_option linter.unusedSimpArgs false
namespace Go.Proofs.YtgiapbmeaobjiaaR
def blk (x : UInt8) : UInt8 := UInt8.ofNat (x.toNat % 32)
theorem blk_nat (x : UInt8) : (blk x).toNat = x.toNat % 32 := by
  unfold blk
  rw [UInt8.toNat_ofNat']
  exact Nat.mod_eq_of_lt (by have := x.toNat_lt; omega)
theorem blk_not (x : UInt8) : fullP (blk x) = false := by
  unfold fullP
  rw [blk_nat]
  exact decide_eq_false (by omega)
theorem and31 (x : UInt8) : IntKind.u8.wrap ((BitVec.ofInt IntKind.u8.bits (x.toNat : Int) &&& BitVec.ofInt IntKind.u8.bits 31).toNat : Int) = ((blk x).toNat : Int) := by
  have hx := x.toNat_lt
  rw [blk_nat]
  have e : (BitVec.ofInt IntKind.u8.bits (x.toNat : Int) &&& BitVec.ofInt IntKind.u8.bits 31).toNat = x.toNat % 32 := by
    show (BitVec.ofInt 8 (x.toNat : Int) &&& BitVec.ofInt 8 ((31 : Nat) : Int)).toNat = _
    rw [BitVec.toNat_and, BitVec.ofInt_natCast, BitVec.ofInt_natCast, BitVec.toNat_ofNat, BitVec.toNat_ofNat, Nat.mod_eq_of_lt (by omega), Nat.mod_eq_of_lt (by omega)]
    exact Nat.and_two_pow_sub_one_eq_mod x.toNat 5
  rw [e]
  unfold IntKind.wrap; simp [IntKind.signed, IntKind.bits]; omega
theorem cut_shift (p : UInt8 → Bool) (h S : Bs) (a : Nat) : cutP p (h ++ S) (h.length + a) = ((cutP p S a).1, (cutP p S a).2 + h.length) := by
  have e : (h ++ S).drop (h.length + a) = S.drop a := by rw [← List.drop_drop, List.drop_left]
  unfold cutP
  rw [e]
  congr 1
  split
  · omega
  · rw [List.length_append]; omega
theorem upto_app {p : UInt8 → Bool} {q S : Bs} (h : ∀ b ∈ q, p b = false) : upto p (q ++ S) = q ++ upto p S := by
  induction q with
  | nil => rfl
  | cons b q ih =>
    have e : ∀ l : Bs, upto p (b :: l) = b :: upto p l := fun l => by unfold upto; rw [List.takeWhile_cons_of_pos (by simp [h b List.mem_cons_self])]
    rw [List.cons_append, e, ih fun c hc => h c (List.mem_cons_of_mem _ hc)]
    rfl
theorem skip_zero (S : Bs) : skipN S 0 = (upto fullP S).length := by
  unfold skipN
  have : inN S.length 0 = 0 := by unfold inN; simp
  rw [this, List.drop_zero, Nat.zero_add]
theorem word_blanks {q S : Bs} (h : ∀ b ∈ q, fullP b = false) : wordP (q ++ S) 0 = ((wordP S 0).1, (wordP S 0).2 + q.length) := by
  unfold wordP
  rw [skip_zero, skip_zero, upto_app h, List.length_append, cut_shift]
theorem word_head (h S : Bs) : wordP (h ++ S) (h.length : Nat) = ((wordP S 0).1, (wordP S 0).2 + h.length) := by
  unfold wordP
  rw [skip_zero]
  have : skipN (h ++ S) (h.length : Nat) = h.length + (upto fullP S).length := by
    unfold skipN
    rw [inN_nat (by rw [List.length_append]; omega), List.drop_left]
  rw [this, cut_shift]
theorem mid_U {m p r : Bs} {x : UInt8} (h : p ++ x :: r = m) : (flat encU8 m).drop p.length = .int .u8 (x.toNat : Nat) :: flat encU8 r := by
  subst h
  have := flat_drop (enc := encU8) (es := 1) (fun _ => rfl) (p ++ x :: r) p.length
  rw [Nat.mul_one] at this
  rw [this, List.drop_left]
  rfl
section
variable {cf : CF} (hcf : cf = ev env)
include hcf
theorem s5 (S bl hd : Bs) : Sp cf 5 [sB S, .sl bl.length false (flat encU8 bl), sB hd] (.bool true) := by
  have h9 := s9 hcf
  refine sp_of hcf env5 ?_
  by_cases hl : S.length ≤ 500
  · have hl' : ¬ (S.length : Int) > 500 := by omega
    by_cases hb : bl.length ≤ 100
    · have hb' : ¬ (bl.length : Int) > 100 := by omega
      by_cases hh : hd.length ≤ 300
      · have hh' : ¬ (hd.length : Int) > 300 := by omega
        simp only [sB]
        conv => arg 2; simp only [ir5]
        conv => arg 3; simp only [ir5, Go.Proofs.YtgiapbmeaobjiaaEv.start, List.length, Nat.reduceAdd, Nat.reduceSub, List.reduceReplicate, List.append_eq, List.cons_append, List.nil_append]
        conv => arg 4; simp only [heapOf]
        try conv => arg 5; simp only [List.length, Nat.reduceAdd]
        try conv => arg 6; simp only [List.length, Nat.reduceAdd]
        refine EVgo9 (And.intro (szB) ( And.intro (hl') ( And.intro (hb') (hh')))) (h9) trivial trivial trivial trivial trivial trivial trivial trivial trivial trivial ?_
        refine WC.loop (T' := _) (H' := _) (n' := _) rfl ((?_ : ∀ (r q : Bs), q ++ r = bl →
          WC cf _ (mkT 112 [(0, .str ⟨S.toArray⟩), (1, .sl bl.length false (flat encU8 bl)), (2, .str ⟨hd.toArray⟩), (7, .bool true), (8, .str ⟨(q.map blk).toArray⟩), (9, .int .i64 (q.length : Nat))]) [] 0 0 _) bl [] rfl)
        intro r
        induction r with
        | nil =>
          intro q hq
          rw [List.append_nil] at hq
          subst hq
          have hnf : ∀ b ∈ q.map blk, fullP b = false := fun b hb => by
            obtain ⟨x, _, rfl⟩ := List.mem_map.1 hb
            exact blk_not x
          have hml : (q.map blk).length = q.length := List.length_map ..
          have h10 := s10 hcf S 0 (by omega)
          have h10b := s10 hcf (q.map blk ++ S) 0 (by rw [List.length_append, hml]; omega)
          have h10h := s10 hcf (hd ++ S) (hd.length : Nat) (by rw [List.length_append]; omega)
          have h13 := s13 hcf (hd ++ S) (hd.length : Nat) (by rw [List.length_append]; omega)
          rw [word_blanks hnf] at h10b
          rw [word_head] at h10h
          rw [inN_nat (by rw [List.length_append]; omega), List.drop_left] at h13
          have hxl : (wordP S 0).2 ≤ S.length := (word_ok (L := S) (j := 0) (Nat.zero_le _)).top
          generalize wordP S 0 = x at *
          generalize q.map blk = bb at *
          have e1 : ∀ a : ByteArray, (a.toList == a.toList) = true := fun a => beq_self_eq_true _
          have w1 : IntKind.i64.wrap ((x.2 : Int) + (bb.length : Int)) = ((x.2 + bb.length : Nat) : Int) := by rw [i64_in _ (by omega)]; simp
          have w2 : IntKind.i64.wrap ((x.2 : Int) + (hd.length : Int)) = ((x.2 + hd.length : Nat) : Int) := by rw [i64_in _ (by omega)]; simp
          have e2 : ∀ a : Int, (a == a) = true := fun a => beq_self_eq_true _
          simp only [encC, srcE, sB] at h10 h10b h10h h13
          conv => arg 3; simp only [mkT, putT, List.reduceReplicate, List.set]
          refine EVgl9 trivial (h10) trivial trivial trivial trivial trivial trivial trivial trivial trivial trivial ?_
          refine EVgo9 trivial (h10) trivial trivial trivial trivial trivial trivial trivial trivial trivial trivial ?_
          first | refine WO.step (k_cat (a := bb) (b := S) rfl rfl (by omega)) ?_ | refine WOc.step (k_cat (a := bb) (b := S) rfl rfl (by omega)) ?_
          conv => arg 2; simp only [setOpt, List.set, Nat.reduceLT, Int.reduceToNat, List.drop_drop, valT, List.getD_cons_zero, List.getD_cons_succ, Int.reduceLT, Int.reduceLE, Int.reduceAdd, Int.reduceSub, Int.reduceMul, Int.reduceNeg, Int.reduceEq, Int.reduceNe, Int.cast_ofNat_Int, Int.natCast_zero, Int.natCast_one, ge_iff_le, gt_iff_lt, decide_true, decide_false, Bool.not_true, Bool.not_false, Int.toNat_natCast, Nat.sub_zero, Nat.mul_one, Option.isSome_some, Option.isSome_none, Bool.false_eq_true, Bool.and_true, Bool.true_and, Bool.and_false, Bool.false_and, Nat.zero_add, Nat.zero_mul, List.drop_zero, reduceIte, setRange, PV.cells, fillB, List.take, List.drop, List.append_eq, List.cons_append, List.nil_append, List.length, List.map, List.zip, List.zipWith, List.replicate, List.flatten, Nat.reduceAdd, Nat.reduceMul, Nat.reduceSub, PV.mapId, mapIds, Option.map, Blk.mapId, sigN, sigS]
          try conv => arg 3; simp only [Nat.reduceLT, List.reduceReplicate, List.flatten_cons, List.flatten_nil, List.append_nil, Nat.reduceMul, Nat.mul_one, Nat.one_mul, Nat.zero_mul, Nat.zero_add, List.drop_zero, List.drop_succ_cons, List.drop_nil, List.take_succ_cons, List.take_zero, List.take_nil, List.drop_drop, setRange, PV.cells, valT, List.getD_cons_zero, List.getD_cons_succ, List.take, List.length, Nat.reduceAdd, List.nil_append, applyU, hset, hdel, Nat.reduceEqDiff, reduceIte, List.append_eq, List.cons_append, List.nil_append, frz, rowsOf, updsNew, updsAt, sigN, sigS, PV.mapId, mapIds, Option.map, Blk.mapId, List.drop, heapOf]
          conv => arg 5; simp only [stride, Nat.reduceAdd]
          refine EVgo9 trivial (h10b) trivial trivial trivial trivial trivial trivial trivial trivial trivial trivial ?_
          first | refine WO.step (k_cat (a := hd) (b := S) rfl rfl (by omega)) ?_ | refine WOc.step (k_cat (a := hd) (b := S) rfl rfl (by omega)) ?_
          conv => arg 2; simp only [setOpt, List.set, Nat.reduceLT, Int.reduceToNat, List.drop_drop, valT, List.getD_cons_zero, List.getD_cons_succ, Int.reduceLT, Int.reduceLE, Int.reduceAdd, Int.reduceSub, Int.reduceMul, Int.reduceNeg, Int.reduceEq, Int.reduceNe, Int.cast_ofNat_Int, Int.natCast_zero, Int.natCast_one, ge_iff_le, gt_iff_lt, decide_true, decide_false, Bool.not_true, Bool.not_false, Int.toNat_natCast, Nat.sub_zero, Nat.mul_one, Option.isSome_some, Option.isSome_none, Bool.false_eq_true, Bool.and_true, Bool.true_and, Bool.and_false, Bool.false_and, Nat.zero_add, Nat.zero_mul, List.drop_zero, reduceIte, setRange, PV.cells, fillB, List.take, List.drop, List.append_eq, List.cons_append, List.nil_append, List.length, List.map, List.zip, List.zipWith, List.replicate, List.flatten, Nat.reduceAdd, Nat.reduceMul, Nat.reduceSub, PV.mapId, mapIds, Option.map, Blk.mapId, sigN, sigS]
          try conv => arg 3; simp only [Nat.reduceLT, List.reduceReplicate, List.flatten_cons, List.flatten_nil, List.append_nil, Nat.reduceMul, Nat.mul_one, Nat.one_mul, Nat.zero_mul, Nat.zero_add, List.drop_zero, List.drop_succ_cons, List.drop_nil, List.take_succ_cons, List.take_zero, List.take_nil, List.drop_drop, setRange, PV.cells, valT, List.getD_cons_zero, List.getD_cons_succ, List.take, List.length, Nat.reduceAdd, List.nil_append, applyU, hset, hdel, Nat.reduceEqDiff, reduceIte, List.append_eq, List.cons_append, List.nil_append, frz, rowsOf, updsNew, updsAt, sigN, sigS, PV.mapId, mapIds, Option.map, Blk.mapId, List.drop, heapOf]
          conv => arg 5; simp only [stride, Nat.reduceAdd]
          refine EVgo9 (And.intro (szB) ( And.intro (e1) ( And.intro (e2) ( And.intro (w1) (w2))))) (h10h) trivial trivial trivial trivial trivial trivial trivial trivial trivial trivial ?_
          first | refine WO.step (k_cat (a := hd) (b := S) rfl rfl (by omega)) ?_ | refine WOc.step (k_cat (a := hd) (b := S) rfl rfl (by omega)) ?_
          conv => arg 2; simp only [setOpt, List.set, Nat.reduceLT, Int.reduceToNat, List.drop_drop, valT, List.getD_cons_zero, List.getD_cons_succ, Int.reduceLT, Int.reduceLE, Int.reduceAdd, Int.reduceSub, Int.reduceMul, Int.reduceNeg, Int.reduceEq, Int.reduceNe, Int.cast_ofNat_Int, Int.natCast_zero, Int.natCast_one, ge_iff_le, gt_iff_lt, decide_true, decide_false, Bool.not_true, Bool.not_false, Int.toNat_natCast, Nat.sub_zero, Nat.mul_one, Option.isSome_some, Option.isSome_none, Bool.false_eq_true, Bool.and_true, Bool.true_and, Bool.and_false, Bool.false_and, Nat.zero_add, Nat.zero_mul, List.drop_zero, reduceIte, setRange, PV.cells, fillB, List.take, List.drop, List.append_eq, List.cons_append, List.nil_append, List.length, List.map, List.zip, List.zipWith, List.replicate, List.flatten, Nat.reduceAdd, Nat.reduceMul, Nat.reduceSub, PV.mapId, mapIds, Option.map, Blk.mapId, sigN, sigS]
          try conv => arg 3; simp only [Nat.reduceLT, List.reduceReplicate, List.flatten_cons, List.flatten_nil, List.append_nil, Nat.reduceMul, Nat.mul_one, Nat.one_mul, Nat.zero_mul, Nat.zero_add, List.drop_zero, List.drop_succ_cons, List.drop_nil, List.take_succ_cons, List.take_zero, List.take_nil, List.drop_drop, setRange, PV.cells, valT, List.getD_cons_zero, List.getD_cons_succ, List.take, List.length, Nat.reduceAdd, List.nil_append, applyU, hset, hdel, Nat.reduceEqDiff, reduceIte, List.append_eq, List.cons_append, List.nil_append, frz, rowsOf, updsNew, updsAt, sigN, sigS, PV.mapId, mapIds, Option.map, Blk.mapId, List.drop, heapOf]
          conv => arg 5; simp only [stride, Nat.reduceAdd]
          refine EVgo9 (And.intro (szB) ( And.intro (e1) (e2))) (h13) trivial trivial trivial trivial trivial trivial trivial trivial trivial trivial ?_
          exact EVret trivial
        | cons b r ih =>
          intro q hq
          have hlen : bl.length = q.length + (r.length + 1) := by rw [← hq]; simp
          have hlt : (q.length : Int) < (bl.length : Int) := by omega
          have hw : IntKind.i64.wrap ((q.length : Int) + 1) = ((q.length + 1 : Nat) : Int) := by rw [i64_in _ (by omega)]; simp
          have e0 := mid_U hq
          have hand := and31 b
          have hih := ih (q ++ [b]) (by rw [List.append_assoc]; exact hq)
          rw [snoc_lenB, List.map_append] at hih
          conv => arg 3; simp only [mkT, putT, List.reduceReplicate, List.set]
          have hb8 : UInt8.ofNat (blk b).toNat = blk b := by simp
          refine EVgo9 (And.intro (hlt) ( And.intro (e0) ( And.intro (hand) (hb8)))) trivial trivial trivial trivial trivial trivial trivial trivial trivial trivial trivial ?_
          first | refine WO.step (k_cat (a := q.map blk) (b := [blk b]) rfl rfl (by simp; omega)) ?_ | refine WOc.step (k_cat (a := q.map blk) (b := [blk b]) rfl rfl (by simp; omega)) ?_
          conv => arg 2; simp only [setOpt, List.set, Nat.reduceLT, Int.reduceToNat, List.drop_drop, valT, List.getD_cons_zero, List.getD_cons_succ, Int.reduceLT, Int.reduceLE, Int.reduceAdd, Int.reduceSub, Int.reduceMul, Int.reduceNeg, Int.reduceEq, Int.reduceNe, Int.cast_ofNat_Int, Int.natCast_zero, Int.natCast_one, ge_iff_le, gt_iff_lt, decide_true, decide_false, Bool.not_true, Bool.not_false, Int.toNat_natCast, Nat.sub_zero, Nat.mul_one, Option.isSome_some, Option.isSome_none, Bool.false_eq_true, Bool.and_true, Bool.true_and, Bool.and_false, Bool.false_and, Nat.zero_add, Nat.zero_mul, List.drop_zero, reduceIte, setRange, PV.cells, fillB, List.take, List.drop, List.append_eq, List.cons_append, List.nil_append, List.length, List.map, List.zip, List.zipWith, List.replicate, List.flatten, Nat.reduceAdd, Nat.reduceMul, Nat.reduceSub, PV.mapId, mapIds, Option.map, Blk.mapId, sigN, sigS]
          try conv => arg 3; simp only [Nat.reduceLT, List.reduceReplicate, List.flatten_cons, List.flatten_nil, List.append_nil, Nat.reduceMul, Nat.mul_one, Nat.one_mul, Nat.zero_mul, Nat.zero_add, List.drop_zero, List.drop_succ_cons, List.drop_nil, List.take_succ_cons, List.take_zero, List.take_nil, List.drop_drop, setRange, PV.cells, valT, List.getD_cons_zero, List.getD_cons_succ, List.take, List.length, Nat.reduceAdd, List.nil_append, applyU, hset, hdel, Nat.reduceEqDiff, reduceIte, List.append_eq, List.cons_append, List.nil_append, frz, rowsOf, updsNew, updsAt, sigN, sigS, PV.mapId, mapIds, Option.map, Blk.mapId, List.drop, heapOf]
          conv => arg 5; simp only [stride, Nat.reduceAdd]
          refine EVgo9 (hw) trivial trivial trivial trivial trivial trivial trivial trivial trivial trivial trivial ?_
          exact WC.loop rfl hih
      · have hh' : (hd.length : Int) > 300 := by omega
        simp only [sB]
        conv => arg 2; simp only [ir5]
        conv => arg 3; simp only [ir5, Go.Proofs.YtgiapbmeaobjiaaEv.start, List.length, Nat.reduceAdd, Nat.reduceSub, List.reduceReplicate, List.append_eq, List.cons_append, List.nil_append]
        conv => arg 4; simp only [heapOf]
        try conv => arg 5; simp only [List.length, Nat.reduceAdd]
        try conv => arg 6; simp only [List.length, Nat.reduceAdd]
        refine EVgo9 (And.intro (szB) ( And.intro (hl') ( And.intro (hb') (hh')))) (h9) trivial trivial trivial trivial trivial trivial trivial trivial trivial trivial ?_
        exact EVret trivial
    · have hb' : (bl.length : Int) > 100 := by omega
      simp only [sB]
      conv => arg 2; simp only [ir5]
      conv => arg 3; simp only [ir5, Go.Proofs.YtgiapbmeaobjiaaEv.start, List.length, Nat.reduceAdd, Nat.reduceSub, List.reduceReplicate, List.append_eq, List.cons_append, List.nil_append]
      conv => arg 4; simp only [heapOf]
      try conv => arg 5; simp only [List.length, Nat.reduceAdd]
      try conv => arg 6; simp only [List.length, Nat.reduceAdd]
      refine EVgo9 (And.intro (szB) ( And.intro (hl') (hb'))) (h9) trivial trivial trivial trivial trivial trivial trivial trivial trivial trivial ?_
      exact EVret trivial
  · have hl' : (S.length : Int) > 500 := by omega
    simp only [sB]
    conv => arg 2; simp only [ir5]
    conv => arg 3; simp only [ir5, Go.Proofs.YtgiapbmeaobjiaaEv.start, List.length, Nat.reduceAdd, Nat.reduceSub, List.reduceReplicate, List.append_eq, List.cons_append, List.nil_append]
    conv => arg 4; simp only [heapOf]
    try conv => arg 5; simp only [List.length, Nat.reduceAdd]
    try conv => arg 6; simp only [List.length, Nat.reduceAdd]
    refine EVgo9 (And.intro (szB) (hl')) (h9) trivial trivial trivial trivial trivial trivial trivial trivial trivial trivial ?_
    exact EVret trivial
end
end Go.Proofs.YtgiapbmeaobjiaaR
