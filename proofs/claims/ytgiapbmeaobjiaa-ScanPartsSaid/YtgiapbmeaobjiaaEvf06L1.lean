/- Evf06L1: a part of the proof. -/
import Derived.Test.YtgiapbmeaobjiaaEvf06K1
open Go Go.Proofs.YtgiapbmeaobjiaaEv Go.Proofs.YtgiapbmeaobjiaaR Go.IntWalk
set_option maxRecDepth 20000
set_option maxHeartbeats 8000000
set_option linter.unusedVariables false
set_option linter.unusedSimpArgs false
namespace Go.Proofs.YtgiapbmeaobjiaaR
/-- what the law asks of a byte: is it the delimiter's? -/
def dlm (c b : UInt8) : Bool := isB (c.toNat : Nat) b
theorem parseP_isB (L : Bs) (i d : Int) : parseP L i d = cutP (isB d) L (inN L.length i) := by
  unfold parseP
  by_cases h : d = 32
  · rw [if_pos h]; congr 1; funext b; rw [isB_eq, if_pos h]
  · rw [if_neg h]; congr 1; funext b; rw [isB_eq, if_neg h]
section
variable {cf : CF} (hcf : cf = ev env)
include hcf
theorem s7 (L : Bs) (i : Int) (c : UInt8) : Sp cf 7 [sB L, .int .i64 i, .int .u8 (c.toNat : Nat)] (.bool true) := by
  have h9 := s9 hcf
  refine sp_of hcf env7 ?_
  by_cases hl : L.length ≤ 1000
  · have hl' : ¬ (L.length : Int) > 1000 := by omega
    have hc := c.toNat_lt
    have wc : IntKind.i64.wrap (c.toNat : Int) = (c.toNat : Int) := i64_in _ (by omega)
    have hle := inN_le L.length i
    have h13 := s13 hcf L i (by omega)
    have h16 := s16 hcf L i (c.toNat : Nat) (by omega)
    rw [parseP_isB] at h16
    generalize inN L.length i = a at *
    have sp := upto_split (isB (c.toNat : Nat)) (L.drop a)
    have nx := upto_next (isB (c.toNat : Nat)) (L.drop a)
    have mm : ∀ b ∈ upto (isB (c.toNat : Nat)) (L.drop a), isB (c.toNat : Nat) b = false := fun b hb => upto_mem hb
    have hcl : (cutP (isB (c.toNat : Nat)) L a).2 ≤ L.length := cutP_le hle
    have h13y := s13 hcf L ((cutP (isB (c.toNat : Nat)) L a).2 : Nat) (by omega)
    rw [inN_nat hcl] at h13y
    have hF : (L.drop a).length ≤ L.length := by rw [List.length_drop]; omega
    have hD : ∀ n, (L.drop a).drop n = L.drop (a + n) := fun n => List.drop_drop
    have hdl : (L.drop a).length = L.length - a := List.length_drop
    unfold cutP at h16 h13y
    generalize hp : upto (isB (c.toNat : Nat)) (L.drop a) = p at *
    generalize hf : L.drop a = f at *
    have hpf : p.length ≤ f.length := by rw [← sp, List.length_append]; omega
    -- the loop: no byte of what is parsed is the delimiter's
    have loopOk : ∀ b ∈ p, ((b.toNat : Int) == (c.toNat : Int)) = false ∧ (((c.toNat : Int) == 32) = true → ¬ ((b.toNat : Int) < 32)) := fun b hb => by
      have := mm b hb
      unfold isB delimP emptyP at this
      rw [Bool.or_eq_false_iff] at this
      refine ⟨this.1, fun q hlt => ?_⟩
      rw [q, Bool.true_and] at this
      have := of_decide_eq_false this.2
      omega
    have e1 : ∀ x : ByteArray, (x.toList == x.toList) = true := fun x => beq_self_eq_true _
    have e2 : ∀ x : Int, (x == x) = true := fun x => beq_self_eq_true _
    by_cases hlt : p.length < f.length
    · -- the delimiter is there
      rw [if_pos hlt] at h16 h13y
      obtain ⟨b, r, hbr, hb⟩ : ∃ b r, f.drop p.length = b :: r ∧ isB (c.toNat : Nat) b = true := by
        rcases nx with h | h
        · have := congrArg List.length h
          rw [List.length_drop, List.length_nil] at this
          omega
        · exact h
      rw [hbr] at sp
      have hr : L.drop (a + p.length + 1) = r := by
        rw [show a + p.length + 1 = a + (p.length + 1) by omega, ← hD, ← List.drop_drop, hbr]; rfl
      rw [hr] at h13y
      have hfl : f.length = p.length + (r.length + 1) := by rw [← sp]; simp
      have hn1 : (((p.length : Int) + (r.length : Int)) == (f.length : Int)) = false := beq_eq_false_iff_ne.2 (by omega)
      have hn2 : (((p.length : Int) + 1 + (r.length : Int)) == (f.length : Int)) = true := beq_iff_eq.2 (by omega)
      have w1 : IntKind.i64.wrap ((p.length : Int) + (r.length : Int)) = (p.length : Int) + (r.length : Int) := i64_in _ (by omega)
      have w2 : IntKind.i64.wrap ((p.length : Int) + 1) = ((p.length + 1 : Nat) : Int) := by rw [i64_in _ (by omega)]; simp
      have w3 : IntKind.i64.wrap (((p.length + 1 : Nat) : Int) + (r.length : Int)) = (p.length : Int) + 1 + (r.length : Int) := by rw [i64_in _ (by omega)]; omega
      have x1 : (⟨f.toArray⟩ : ByteArray).extract 0 p.length = ⟨p.toArray⟩ := pre_B sp
      have x2 : (⟨f.toArray⟩ : ByteArray).extract (p.length + 1) f.length = ⟨r.toArray⟩ := by
        rw [exB, List.take_length, ← List.drop_drop, hbr]; rfl
      have h0 : (0 : Int) ≤ (p.length : Int) := Int.natCast_nonneg _
      have hbi := at_B sp
      simp only [encC, srcE, sB] at h13 h16 h13y ⊢
      conv => arg 2; simp only [ir7]
      conv => arg 3; simp only [ir7, Go.Proofs.YtgiapbmeaobjiaaEv.start, List.length, Nat.reduceAdd, Nat.reduceSub, List.reduceReplicate, List.append_eq, List.cons_append, List.nil_append]
      conv => arg 4; simp only [heapOf]
      try conv => arg 5; simp only [List.length, Nat.reduceAdd]
      try conv => arg 6; simp only [List.length, Nat.reduceAdd]
      refine EVgo9 (And.intro (szB) ( And.intro (hl') (wc))) (h9) (h13) (h16) (h13y) trivial trivial trivial trivial trivial trivial trivial ?_
      refine WC.loop (T' := _) (H' := _) (n' := _) rfl ((?_ : ∀ (u v : Bs), v ++ u = p →
        WC cf _ (mkT 120 [(2, .int .u8 (c.toNat : Nat)), (7, .bool true), (9, .str ⟨f.toArray⟩), (10, .str ⟨p.toArray⟩), (12, .str ⟨r.toArray⟩), (13, .int .i64 (v.length : Nat))]) [] 0 0 _) p [] rfl)
      intro u
      induction u with
      | nil =>
        intro v hv
        rw [List.append_nil] at hv
        subst hv
        conv => arg 3; simp only [mkT, putT, List.reduceReplicate, List.set]
        refine EVgl9 (szB) trivial trivial trivial trivial trivial trivial trivial trivial trivial trivial trivial ?_
        refine EVgo9 (And.intro (szB) ( And.intro (w1) (hn1))) trivial trivial trivial trivial trivial trivial trivial trivial trivial trivial trivial ?_
        unfold isB delimP at hb
        cases g1 : ((b.toNat : Int) == (c.toNat : Int)) with
        | true =>
          refine EVgo9 (And.intro (szB) ( And.intro (w2) ( And.intro (w3) ( And.intro (hn2) ( And.intro (x1) ( And.intro (x2) (e1))))))) trivial trivial trivial trivial trivial trivial trivial trivial trivial trivial trivial ?_
          first | refine WO.step (k_index rfl rfl h0 hbi) ?_ | refine WOc.step (k_index rfl rfl h0 hbi) ?_
          conv => arg 2; simp only [setOpt, List.set, Nat.reduceLT, Int.reduceToNat, List.drop_drop, valT, List.getD_cons_zero, List.getD_cons_succ, Int.reduceLT, Int.reduceLE, Int.reduceAdd, Int.reduceSub, Int.reduceMul, Int.reduceNeg, Int.reduceEq, Int.reduceNe, Int.cast_ofNat_Int, Int.natCast_zero, Int.natCast_one, ge_iff_le, gt_iff_lt, decide_true, decide_false, Bool.not_true, Bool.not_false, Int.toNat_natCast, Nat.sub_zero, Nat.mul_one, Option.isSome_some, Option.isSome_none, Bool.false_eq_true, Bool.and_true, Bool.true_and, Bool.and_false, Bool.false_and, Nat.zero_add, Nat.zero_mul, List.drop_zero, reduceIte, setRange, PV.cells, fillB, List.take, List.drop, List.append_eq, List.cons_append, List.nil_append, List.length, List.map, List.zip, List.zipWith, List.replicate, List.flatten, Nat.reduceAdd, Nat.reduceMul, Nat.reduceSub, PV.mapId, mapIds, Option.map, Blk.mapId, sigN, sigS, e1]
          try conv => arg 3; simp only [Nat.reduceLT, List.reduceReplicate, List.flatten_cons, List.flatten_nil, List.append_nil, Nat.reduceMul, Nat.mul_one, Nat.one_mul, Nat.zero_mul, Nat.zero_add, List.drop_zero, List.drop_succ_cons, List.drop_nil, List.take_succ_cons, List.take_zero, List.take_nil, List.drop_drop, setRange, PV.cells, valT, List.getD_cons_zero, List.getD_cons_succ, List.take, List.length, Nat.reduceAdd, List.nil_append, applyU, hset, hdel, Nat.reduceEqDiff, reduceIte, List.append_eq, List.cons_append, List.nil_append, frz, rowsOf, updsNew, updsAt, sigN, sigS, PV.mapId, mapIds, Option.map, Blk.mapId, List.drop, heapOf, e1]
          conv => arg 5; simp only [stride, Nat.reduceAdd]
          refine EVgo9 (g1) trivial trivial trivial trivial trivial trivial trivial trivial trivial trivial trivial ?_
          exact EVret trivial
        | false =>
          rw [g1, Bool.false_or, Bool.and_eq_true] at hb
          have g2 : ((c.toNat : Int) == 32) = true := hb.1
          have g3 : (b.toNat : Int) < 32 := by
            have := of_decide_eq_true hb.2
            have h1 : (b.toNat : Int) ≠ (c.toNat : Int) := beq_eq_false_iff_ne.1 g1
            have h2 : (c.toNat : Int) = 32 := beq_iff_eq.1 g2
            omega
          refine EVgo9 (And.intro (szB) ( And.intro (w2) ( And.intro (w3) ( And.intro (hn2) ( And.intro (x1) ( And.intro (x2) (e1))))))) trivial trivial trivial trivial trivial trivial trivial trivial trivial trivial trivial ?_
          first | refine WO.step (k_index rfl rfl h0 hbi) ?_ | refine WOc.step (k_index rfl rfl h0 hbi) ?_
          conv => arg 2; simp only [setOpt, List.set, Nat.reduceLT, Int.reduceToNat, List.drop_drop, valT, List.getD_cons_zero, List.getD_cons_succ, Int.reduceLT, Int.reduceLE, Int.reduceAdd, Int.reduceSub, Int.reduceMul, Int.reduceNeg, Int.reduceEq, Int.reduceNe, Int.cast_ofNat_Int, Int.natCast_zero, Int.natCast_one, ge_iff_le, gt_iff_lt, decide_true, decide_false, Bool.not_true, Bool.not_false, Int.toNat_natCast, Nat.sub_zero, Nat.mul_one, Option.isSome_some, Option.isSome_none, Bool.false_eq_true, Bool.and_true, Bool.true_and, Bool.and_false, Bool.false_and, Nat.zero_add, Nat.zero_mul, List.drop_zero, reduceIte, setRange, PV.cells, fillB, List.take, List.drop, List.append_eq, List.cons_append, List.nil_append, List.length, List.map, List.zip, List.zipWith, List.replicate, List.flatten, Nat.reduceAdd, Nat.reduceMul, Nat.reduceSub, PV.mapId, mapIds, Option.map, Blk.mapId, sigN, sigS, e1]
          try conv => arg 3; simp only [Nat.reduceLT, List.reduceReplicate, List.flatten_cons, List.flatten_nil, List.append_nil, Nat.reduceMul, Nat.mul_one, Nat.one_mul, Nat.zero_mul, Nat.zero_add, List.drop_zero, List.drop_succ_cons, List.drop_nil, List.take_succ_cons, List.take_zero, List.take_nil, List.drop_drop, setRange, PV.cells, valT, List.getD_cons_zero, List.getD_cons_succ, List.take, List.length, Nat.reduceAdd, List.nil_append, applyU, hset, hdel, Nat.reduceEqDiff, reduceIte, List.append_eq, List.cons_append, List.nil_append, frz, rowsOf, updsNew, updsAt, sigN, sigS, PV.mapId, mapIds, Option.map, Blk.mapId, List.drop, heapOf, e1]
          conv => arg 5; simp only [stride, Nat.reduceAdd]
          refine EVgo9 (And.intro (g1) ( And.intro (g2) (szB))) trivial trivial trivial trivial trivial trivial trivial trivial trivial trivial trivial ?_
          first | refine WO.step (k_index rfl rfl h0 hbi) ?_ | refine WOc.step (k_index rfl rfl h0 hbi) ?_
          conv => arg 2; simp only [setOpt, List.set, Nat.reduceLT, Int.reduceToNat, List.drop_drop, valT, List.getD_cons_zero, List.getD_cons_succ, Int.reduceLT, Int.reduceLE, Int.reduceAdd, Int.reduceSub, Int.reduceMul, Int.reduceNeg, Int.reduceEq, Int.reduceNe, Int.cast_ofNat_Int, Int.natCast_zero, Int.natCast_one, ge_iff_le, gt_iff_lt, decide_true, decide_false, Bool.not_true, Bool.not_false, Int.toNat_natCast, Nat.sub_zero, Nat.mul_one, Option.isSome_some, Option.isSome_none, Bool.false_eq_true, Bool.and_true, Bool.true_and, Bool.and_false, Bool.false_and, Nat.zero_add, Nat.zero_mul, List.drop_zero, reduceIte, setRange, PV.cells, fillB, List.take, List.drop, List.append_eq, List.cons_append, List.nil_append, List.length, List.map, List.zip, List.zipWith, List.replicate, List.flatten, Nat.reduceAdd, Nat.reduceMul, Nat.reduceSub, PV.mapId, mapIds, Option.map, Blk.mapId, sigN, sigS, e1]
          try conv => arg 3; simp only [Nat.reduceLT, List.reduceReplicate, List.flatten_cons, List.flatten_nil, List.append_nil, Nat.reduceMul, Nat.mul_one, Nat.one_mul, Nat.zero_mul, Nat.zero_add, List.drop_zero, List.drop_succ_cons, List.drop_nil, List.take_succ_cons, List.take_zero, List.take_nil, List.drop_drop, setRange, PV.cells, valT, List.getD_cons_zero, List.getD_cons_succ, List.take, List.length, Nat.reduceAdd, List.nil_append, applyU, hset, hdel, Nat.reduceEqDiff, reduceIte, List.append_eq, List.cons_append, List.nil_append, frz, rowsOf, updsNew, updsAt, sigN, sigS, PV.mapId, mapIds, Option.map, Blk.mapId, List.drop, heapOf, e1]
          conv => arg 5; simp only [stride, Nat.reduceAdd]
          refine EVgo9 (And.intro (g1) ( And.intro (g2) (g3))) trivial trivial trivial trivial trivial trivial trivial trivial trivial trivial trivial ?_
          exact EVret trivial
      | cons d u ihu =>
        intro v hv
        have hlen3 : p.length = v.length + (u.length + 1) := by rw [← hv]; simp
        have hltv : (v.length : Int) < (p.length : Int) := by omega
        have hwv : IntKind.i64.wrap ((v.length : Int) + 1) = ((v.length + 1 : Nat) : Int) := by rw [i64_in _ (by omega)]; simp
        have h0v : (0 : Int) ≤ (v.length : Int) := Int.natCast_nonneg _
        have hbv := at_B hv
        obtain ⟨k1, k2⟩ := loopOk d (by rw [← hv]; simp)
        have hihu := ihu (v ++ [d]) (by rw [List.append_assoc]; exact hv)
        rw [snoc_lenB] at hihu
        cases g2 : ((c.toNat : Int) == 32) with
        | false =>
          conv => arg 3; simp only [mkT, putT, List.reduceReplicate, List.set]
          refine EVgo9 (And.intro (szB) (hltv)) trivial trivial trivial trivial trivial trivial trivial trivial trivial trivial trivial ?_
          first | refine WO.step (k_index rfl rfl h0v hbv) ?_ | refine WOc.step (k_index rfl rfl h0v hbv) ?_
          conv => arg 2; simp only [setOpt, List.set, Nat.reduceLT, Int.reduceToNat, List.drop_drop, valT, List.getD_cons_zero, List.getD_cons_succ, Int.reduceLT, Int.reduceLE, Int.reduceAdd, Int.reduceSub, Int.reduceMul, Int.reduceNeg, Int.reduceEq, Int.reduceNe, Int.cast_ofNat_Int, Int.natCast_zero, Int.natCast_one, ge_iff_le, gt_iff_lt, decide_true, decide_false, Bool.not_true, Bool.not_false, Int.toNat_natCast, Nat.sub_zero, Nat.mul_one, Option.isSome_some, Option.isSome_none, Bool.false_eq_true, Bool.and_true, Bool.true_and, Bool.and_false, Bool.false_and, Nat.zero_add, Nat.zero_mul, List.drop_zero, reduceIte, setRange, PV.cells, fillB, List.take, List.drop, List.append_eq, List.cons_append, List.nil_append, List.length, List.map, List.zip, List.zipWith, List.replicate, List.flatten, Nat.reduceAdd, Nat.reduceMul, Nat.reduceSub, PV.mapId, mapIds, Option.map, Blk.mapId, sigN, sigS, hltv]
          try conv => arg 3; simp only [Nat.reduceLT, List.reduceReplicate, List.flatten_cons, List.flatten_nil, List.append_nil, Nat.reduceMul, Nat.mul_one, Nat.one_mul, Nat.zero_mul, Nat.zero_add, List.drop_zero, List.drop_succ_cons, List.drop_nil, List.take_succ_cons, List.take_zero, List.take_nil, List.drop_drop, setRange, PV.cells, valT, List.getD_cons_zero, List.getD_cons_succ, List.take, List.length, Nat.reduceAdd, List.nil_append, applyU, hset, hdel, Nat.reduceEqDiff, reduceIte, List.append_eq, List.cons_append, List.nil_append, frz, rowsOf, updsNew, updsAt, sigN, sigS, PV.mapId, mapIds, Option.map, Blk.mapId, List.drop, heapOf, hltv]
          conv => arg 5; simp only [stride, Nat.reduceAdd]
          refine EVgo9 (And.intro (k1) ( And.intro (g2) (hwv))) trivial trivial trivial trivial trivial trivial trivial trivial trivial trivial trivial ?_
          exact WC.loop rfl hihu
        | true =>
          have k3 := k2 g2
          conv => arg 3; simp only [mkT, putT, List.reduceReplicate, List.set]
          refine EVgo9 (And.intro (szB) (hltv)) trivial trivial trivial trivial trivial trivial trivial trivial trivial trivial trivial ?_
          first | refine WO.step (k_index rfl rfl h0v hbv) ?_ | refine WOc.step (k_index rfl rfl h0v hbv) ?_
          conv => arg 2; simp only [setOpt, List.set, Nat.reduceLT, Int.reduceToNat, List.drop_drop, valT, List.getD_cons_zero, List.getD_cons_succ, Int.reduceLT, Int.reduceLE, Int.reduceAdd, Int.reduceSub, Int.reduceMul, Int.reduceNeg, Int.reduceEq, Int.reduceNe, Int.cast_ofNat_Int, Int.natCast_zero, Int.natCast_one, ge_iff_le, gt_iff_lt, decide_true, decide_false, Bool.not_true, Bool.not_false, Int.toNat_natCast, Nat.sub_zero, Nat.mul_one, Option.isSome_some, Option.isSome_none, Bool.false_eq_true, Bool.and_true, Bool.true_and, Bool.and_false, Bool.false_and, Nat.zero_add, Nat.zero_mul, List.drop_zero, reduceIte, setRange, PV.cells, fillB, List.take, List.drop, List.append_eq, List.cons_append, List.nil_append, List.length, List.map, List.zip, List.zipWith, List.replicate, List.flatten, Nat.reduceAdd, Nat.reduceMul, Nat.reduceSub, PV.mapId, mapIds, Option.map, Blk.mapId, sigN, sigS, hltv]
          try conv => arg 3; simp only [Nat.reduceLT, List.reduceReplicate, List.flatten_cons, List.flatten_nil, List.append_nil, Nat.reduceMul, Nat.mul_one, Nat.one_mul, Nat.zero_mul, Nat.zero_add, List.drop_zero, List.drop_succ_cons, List.drop_nil, List.take_succ_cons, List.take_zero, List.take_nil, List.drop_drop, setRange, PV.cells, valT, List.getD_cons_zero, List.getD_cons_succ, List.take, List.length, Nat.reduceAdd, List.nil_append, applyU, hset, hdel, Nat.reduceEqDiff, reduceIte, List.append_eq, List.cons_append, List.nil_append, frz, rowsOf, updsNew, updsAt, sigN, sigS, PV.mapId, mapIds, Option.map, Blk.mapId, List.drop, heapOf, hltv]
          conv => arg 5; simp only [stride, Nat.reduceAdd]
          refine EVgo9 (And.intro (k1) (g2)) trivial trivial trivial trivial trivial trivial trivial trivial trivial trivial trivial ?_
          first | refine WO.step (k_index rfl rfl h0v hbv) ?_ | refine WOc.step (k_index rfl rfl h0v hbv) ?_
          conv => arg 2; simp only [setOpt, List.set, Nat.reduceLT, Int.reduceToNat, List.drop_drop, valT, List.getD_cons_zero, List.getD_cons_succ, Int.reduceLT, Int.reduceLE, Int.reduceAdd, Int.reduceSub, Int.reduceMul, Int.reduceNeg, Int.reduceEq, Int.reduceNe, Int.cast_ofNat_Int, Int.natCast_zero, Int.natCast_one, ge_iff_le, gt_iff_lt, decide_true, decide_false, Bool.not_true, Bool.not_false, Int.toNat_natCast, Nat.sub_zero, Nat.mul_one, Option.isSome_some, Option.isSome_none, Bool.false_eq_true, Bool.and_true, Bool.true_and, Bool.and_false, Bool.false_and, Nat.zero_add, Nat.zero_mul, List.drop_zero, reduceIte, setRange, PV.cells, fillB, List.take, List.drop, List.append_eq, List.cons_append, List.nil_append, List.length, List.map, List.zip, List.zipWith, List.replicate, List.flatten, Nat.reduceAdd, Nat.reduceMul, Nat.reduceSub, PV.mapId, mapIds, Option.map, Blk.mapId, sigN, sigS, hltv]
          try conv => arg 3; simp only [Nat.reduceLT, List.reduceReplicate, List.flatten_cons, List.flatten_nil, List.append_nil, Nat.reduceMul, Nat.mul_one, Nat.one_mul, Nat.zero_mul, Nat.zero_add, List.drop_zero, List.drop_succ_cons, List.drop_nil, List.take_succ_cons, List.take_zero, List.take_nil, List.drop_drop, setRange, PV.cells, valT, List.getD_cons_zero, List.getD_cons_succ, List.take, List.length, Nat.reduceAdd, List.nil_append, applyU, hset, hdel, Nat.reduceEqDiff, reduceIte, List.append_eq, List.cons_append, List.nil_append, frz, rowsOf, updsNew, updsAt, sigN, sigS, PV.mapId, mapIds, Option.map, Blk.mapId, List.drop, heapOf, hltv]
          conv => arg 5; simp only [stride, Nat.reduceAdd]
          refine EVgo9 (And.intro (k3) (hwv)) trivial trivial trivial trivial trivial trivial trivial trivial trivial trivial trivial ?_
          exact WC.loop rfl hihu
    · -- it is not there
      rw [if_neg hlt] at h16 h13y
      have hpe : p = f := by
        have hd0 : f.drop p.length = [] := List.drop_eq_nil_of_le (by omega)
        rw [hd0, List.append_nil] at sp
        exact sp
      rw [List.drop_length] at h13y
      subst hpe
      have w1 : IntKind.i64.wrap ((p.length : Int) + 0) = (p.length : Int) := by rw [i64_in _ (by omega)]; omega
      have z0 : ((⟨[].toArray⟩ : ByteArray).size : Int) = 0 := rfl
      have q3 : ((⟨[].toArray⟩ : ByteArray).toList == (⟨#[]⟩ : ByteArray).toList) = true := (cmpB [] []).trans (by decide)
      have w1' : IntKind.i64.wrap (p.length : Int) = (p.length : Int) := i64_in _ (by omega)
      simp only [encC, srcE, sB] at h13 h16 h13y ⊢
      conv => arg 2; simp only [ir7]
      conv => arg 3; simp only [ir7, Go.Proofs.YtgiapbmeaobjiaaEv.start, List.length, Nat.reduceAdd, Nat.reduceSub, List.reduceReplicate, List.append_eq, List.cons_append, List.nil_append]
      conv => arg 4; simp only [heapOf]
      try conv => arg 5; simp only [List.length, Nat.reduceAdd]
      try conv => arg 6; simp only [List.length, Nat.reduceAdd]
      refine EVgo9 (And.intro (szB) ( And.intro (hl') (wc))) (h9) (h13) (h16) (h13y) trivial trivial trivial trivial trivial trivial trivial ?_
      refine WC.loop (T' := _) (H' := _) (n' := _) rfl ((?_ : ∀ (u v : Bs), v ++ u = p →
        WC cf _ (mkT 120 [(2, .int .u8 (c.toNat : Nat)), (7, .bool true), (9, .str ⟨p.toArray⟩), (10, .str ⟨p.toArray⟩), (12, .str ⟨[].toArray⟩), (13, .int .i64 (v.length : Nat))]) [] 0 0 _) p [] rfl)
      intro u
      induction u with
      | nil =>
        intro v hv
        rw [List.append_nil] at hv
        subst hv
        conv => arg 3; simp only [mkT, putT, List.reduceReplicate, List.set]
        refine EVgl9 (szB) trivial trivial trivial trivial trivial trivial trivial trivial trivial trivial trivial ?_
        refine EVgo9 (And.intro (szB) ( And.intro (z0) ( And.intro (w1) ( And.intro (w1') ( And.intro (Int.add_zero) ( And.intro (e1) ( And.intro (e2) (q3)))))))) trivial trivial trivial trivial trivial trivial trivial trivial trivial trivial trivial ?_
        exact EVret trivial
      | cons d u ihu =>
        intro v hv
        have hlen3 : p.length = v.length + (u.length + 1) := by rw [← hv]; simp
        have hltv : (v.length : Int) < (p.length : Int) := by omega
        have hwv : IntKind.i64.wrap ((v.length : Int) + 1) = ((v.length + 1 : Nat) : Int) := by rw [i64_in _ (by omega)]; simp
        have h0v : (0 : Int) ≤ (v.length : Int) := Int.natCast_nonneg _
        have hbv := at_B hv
        obtain ⟨k1, k2⟩ := loopOk d (by rw [← hv]; simp)
        have hihu := ihu (v ++ [d]) (by rw [List.append_assoc]; exact hv)
        rw [snoc_lenB] at hihu
        cases g2 : ((c.toNat : Int) == 32) with
        | false =>
          conv => arg 3; simp only [mkT, putT, List.reduceReplicate, List.set]
          refine EVgo9 (And.intro (szB) (hltv)) trivial trivial trivial trivial trivial trivial trivial trivial trivial trivial trivial ?_
          first | refine WO.step (k_index rfl rfl h0v hbv) ?_ | refine WOc.step (k_index rfl rfl h0v hbv) ?_
          conv => arg 2; simp only [setOpt, List.set, Nat.reduceLT, Int.reduceToNat, List.drop_drop, valT, List.getD_cons_zero, List.getD_cons_succ, Int.reduceLT, Int.reduceLE, Int.reduceAdd, Int.reduceSub, Int.reduceMul, Int.reduceNeg, Int.reduceEq, Int.reduceNe, Int.cast_ofNat_Int, Int.natCast_zero, Int.natCast_one, ge_iff_le, gt_iff_lt, decide_true, decide_false, Bool.not_true, Bool.not_false, Int.toNat_natCast, Nat.sub_zero, Nat.mul_one, Option.isSome_some, Option.isSome_none, Bool.false_eq_true, Bool.and_true, Bool.true_and, Bool.and_false, Bool.false_and, Nat.zero_add, Nat.zero_mul, List.drop_zero, reduceIte, setRange, PV.cells, fillB, List.take, List.drop, List.append_eq, List.cons_append, List.nil_append, List.length, List.map, List.zip, List.zipWith, List.replicate, List.flatten, Nat.reduceAdd, Nat.reduceMul, Nat.reduceSub, PV.mapId, mapIds, Option.map, Blk.mapId, sigN, sigS, hltv]
          try conv => arg 3; simp only [Nat.reduceLT, List.reduceReplicate, List.flatten_cons, List.flatten_nil, List.append_nil, Nat.reduceMul, Nat.mul_one, Nat.one_mul, Nat.zero_mul, Nat.zero_add, List.drop_zero, List.drop_succ_cons, List.drop_nil, List.take_succ_cons, List.take_zero, List.take_nil, List.drop_drop, setRange, PV.cells, valT, List.getD_cons_zero, List.getD_cons_succ, List.take, List.length, Nat.reduceAdd, List.nil_append, applyU, hset, hdel, Nat.reduceEqDiff, reduceIte, List.append_eq, List.cons_append, List.nil_append, frz, rowsOf, updsNew, updsAt, sigN, sigS, PV.mapId, mapIds, Option.map, Blk.mapId, List.drop, heapOf, hltv]
          conv => arg 5; simp only [stride, Nat.reduceAdd]
          refine EVgo9 (And.intro (k1) ( And.intro (g2) (hwv))) trivial trivial trivial trivial trivial trivial trivial trivial trivial trivial trivial ?_
          exact WC.loop rfl hihu
        | true =>
          have k3 := k2 g2
          conv => arg 3; simp only [mkT, putT, List.reduceReplicate, List.set]
          refine EVgo9 (And.intro (szB) (hltv)) trivial trivial trivial trivial trivial trivial trivial trivial trivial trivial trivial ?_
          first | refine WO.step (k_index rfl rfl h0v hbv) ?_ | refine WOc.step (k_index rfl rfl h0v hbv) ?_
          conv => arg 2; simp only [setOpt, List.set, Nat.reduceLT, Int.reduceToNat, List.drop_drop, valT, List.getD_cons_zero, List.getD_cons_succ, Int.reduceLT, Int.reduceLE, Int.reduceAdd, Int.reduceSub, Int.reduceMul, Int.reduceNeg, Int.reduceEq, Int.reduceNe, Int.cast_ofNat_Int, Int.natCast_zero, Int.natCast_one, ge_iff_le, gt_iff_lt, decide_true, decide_false, Bool.not_true, Bool.not_false, Int.toNat_natCast, Nat.sub_zero, Nat.mul_one, Option.isSome_some, Option.isSome_none, Bool.false_eq_true, Bool.and_true, Bool.true_and, Bool.and_false, Bool.false_and, Nat.zero_add, Nat.zero_mul, List.drop_zero, reduceIte, setRange, PV.cells, fillB, List.take, List.drop, List.append_eq, List.cons_append, List.nil_append, List.length, List.map, List.zip, List.zipWith, List.replicate, List.flatten, Nat.reduceAdd, Nat.reduceMul, Nat.reduceSub, PV.mapId, mapIds, Option.map, Blk.mapId, sigN, sigS, hltv]
          try conv => arg 3; simp only [Nat.reduceLT, List.reduceReplicate, List.flatten_cons, List.flatten_nil, List.append_nil, Nat.reduceMul, Nat.mul_one, Nat.one_mul, Nat.zero_mul, Nat.zero_add, List.drop_zero, List.drop_succ_cons, List.drop_nil, List.take_succ_cons, List.take_zero, List.take_nil, List.drop_drop, setRange, PV.cells, valT, List.getD_cons_zero, List.getD_cons_succ, List.take, List.length, Nat.reduceAdd, List.nil_append, applyU, hset, hdel, Nat.reduceEqDiff, reduceIte, List.append_eq, List.cons_append, List.nil_append, frz, rowsOf, updsNew, updsAt, sigN, sigS, PV.mapId, mapIds, Option.map, Blk.mapId, List.drop, heapOf, hltv]
          conv => arg 5; simp only [stride, Nat.reduceAdd]
          refine EVgo9 (And.intro (k1) (g2)) trivial trivial trivial trivial trivial trivial trivial trivial trivial trivial trivial ?_
          first | refine WO.step (k_index rfl rfl h0v hbv) ?_ | refine WOc.step (k_index rfl rfl h0v hbv) ?_
          conv => arg 2; simp only [setOpt, List.set, Nat.reduceLT, Int.reduceToNat, List.drop_drop, valT, List.getD_cons_zero, List.getD_cons_succ, Int.reduceLT, Int.reduceLE, Int.reduceAdd, Int.reduceSub, Int.reduceMul, Int.reduceNeg, Int.reduceEq, Int.reduceNe, Int.cast_ofNat_Int, Int.natCast_zero, Int.natCast_one, ge_iff_le, gt_iff_lt, decide_true, decide_false, Bool.not_true, Bool.not_false, Int.toNat_natCast, Nat.sub_zero, Nat.mul_one, Option.isSome_some, Option.isSome_none, Bool.false_eq_true, Bool.and_true, Bool.true_and, Bool.and_false, Bool.false_and, Nat.zero_add, Nat.zero_mul, List.drop_zero, reduceIte, setRange, PV.cells, fillB, List.take, List.drop, List.append_eq, List.cons_append, List.nil_append, List.length, List.map, List.zip, List.zipWith, List.replicate, List.flatten, Nat.reduceAdd, Nat.reduceMul, Nat.reduceSub, PV.mapId, mapIds, Option.map, Blk.mapId, sigN, sigS, hltv]
          try conv => arg 3; simp only [Nat.reduceLT, List.reduceReplicate, List.flatten_cons, List.flatten_nil, List.append_nil, Nat.reduceMul, Nat.mul_one, Nat.one_mul, Nat.zero_mul, Nat.zero_add, List.drop_zero, List.drop_succ_cons, List.drop_nil, List.take_succ_cons, List.take_zero, List.take_nil, List.drop_drop, setRange, PV.cells, valT, List.getD_cons_zero, List.getD_cons_succ, List.take, List.length, Nat.reduceAdd, List.nil_append, applyU, hset, hdel, Nat.reduceEqDiff, reduceIte, List.append_eq, List.cons_append, List.nil_append, frz, rowsOf, updsNew, updsAt, sigN, sigS, PV.mapId, mapIds, Option.map, Blk.mapId, List.drop, heapOf, hltv]
          conv => arg 5; simp only [stride, Nat.reduceAdd]
          refine EVgo9 (And.intro (k3) (hwv)) trivial trivial trivial trivial trivial trivial trivial trivial trivial trivial trivial ?_
          exact WC.loop rfl hihu
  · have hl' : (L.length : Int) > 1000 := by omega
    simp only [sB]
    conv => arg 2; simp only [ir7]
    conv => arg 3; simp only [ir7, Go.Proofs.YtgiapbmeaobjiaaEv.start, List.length, Nat.reduceAdd, Nat.reduceSub, List.reduceReplicate, List.append_eq, List.cons_append, List.nil_append]
    conv => arg 4; simp only [heapOf]
    try conv => arg 5; simp only [List.length, Nat.reduceAdd]
    try conv => arg 6; simp only [List.length, Nat.reduceAdd]
    refine EVgo9 (And.intro (szB) (hl')) (h9) trivial trivial trivial trivial trivial trivial trivial trivial trivial trivial ?_
    exact EVret trivial
end
end Go.Proofs.YtgiapbmeaobjiaaR
