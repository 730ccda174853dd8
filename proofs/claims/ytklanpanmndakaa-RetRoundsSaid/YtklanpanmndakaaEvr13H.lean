/- Evr13H: a part of the proof. -/
import Derived.Test.YtklanpanmndakaaEvr13G
open Go Go.Proofs.YtklanpanmndakaaEv Go.Proofs.YtklanpanmndakaaR Go.IntWalk
set_option maxRecDepth 20000
set_option maxHeartbeats 8000000
set_option linter.unusedVariables false
set_option linter.unusedSimpArgs false
namespace Go.Proofs.YtklanpanmndakaaR
def w64 (n : Int) : Int := IntKind.i64.wrap n
def xr (a b : Int) : Int := IntKind.i64.wrap ((BitVec.ofInt 64 a ^^^ BitVec.ofInt 64 b).toNat : Int)
theorem w64_range (n : Int) : -9223372036854775808 ≤ w64 n ∧ w64 n ≤ 9223372036854775807 := by unfold w64; rw [IntKind.wrap_i64]; omega
theorem xr_neg {a b : Int} (ha : -9223372036854775808 ≤ a ∧ a ≤ 9223372036854775807) (hb : -9223372036854775808 ≤ b ∧ b ≤ 9223372036854775807) : decide (xr a b < 0) = (decide (a < 0) != decide (b < 0)) := by
  have h1 : ∀ v : BitVec 64, (IntKind.i64.wrap (v.toNat : Int) < 0) ↔ v.msb = true := fun v => by
    rw [IntKind.wrap_i64, BitVec.msb_eq_decide, decide_eq_true_eq]
    have := v.isLt
    omega
  have h2 : ∀ c : Int, -9223372036854775808 ≤ c ∧ c ≤ 9223372036854775807 → (BitVec.ofInt 64 c).msb = decide (c < 0) := fun c hc => by
    rw [BitVec.msb_eq_decide, BitVec.toNat_ofInt]
    have : ((2 ^ 64 : Nat) : Int) = 18446744073709551616 := by decide
    rw [this]
    have e : (2 : Nat) ^ (64 - 1) = 9223372036854775808 := by decide
    rw [e]
    exact decide_eq_decide.2 (by omega)
  unfold xr
  rw [← h2 a ha, ← h2 b hb]
  refine Eq.trans ?_ (BitVec.msb_xor (x := BitVec.ofInt 64 a) (y := BitVec.ofInt 64 b))
  cases h : (BitVec.ofInt 64 a ^^^ BitVec.ofInt 64 b).msb with
  | true => exact decide_eq_true ((h1 _).2 h)
  | false => exact decide_eq_false (fun q => by rw [(h1 _).1 q] at h; cases h)
def nxA (t : Tk) : Int := w64 (t.r.getD (t.r.length - 1) 0 - t.r.getD (t.r.length - 2) 0)
def nxE (a n : Int) : Bool := (decide (a < 0) != decide (w64 (a + n) < 0)) && (decide (a < 0) != decide (n < 0))
def next (t : Tk) (n : Int) : Tk × Bool × Int :=
  if 2 ≤ t.r.length then
    (if nxE (nxA t) n = true then ((tak t 2).1, true, 0) else (⟨t.d, t.r.take (t.r.length - 1) ++ [w64 (t.r.getD (t.r.length - 1) 0 + n)], t.th, t.pl, t.h⟩, false, 0))
  else (t, false, -6)
theorem pop2 {l : List Int} (h : 2 ≤ l.length) : flat encI (l.drop (l.length - 2)) = [.int .i64 (l.getD (l.length - 2) 0), .int .i64 (l.getD (l.length - 1) 0)] := by
  rw [← dropI, at_getD (by omega), ← dropI, at_getD (by omega), show l.length - 2 + 1 + 1 = l.length by omega, List.drop_length, show l.length - 2 + 1 = l.length - 1 by omega]
  rfl
section
variable {cf : CF} (hcf : cf = ev env)
include hcf
theorem s28 (m : Tk) (n : Int) (hn : -9223372036854775808 ≤ n ∧ n ≤ 9223372036854775807) : Sp cf 28 [tkE m, .int .i64 n] (.tup [tkE (next (saneT m) n).1, .bool (next (saneT m) n).2.1, .int .i64 (next (saneT m) n).2.2]) := by
  have h38 := s38 hcf m
  have hs := sn_sane m
  generalize saneT m = t at *
  have hr := hs.r
  have h40 := s40 hcf t 2 (by omega) (by omega)
  by_cases hl : 2 ≤ t.r.length
  · have e7 : (t.r.drop (t.r.length - 2)).length = 2 := by rw [List.length_drop]; omega
    have e8 := pop2 hl
    have h46 := s46 hcf t.r false (by omega)
    have w1 : IntKind.i64.wrap ((t.r.length : Int) - 1) = ((t.r.length - 1 : Nat) : Int) := by rw [i64_in _ (by omega)]; omega
    have e9 := at_getD (l := t.r) (i := t.r.length - 1) (by omega)
    have hlt : t.r.length - 1 < t.r.length := by omega
    have x1 := xr_neg (w64_range (t.r.getD (t.r.length - 1) 0 - t.r.getD (t.r.length - 2) 0)) (w64_range (w64 (t.r.getD (t.r.length - 1) 0 - t.r.getD (t.r.length - 2) 0) + n))
    have x2 := xr_neg (w64_range (t.r.getD (t.r.length - 1) 0 - t.r.getD (t.r.length - 2) 0)) hn
    simp only [tak, if_pos hl] at h40
    have hE : nxE (nxA t) n = nxE (w64 (t.r.getD (t.r.length - 1) 0 - t.r.getD (t.r.length - 2) 0)) n := rfl
    simp only [next, if_pos hl, hE]
    generalize t.r.getD (t.r.length - 1) 0 = y1 at *
    generalize t.r.getD (t.r.length - 2) 0 = y0 at *
    generalize hA : w64 (y1 - y0) = A at *
    have hA' : IntKind.i64.wrap (y1 - y0) = A := hA
    generalize hB : w64 (A + n) = B at *
    have hB' : IntKind.i64.wrap (A + n) = B := hB
    have f1 : ∀ a b : Int, IntKind.i64.wrap ((BitVec.ofInt IntKind.i64.bits a ^^^ BitVec.ofInt IntKind.i64.bits b).toNat : Int) = xr a b := fun _ _ => rfl
    have hnx : nxE A n = ((decide (A < 0) != decide (B < 0)) && (decide (A < 0) != decide (n < 0))) := by unfold nxE; rw [hB]
    rw [hnx]
    have hlast : ∀ cs : List PV, cs.length = t.r.length → True := fun _ _ => trivial
    have e10 : List.drop (t.r.length - 1 + 1) t.r = [] := by rw [show t.r.length - 1 + 1 = t.r.length by omega, List.drop_length]
    have e11 : (t.r.take (t.r.length - 1)).length = t.r.length - 1 := by rw [List.length_take]; omega
    have e12 : (flat encI t.r).length = t.r.length := lenI _
    have e13 : t.r.length - 1 + 1 = t.r.length := by omega
    have e14 : (t.r.take (t.r.length - 1) ++ [w64 (y1 + n)]).length = t.r.length := by rw [List.length_append, e11]; simp; omega
    have e15 : flat encI (List.take (t.r.length - 1) t.r) ++ [PV.int .i64 (w64 (y1 + n))] ++ flat encI (List.drop t.r.length t.r) = flat encI (List.take (t.r.length - 1) t.r ++ [w64 (y1 + n)]) := by
      rw [snocI, List.drop_length]
      exact List.append_nil _
    have f2 : ∀ a : Int, IntKind.i64.wrap a = w64 a := fun _ => rfl
    cases p1 : (decide (A < 0) != decide (B < 0)) with
    | true =>
      rw [p1] at x1
      cases p2 : (decide (A < 0) != decide (n < 0)) with
      | true =>
        rw [p2] at x2
        refine sp_of hcf env28 ?_
        simp only [tak, if_pos hl, if_true, Bool.and_true]
        conv => arg 2; simp only [ir28]
        conv => arg 3; simp only [ir28, Go.Proofs.YtklanpanmndakaaEv.start, List.length, Nat.reduceAdd, Nat.reduceSub, List.reduceReplicate, List.append_eq, List.cons_append, List.nil_append]
        conv => arg 4; simp only [heapOf]
        try conv => arg 5; simp only [List.length, Nat.reduceAdd]
        try conv => arg 6; simp only [List.length, Nat.reduceAdd]
        refine EVgo2 (And.intro (@tkE.eq_1) ( And.intro (@slI.eq_1) ( And.intro (e7) ( And.intro (e8) ( And.intro (hA') ( And.intro (hB') ( And.intro (f1) ( And.intro (x1) (x2))))))))) (h38) (h40) trivial trivial ?_
        exact EVret trivial
      | false =>
        rw [p2] at x2
        refine sp_of hcf env28 ?_
        simp only [Bool.and_false, Bool.false_eq_true, if_false]
        conv => arg 2; simp only [ir28]
        conv => arg 3; simp only [ir28, Go.Proofs.YtklanpanmndakaaEv.start, List.length, Nat.reduceAdd, Nat.reduceSub, List.reduceReplicate, List.append_eq, List.cons_append, List.nil_append]
        conv => arg 4; simp only [heapOf]
        try conv => arg 5; simp only [List.length, Nat.reduceAdd]
        try conv => arg 6; simp only [List.length, Nat.reduceAdd]
        refine EVgo9 (And.intro (@tkE.eq_1) ( And.intro (@slI.eq_1) ( And.intro (e7) ( And.intro (e8) ( And.intro (hA') ( And.intro (hB') ( And.intro (f1) ( And.intro (x1) ( And.intro (x2) (w1)))))))))) (h38) (h40) (h46) trivial trivial trivial trivial trivial trivial trivial trivial ?_
        first | refine WO.step (k_load1 rfl rfl (by rw [e9]; rfl)) ?_ | refine WOc.step (k_load1 rfl rfl (by rw [e9]; rfl)) ?_
        conv => arg 2; simp only [setOpt, List.set, Nat.reduceLT, Int.reduceToNat, List.drop_drop, valT, List.getD_cons_zero, List.getD_cons_succ, Int.reduceLT, Int.reduceLE, Int.reduceAdd, Int.reduceSub, Int.reduceMul, Int.reduceNeg, Int.reduceEq, Int.reduceNe, Int.cast_ofNat_Int, Int.natCast_zero, Int.natCast_one, ge_iff_le, gt_iff_lt, decide_true, decide_false, Bool.not_true, Bool.not_false, Int.toNat_natCast, Nat.sub_zero, Nat.mul_one, Option.isSome_some, Option.isSome_none, Bool.false_eq_true, Bool.and_true, Bool.true_and, Bool.and_false, Bool.false_and, Nat.zero_add, Nat.zero_mul, List.drop_zero, reduceIte, setRange, PV.cells, fillB, List.take, List.drop, List.append_eq, List.cons_append, List.nil_append, List.length, List.map, List.zip, List.zipWith, List.replicate, List.flatten, Nat.reduceAdd, Nat.reduceMul, Nat.reduceSub, PV.mapId, mapIds, Option.map, Blk.mapId, sigN, sigS, hlt]
        try conv => arg 3; simp only [Nat.reduceLT, List.reduceReplicate, List.flatten_cons, List.flatten_nil, List.append_nil, Nat.reduceMul, Nat.mul_one, Nat.one_mul, Nat.zero_mul, Nat.zero_add, List.drop_zero, List.drop_succ_cons, List.drop_nil, List.take_succ_cons, List.take_zero, List.take_nil, List.drop_drop, setRange, PV.cells, valT, List.getD_cons_zero, List.getD_cons_succ, List.take, List.length, Nat.reduceAdd, List.nil_append, applyU, hset, hdel, Nat.reduceEqDiff, reduceIte, List.append_eq, List.cons_append, List.nil_append, frz, rowsOf, updsNew, updsAt, sigN, sigS, PV.mapId, mapIds, Option.map, Blk.mapId, List.drop, heapOf, hlt]
        conv => arg 5; simp only [stride, Nat.reduceAdd]
        refine EVgo2 (w1) trivial trivial trivial trivial ?_
        first | refine WO.step (k_store_row rfl rfl rfl rfl (by rw [lenI]; omega) rfl) ?_ | refine WOc.step (k_store_row rfl rfl rfl rfl (by rw [lenI]; omega) rfl) ?_
        conv => arg 2; simp only [setOpt, List.set, Nat.reduceLT, Int.reduceToNat, List.drop_drop, valT, List.getD_cons_zero, List.getD_cons_succ, Int.reduceLT, Int.reduceLE, Int.reduceAdd, Int.reduceSub, Int.reduceMul, Int.reduceNeg, Int.reduceEq, Int.reduceNe, Int.cast_ofNat_Int, Int.natCast_zero, Int.natCast_one, ge_iff_le, gt_iff_lt, decide_true, decide_false, Bool.not_true, Bool.not_false, Int.toNat_natCast, Nat.sub_zero, Nat.mul_one, Option.isSome_some, Option.isSome_none, Bool.false_eq_true, Bool.and_true, Bool.true_and, Bool.and_false, Bool.false_and, Nat.zero_add, Nat.zero_mul, List.drop_zero, reduceIte, setRange, PV.cells, fillB, List.take, List.drop, List.append_eq, List.cons_append, List.nil_append, List.length, List.map, List.zip, List.zipWith, List.replicate, List.flatten, Nat.reduceAdd, Nat.reduceMul, Nat.reduceSub, PV.mapId, mapIds, Option.map, Blk.mapId, sigN, sigS, takeI, dropI, e13, f2, e15]
        try conv => arg 3; simp only [Nat.reduceLT, List.reduceReplicate, List.flatten_cons, List.flatten_nil, List.append_nil, Nat.reduceMul, Nat.mul_one, Nat.one_mul, Nat.zero_mul, Nat.zero_add, List.drop_zero, List.drop_succ_cons, List.drop_nil, List.take_succ_cons, List.take_zero, List.take_nil, List.drop_drop, setRange, PV.cells, valT, List.getD_cons_zero, List.getD_cons_succ, List.take, List.length, Nat.reduceAdd, List.nil_append, applyU, hset, hdel, Nat.reduceEqDiff, reduceIte, List.append_eq, List.cons_append, List.nil_append, frz, rowsOf, updsNew, updsAt, sigN, sigS, PV.mapId, mapIds, Option.map, Blk.mapId, List.drop, heapOf, takeI, dropI, e13, f2, e15]
        conv => arg 5; simp only [stride, Nat.reduceAdd]
        refine EVgo2 trivial trivial trivial trivial trivial ?_
        exact EVret (e14)
    | false =>
      rw [p1] at x1
      refine sp_of hcf env28 ?_
      simp only [Bool.false_and, Bool.false_eq_true, if_false]
      conv => arg 2; simp only [ir28]
      conv => arg 3; simp only [ir28, Go.Proofs.YtklanpanmndakaaEv.start, List.length, Nat.reduceAdd, Nat.reduceSub, List.reduceReplicate, List.append_eq, List.cons_append, List.nil_append]
      conv => arg 4; simp only [heapOf]
      try conv => arg 5; simp only [List.length, Nat.reduceAdd]
      try conv => arg 6; simp only [List.length, Nat.reduceAdd]
      refine EVgo9 (And.intro (@tkE.eq_1) ( And.intro (@slI.eq_1) ( And.intro (e7) ( And.intro (e8) ( And.intro (hA') ( And.intro (hB') ( And.intro (f1) ( And.intro (x1) (w1))))))))) (h38) (h40) (h46) trivial trivial trivial trivial trivial trivial trivial trivial ?_
      first | refine WO.step (k_load1 rfl rfl (by rw [e9]; rfl)) ?_ | refine WOc.step (k_load1 rfl rfl (by rw [e9]; rfl)) ?_
      conv => arg 2; simp only [setOpt, List.set, Nat.reduceLT, Int.reduceToNat, List.drop_drop, valT, List.getD_cons_zero, List.getD_cons_succ, Int.reduceLT, Int.reduceLE, Int.reduceAdd, Int.reduceSub, Int.reduceMul, Int.reduceNeg, Int.reduceEq, Int.reduceNe, Int.cast_ofNat_Int, Int.natCast_zero, Int.natCast_one, ge_iff_le, gt_iff_lt, decide_true, decide_false, Bool.not_true, Bool.not_false, Int.toNat_natCast, Nat.sub_zero, Nat.mul_one, Option.isSome_some, Option.isSome_none, Bool.false_eq_true, Bool.and_true, Bool.true_and, Bool.and_false, Bool.false_and, Nat.zero_add, Nat.zero_mul, List.drop_zero, reduceIte, setRange, PV.cells, fillB, List.take, List.drop, List.append_eq, List.cons_append, List.nil_append, List.length, List.map, List.zip, List.zipWith, List.replicate, List.flatten, Nat.reduceAdd, Nat.reduceMul, Nat.reduceSub, PV.mapId, mapIds, Option.map, Blk.mapId, sigN, sigS, hlt]
      try conv => arg 3; simp only [Nat.reduceLT, List.reduceReplicate, List.flatten_cons, List.flatten_nil, List.append_nil, Nat.reduceMul, Nat.mul_one, Nat.one_mul, Nat.zero_mul, Nat.zero_add, List.drop_zero, List.drop_succ_cons, List.drop_nil, List.take_succ_cons, List.take_zero, List.take_nil, List.drop_drop, setRange, PV.cells, valT, List.getD_cons_zero, List.getD_cons_succ, List.take, List.length, Nat.reduceAdd, List.nil_append, applyU, hset, hdel, Nat.reduceEqDiff, reduceIte, List.append_eq, List.cons_append, List.nil_append, frz, rowsOf, updsNew, updsAt, sigN, sigS, PV.mapId, mapIds, Option.map, Blk.mapId, List.drop, heapOf, hlt]
      conv => arg 5; simp only [stride, Nat.reduceAdd]
      refine EVgo2 (w1) trivial trivial trivial trivial ?_
      first | refine WO.step (k_store_row rfl rfl rfl rfl (by rw [lenI]; omega) rfl) ?_ | refine WOc.step (k_store_row rfl rfl rfl rfl (by rw [lenI]; omega) rfl) ?_
      conv => arg 2; simp only [setOpt, List.set, Nat.reduceLT, Int.reduceToNat, List.drop_drop, valT, List.getD_cons_zero, List.getD_cons_succ, Int.reduceLT, Int.reduceLE, Int.reduceAdd, Int.reduceSub, Int.reduceMul, Int.reduceNeg, Int.reduceEq, Int.reduceNe, Int.cast_ofNat_Int, Int.natCast_zero, Int.natCast_one, ge_iff_le, gt_iff_lt, decide_true, decide_false, Bool.not_true, Bool.not_false, Int.toNat_natCast, Nat.sub_zero, Nat.mul_one, Option.isSome_some, Option.isSome_none, Bool.false_eq_true, Bool.and_true, Bool.true_and, Bool.and_false, Bool.false_and, Nat.zero_add, Nat.zero_mul, List.drop_zero, reduceIte, setRange, PV.cells, fillB, List.take, List.drop, List.append_eq, List.cons_append, List.nil_append, List.length, List.map, List.zip, List.zipWith, List.replicate, List.flatten, Nat.reduceAdd, Nat.reduceMul, Nat.reduceSub, PV.mapId, mapIds, Option.map, Blk.mapId, sigN, sigS, takeI, dropI, e13, f2, e15]
      try conv => arg 3; simp only [Nat.reduceLT, List.reduceReplicate, List.flatten_cons, List.flatten_nil, List.append_nil, Nat.reduceMul, Nat.mul_one, Nat.one_mul, Nat.zero_mul, Nat.zero_add, List.drop_zero, List.drop_succ_cons, List.drop_nil, List.take_succ_cons, List.take_zero, List.take_nil, List.drop_drop, setRange, PV.cells, valT, List.getD_cons_zero, List.getD_cons_succ, List.take, List.length, Nat.reduceAdd, List.nil_append, applyU, hset, hdel, Nat.reduceEqDiff, reduceIte, List.append_eq, List.cons_append, List.nil_append, frz, rowsOf, updsNew, updsAt, sigN, sigS, PV.mapId, mapIds, Option.map, Blk.mapId, List.drop, heapOf, takeI, dropI, e13, f2, e15]
      conv => arg 5; simp only [stride, Nat.reduceAdd]
      refine EVgo2 trivial trivial trivial trivial trivial ?_
      exact EVret (e14)
  · simp only [tak, if_neg hl] at h40
    refine sp_of hcf env28 ?_
    simp only [next, if_neg hl]
    conv => arg 2; simp only [ir28]
    conv => arg 3; simp only [ir28, Go.Proofs.YtklanpanmndakaaEv.start, List.length, Nat.reduceAdd, Nat.reduceSub, List.reduceReplicate, List.append_eq, List.cons_append, List.nil_append]
    conv => arg 4; simp only [heapOf]
    try conv => arg 5; simp only [List.length, Nat.reduceAdd]
    try conv => arg 6; simp only [List.length, Nat.reduceAdd]
    refine EVgo2 (@tkE.eq_1) (h38) (h40) trivial trivial ?_
    exact EVret trivial
theorem s34 (m : Tk) (n : Int) (hn : -9223372036854775808 ≤ n ∧ n ≤ 9223372036854775807) : Sp cf 34 [tkE m, .int .i64 n] (.tup [tkE (next (saneT m) n).1, .bool (next (saneT m) n).2.1, .int .i64 (next (saneT m) n).2.2]) := by
  have h56 := s56 hcf m 2 (by omega)
  have h47 := s47 hcf m
  have hs := sn_sane m
  generalize saneT m = t at *
  have hr := hs.r
  by_cases hl : 2 ≤ t.r.length
  · have e7 : (t.r.drop (t.r.length - 2)).length = 2 := by rw [List.length_drop]; omega
    have e8 := pop2 hl
    have w1 : IntKind.i64.wrap ((t.r.length : Int) - 1) = ((t.r.length - 1 : Nat) : Int) := by rw [i64_in _ (by omega)]; omega
    simp only [tak, if_pos hl] at h56
    have hE : nxE (nxA t) n = nxE (w64 (t.r.getD (t.r.length - 1) 0 - t.r.getD (t.r.length - 2) 0)) n := rfl
    simp only [next, if_pos hl, hE]
    generalize t.r.getD (t.r.length - 1) 0 = y1 at *
    generalize t.r.getD (t.r.length - 2) 0 = y0 at *
    generalize hA : w64 (y1 - y0) = A at *
    have hA' : IntKind.i64.wrap (y1 - y0) = A := hA
    generalize hB : w64 (A + n) = B at *
    have hB' : IntKind.i64.wrap (A + n) = B := hB
    have hnx : nxE A n = ((decide (A < 0) != decide (B < 0)) && (decide (A < 0) != decide (n < 0))) := by unfold nxE; rw [hB]
    rw [hnx]
    have e11 : (t.r.take (t.r.length - 1)).length = t.r.length - 1 := by rw [List.length_take]; omega
    have e13 : t.r.length - 1 + 1 = t.r.length := by omega
    have e14 : (t.r.take (t.r.length - 1) ++ [w64 (y1 + n)]).length = t.r.length := by rw [List.length_append, e11]; simp; omega
    have e15 : flat encI (List.take (t.r.length - 1) t.r) ++ [PV.int .i64 (w64 (y1 + n))] ++ flat encI (List.drop t.r.length t.r) = flat encI (List.take (t.r.length - 1) t.r ++ [w64 (y1 + n)]) := by
      rw [snocI, List.drop_length]
      exact List.append_nil _
    have f2 : ∀ a : Int, IntKind.i64.wrap a = w64 a := fun _ => rfl
    cases p1 : (decide (A < 0) != decide (B < 0)) with
    | true =>
      have p1' : (!(decide (A < 0) == decide (B < 0))) = true := p1
      cases p2 : (decide (A < 0) != decide (n < 0)) with
      | true =>
        have p2' : (!(decide (A < 0) == decide (n < 0))) = true := p2
        refine sp_of hcf env34 ?_
        simp only [tak, if_pos hl, if_true, Bool.and_true]
        conv => arg 2; simp only [ir34]
        conv => arg 3; simp only [ir34, Go.Proofs.YtklanpanmndakaaEv.start, List.length, Nat.reduceAdd, Nat.reduceSub, List.reduceReplicate, List.append_eq, List.cons_append, List.nil_append]
        conv => arg 4; simp only [heapOf]
        try conv => arg 5; simp only [List.length, Nat.reduceAdd]
        try conv => arg 6; simp only [List.length, Nat.reduceAdd]
        refine EVgo2 (And.intro (@tkE.eq_1) ( And.intro (@slI.eq_1) ( And.intro (e7) ( And.intro (e8) ( And.intro (hA') ( And.intro (hB') ( And.intro (p1') ( And.intro (p2') ( And.intro (p1) (p2)))))))))) (h56) trivial trivial trivial ?_
        exact EVret trivial
      | false =>
        have p2' : (!(decide (A < 0) == decide (n < 0))) = false := p2
        refine sp_of hcf env34 ?_
        simp only [Bool.and_false, Bool.false_eq_true, if_false]
        conv => arg 2; simp only [ir34]
        conv => arg 3; simp only [ir34, Go.Proofs.YtklanpanmndakaaEv.start, List.length, Nat.reduceAdd, Nat.reduceSub, List.reduceReplicate, List.append_eq, List.cons_append, List.nil_append]
        conv => arg 4; simp only [heapOf]
        try conv => arg 5; simp only [List.length, Nat.reduceAdd]
        try conv => arg 6; simp only [List.length, Nat.reduceAdd]
        refine EVgo2 (And.intro (@tkE.eq_1) ( And.intro (@slI.eq_1) ( And.intro (e7) ( And.intro (e8) ( And.intro (hA') ( And.intro (hB') ( And.intro (p1') ( And.intro (p2') ( And.intro (p1) ( And.intro (p2) ( And.intro (w1) ( And.intro (allI) (lenI))))))))))))) (h56) (h47) trivial trivial ?_
        trace_state
        first | refine WO.step (k_store_row rfl rfl rfl rfl (by rw [lenI]; omega) rfl) ?_ | refine WOc.step (k_store_row rfl rfl rfl rfl (by rw [lenI]; omega) rfl) ?_
        conv => arg 2; simp only [setOpt, List.set, Nat.reduceLT, Int.reduceToNat, List.drop_drop, valT, List.getD_cons_zero, List.getD_cons_succ, Int.reduceLT, Int.reduceLE, Int.reduceAdd, Int.reduceSub, Int.reduceMul, Int.reduceNeg, Int.reduceEq, Int.reduceNe, Int.cast_ofNat_Int, Int.natCast_zero, Int.natCast_one, ge_iff_le, gt_iff_lt, decide_true, decide_false, Bool.not_true, Bool.not_false, Int.toNat_natCast, Nat.sub_zero, Nat.mul_one, Option.isSome_some, Option.isSome_none, Bool.false_eq_true, Bool.and_true, Bool.true_and, Bool.and_false, Bool.false_and, Nat.zero_add, Nat.zero_mul, List.drop_zero, reduceIte, setRange, PV.cells, fillB, List.take, List.drop, List.append_eq, List.cons_append, List.nil_append, List.length, List.map, List.zip, List.zipWith, List.replicate, List.flatten, Nat.reduceAdd, Nat.reduceMul, Nat.reduceSub, PV.mapId, mapIds, Option.map, Blk.mapId, sigN, sigS, takeI, dropI, e13, f2, e15]
        try conv => arg 3; simp only [Nat.reduceLT, List.reduceReplicate, List.flatten_cons, List.flatten_nil, List.append_nil, Nat.reduceMul, Nat.mul_one, Nat.one_mul, Nat.zero_mul, Nat.zero_add, List.drop_zero, List.drop_succ_cons, List.drop_nil, List.take_succ_cons, List.take_zero, List.take_nil, List.drop_drop, setRange, PV.cells, valT, List.getD_cons_zero, List.getD_cons_succ, List.take, List.length, Nat.reduceAdd, List.nil_append, applyU, hset, hdel, Nat.reduceEqDiff, reduceIte, List.append_eq, List.cons_append, List.nil_append, frz, rowsOf, updsNew, updsAt, sigN, sigS, PV.mapId, mapIds, Option.map, Blk.mapId, List.drop, heapOf, takeI, dropI, e13, f2, e15]
        conv => arg 5; simp only [stride, Nat.reduceAdd]
        refine EVgo2 trivial trivial trivial trivial trivial ?_
        exact EVret (e14)
    | false =>
      have p1' : (!(decide (A < 0) == decide (B < 0))) = false := p1
      refine sp_of hcf env34 ?_
      simp only [Bool.false_and, Bool.false_eq_true, if_false]
      conv => arg 2; simp only [ir34]
      conv => arg 3; simp only [ir34, Go.Proofs.YtklanpanmndakaaEv.start, List.length, Nat.reduceAdd, Nat.reduceSub, List.reduceReplicate, List.append_eq, List.cons_append, List.nil_append]
      conv => arg 4; simp only [heapOf]
      try conv => arg 5; simp only [List.length, Nat.reduceAdd]
      try conv => arg 6; simp only [List.length, Nat.reduceAdd]
      refine EVgo2 (And.intro (@tkE.eq_1) ( And.intro (@slI.eq_1) ( And.intro (e7) ( And.intro (e8) ( And.intro (hA') ( And.intro (hB') ( And.intro (p1') ( And.intro (p1) ( And.intro (w1) ( And.intro (allI) (lenI))))))))))) (h56) (h47) trivial trivial ?_
      first | refine WO.step (k_store_row rfl rfl rfl rfl (by rw [lenI]; omega) rfl) ?_ | refine WOc.step (k_store_row rfl rfl rfl rfl (by rw [lenI]; omega) rfl) ?_
      conv => arg 2; simp only [setOpt, List.set, Nat.reduceLT, Int.reduceToNat, List.drop_drop, valT, List.getD_cons_zero, List.getD_cons_succ, Int.reduceLT, Int.reduceLE, Int.reduceAdd, Int.reduceSub, Int.reduceMul, Int.reduceNeg, Int.reduceEq, Int.reduceNe, Int.cast_ofNat_Int, Int.natCast_zero, Int.natCast_one, ge_iff_le, gt_iff_lt, decide_true, decide_false, Bool.not_true, Bool.not_false, Int.toNat_natCast, Nat.sub_zero, Nat.mul_one, Option.isSome_some, Option.isSome_none, Bool.false_eq_true, Bool.and_true, Bool.true_and, Bool.and_false, Bool.false_and, Nat.zero_add, Nat.zero_mul, List.drop_zero, reduceIte, setRange, PV.cells, fillB, List.take, List.drop, List.append_eq, List.cons_append, List.nil_append, List.length, List.map, List.zip, List.zipWith, List.replicate, List.flatten, Nat.reduceAdd, Nat.reduceMul, Nat.reduceSub, PV.mapId, mapIds, Option.map, Blk.mapId, sigN, sigS, takeI, dropI, e13, f2, e15]
      try conv => arg 3; simp only [Nat.reduceLT, List.reduceReplicate, List.flatten_cons, List.flatten_nil, List.append_nil, Nat.reduceMul, Nat.mul_one, Nat.one_mul, Nat.zero_mul, Nat.zero_add, List.drop_zero, List.drop_succ_cons, List.drop_nil, List.take_succ_cons, List.take_zero, List.take_nil, List.drop_drop, setRange, PV.cells, valT, List.getD_cons_zero, List.getD_cons_succ, List.take, List.length, Nat.reduceAdd, List.nil_append, applyU, hset, hdel, Nat.reduceEqDiff, reduceIte, List.append_eq, List.cons_append, List.nil_append, frz, rowsOf, updsNew, updsAt, sigN, sigS, PV.mapId, mapIds, Option.map, Blk.mapId, List.drop, heapOf, takeI, dropI, e13, f2, e15]
      conv => arg 5; simp only [stride, Nat.reduceAdd]
      refine EVgo2 trivial trivial trivial trivial trivial ?_
      exact EVret (e14)
  · simp only [tak, if_neg hl] at h56
    refine sp_of hcf env34 ?_
    simp only [next, if_neg hl]
    conv => arg 2; simp only [ir34]
    conv => arg 3; simp only [ir34, Go.Proofs.YtklanpanmndakaaEv.start, List.length, Nat.reduceAdd, Nat.reduceSub, List.reduceReplicate, List.append_eq, List.cons_append, List.nil_append]
    conv => arg 4; simp only [heapOf]
    try conv => arg 5; simp only [List.length, Nat.reduceAdd]
    try conv => arg 6; simp only [List.length, Nat.reduceAdd]
    refine EVgo2 (@tkE.eq_1) (h56) trivial trivial trivial ?_
    exact EVret trivial
end
end Go.Proofs.YtklanpanmndakaaR
