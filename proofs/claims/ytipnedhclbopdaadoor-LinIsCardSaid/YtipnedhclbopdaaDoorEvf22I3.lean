/- LinIs, walked. -/
import Derived.Test.YtipnedhclbopdaaDoorEvf22I2
import Derived.Test.YtipnedhclbopdaaDoorEvf22G2
open Go Go.Proofs.YtipnedhclbopdaaDoorEv Go.Proofs.YtipnedhclbopdaaDoorR Go.IntWalk Go.Proofs
set_option maxRecDepth 20000
set_option maxHeartbeats 8000000
set_option linter.unusedVariables false
set_option linter.unusedSimpArgs false
namespace Go.Proofs.YtipnedhclbopdaaDoorR
theorem mid_I {m p r : List Int} {x : Int} (h : p ++ x :: r = m) : (flat encI m).drop p.length = PV.int .i64 x :: flat encI r := by
  have := at_I (l := m) (i := p.length) (by rw [← h]; simp)
  rw [this]
  subst h
  simp
section
variable {cf : CF} (hcf : cf = ev env)
include hcf
theorem s15 (l : List Ot) (n : Int) (hl : ∀ x ∈ l, inI (argT x) = true) : Sp cf 15 [slT l, .int .i64 n] (.int .i64 (linT l n)) := by
  refine sp_of hcf env15 ?_
  unfold linT
  by_cases h8 : l.length > 8
  · rw [if_pos h8]
    have h8' : (8 : Int) < (l.length : Int) := by omega
    simp only [slT]
    conv => arg 2; simp only [ir15]
    conv => arg 3; simp only [ir15, Go.Proofs.YtipnedhclbopdaaDoorEv.start, List.length, Nat.reduceAdd, Nat.reduceSub, List.reduceReplicate, List.append_eq, List.cons_append, List.nil_append]
    conv => arg 4; simp only [heapOf]
    try conv => arg 5; simp only [List.length, Nat.reduceAdd]
    try conv => arg 6; simp only [List.length, Nat.reduceAdd]
    refine EVgo9 (h8') trivial trivial trivial trivial trivial trivial trivial trivial trivial trivial trivial ?_
    exact EVret trivial
  · rw [if_neg h8]
    have h8' : ¬ (8 : Int) < (l.length : Int) := by omega
    have h22 := s22 hcf l n (by omega) hl (l.length + 1) (fresh l) [] (fresh_in l (by omega)) (by rw [fresh_cnt]; omega)
    rw [ex_search] at h22
    have e0 : (((List.replicate l.length [PV.bool false]).flatten).drop 0).take (l.length * 1) = flat encB (fresh l) := by
      have e1 : flat encB (fresh l) = (List.replicate l.length [PV.bool false]).flatten := by simp [flat, fresh, encB]
      have e2 := allB (fresh l)
      rw [← e1, List.drop_zero, Nat.mul_one]
      rwa [show (fresh l).length = l.length by simp [fresh]] at e2
    have e3 : (fresh l).length = l.length := by simp [fresh]
    have g1 : l.length ≤ 16777216 := by omega
    have g2 : l.length * 1 ≤ 16777216 := by omega
    simp only [slT, slB, slI] at h22 ⊢
    rw [e3, ← e0] at h22
    cases hs : searchT l n with
    | true =>
      rw [hs] at h22
      rw [if_pos rfl]
      conv => arg 2; simp only [ir15]
      conv => arg 3; simp only [ir15, Go.Proofs.YtipnedhclbopdaaDoorEv.start, List.length, Nat.reduceAdd, Nat.reduceSub, List.reduceReplicate, List.append_eq, List.cons_append, List.nil_append]
      conv => arg 4; simp only [heapOf]
      try conv => arg 5; simp only [List.length, Nat.reduceAdd]
      try conv => arg 6; simp only [List.length, Nat.reduceAdd]
      refine EVgo9 (h8') (h22) trivial trivial trivial trivial trivial trivial trivial trivial (k_mkslice rfl rfl g1 g2) trivial ?_
      exact EVret trivial
    | false =>
      rw [hs] at h22
      rw [if_neg (by simp)]
      conv => arg 2; simp only [ir15]
      conv => arg 3; simp only [ir15, Go.Proofs.YtipnedhclbopdaaDoorEv.start, List.length, Nat.reduceAdd, Nat.reduceSub, List.reduceReplicate, List.append_eq, List.cons_append, List.nil_append]
      conv => arg 4; simp only [heapOf]
      try conv => arg 5; simp only [List.length, Nat.reduceAdd]
      try conv => arg 6; simp only [List.length, Nat.reduceAdd]
      refine EVgo9 (h8') (h22) trivial trivial trivial trivial trivial trivial trivial trivial (k_mkslice rfl rfl g1 g2) trivial ?_
      exact EVret trivial
theorem s16 (l : List Int) (hl : l.length ≤ 1000000) : Sp cf 16 [slI l, slI l] (.bool true) := by
  refine sp_of hcf env16 ?_
  have hne : ((l.length : Int) != (l.length : Int)) = false := bne_self_eq_false _
  simp only [slI]
  conv => arg 2; simp only [ir16]
  conv => arg 3; simp only [ir16, Go.Proofs.YtipnedhclbopdaaDoorEv.start, List.length, Nat.reduceAdd, Nat.reduceSub, List.reduceReplicate, List.append_eq, List.cons_append, List.nil_append]
  conv => arg 4; simp only [heapOf]
  try conv => arg 5; simp only [List.length, Nat.reduceAdd]
  try conv => arg 6; simp only [List.length, Nat.reduceAdd]
  refine EVgo9 (hne) trivial trivial trivial trivial trivial trivial trivial trivial trivial trivial trivial ?_
  refine WC.loop (T' := _) (H' := _) (n' := _) rfl ((?_ : ∀ (r p : List Int), p ++ r = l →
    WC cf _ (mkT 26 [(0, .sl l.length false (flat encI l)), (1, .sl l.length false (flat encI l)), (5, .int .i64 (p.length : Nat))]) [] 0 0 _) l [] rfl)
  intro r
  induction r with
  | nil =>
    intro p hp
    rw [List.append_nil] at hp
    subst hp
    conv => arg 3; simp only [mkT, putT, List.reduceReplicate, List.set]
    refine EVgl9 trivial trivial trivial trivial trivial trivial trivial trivial trivial trivial trivial trivial ?_
    exact EVret trivial
  | cons x r ih =>
    intro p hp
    have hlen : l.length = p.length + (r.length + 1) := by rw [← hp]; simp
    have hlt : (p.length : Int) < (l.length : Int) := by omega
    have hw : IntKind.i64.wrap ((p.length : Int) + 1) = ((p.length + 1 : Nat) : Int) := by rw [i64_in _ (by omega)]; simp
    have eK := mid_I hp
    have hx : (x != x) = false := bne_self_eq_false _
    have hih := ih (p ++ [x]) (by rw [List.append_assoc]; exact hp)
    rw [snoc_len] at hih
    conv => arg 3; simp only [mkT, putT, List.reduceReplicate, List.set]
    refine EVgo9 (And.intro (hlt) ( And.intro (hw) ( And.intro (eK) (hx)))) trivial trivial trivial trivial trivial trivial trivial trivial trivial trivial trivial ?_
    exact WC.loop rfl hih
theorem s3 (l : List Ot) (n : Int) (h : List Int) (d : List Bool) (i : Int) (hin : ∀ x ∈ l, inI (argT x) = true) : Sp cf 3 [slT l, .int .i64 n, slI h, slB d, .int .i64 i] (.bool true) := by
  have h9 := s9 hcf
  refine sp_of hcf env3 ?_
  by_cases h30 : l.length > 30
  · have c1 : (30 : Int) < (l.length : Int) := by omega
    simp only [slT, slI, slB]
    conv => arg 2; simp only [ir3]
    conv => arg 3; simp only [ir3, Go.Proofs.YtipnedhclbopdaaDoorEv.start, List.length, Nat.reduceAdd, Nat.reduceSub, List.reduceReplicate, List.append_eq, List.cons_append, List.nil_append]
    conv => arg 4; simp only [heapOf]
    try conv => arg 5; simp only [List.length, Nat.reduceAdd]
    try conv => arg 6; simp only [List.length, Nat.reduceAdd]
    refine EVgo9 (c1) (h9) trivial trivial trivial trivial trivial trivial trivial trivial trivial trivial ?_
    exact EVret trivial
  have c1 : ¬ (30 : Int) < (l.length : Int) := by omega
  by_cases h60 : h.length > 60
  · have c2 : (60 : Int) < (h.length : Int) := by omega
    simp only [slT, slI, slB]
    conv => arg 2; simp only [ir3]
    conv => arg 3; simp only [ir3, Go.Proofs.YtipnedhclbopdaaDoorEv.start, List.length, Nat.reduceAdd, Nat.reduceSub, List.reduceReplicate, List.append_eq, List.cons_append, List.nil_append]
    conv => arg 4; simp only [heapOf]
    try conv => arg 5; simp only [List.length, Nat.reduceAdd]
    try conv => arg 6; simp only [List.length, Nat.reduceAdd]
    refine EVgo9 (And.intro (c1) (c2)) (h9) trivial trivial trivial trivial trivial trivial trivial trivial trivial trivial ?_
    exact EVret trivial
  have c2 : ¬ (60 : Int) < (h.length : Int) := by omega
  by_cases hd60 : d.length > 60
  · have c3 : (60 : Int) < (d.length : Int) := by omega
    simp only [slT, slI, slB]
    conv => arg 2; simp only [ir3]
    conv => arg 3; simp only [ir3, Go.Proofs.YtipnedhclbopdaaDoorEv.start, List.length, Nat.reduceAdd, Nat.reduceSub, List.reduceReplicate, List.append_eq, List.cons_append, List.nil_append]
    conv => arg 4; simp only [heapOf]
    try conv => arg 5; simp only [List.length, Nat.reduceAdd]
    try conv => arg 6; simp only [List.length, Nat.reduceAdd]
    refine EVgo9 (And.intro (c1) ( And.intro (c2) (c3))) (h9) trivial trivial trivial trivial trivial trivial trivial trivial trivial trivial ?_
    exact EVret trivial
  have c3 : ¬ (60 : Int) < (d.length : Int) := by omega
  have h14 := s14 hcf l (by omega)
  have h13 := s13 hcf l n hin
  have h15 := s15 hcf l n hin
  have h17 := s17 hcf l d i (by omega) (by omega)
  have h18 := s18 hcf l d i (by omega) (by omega)
  have hL : (linT l n == linT l n) = true := beqt _
  have hA : (afterI l d i == afterI l d i) = true := beq_self_eq_true _
  generalize linT l n = L at *
  generalize afterI l d i = A at *
  by_cases h0 : l.length = 0
  · have c4 : ¬ (0 : Int) < (l.length : Int) := by omega
    have h11 := s11 hcf (0, 0, i, 0, true, 0, 1)
    have h10 := s10 hcf h (0, 0, i, 0, true, 0, 1) n (by omega)
    have h12 := s12 hcf h (0, 0, i, 0, true, 0, 1) n (by omega)
    have hq := apply_len h (0, 0, i, 0, true, 0, 1) n
    generalize applyT h (0, 0, i, 0, true, 0, 1) n = q at *
    obtain ⟨q1, q2⟩ := q
    have h16 := s16 hcf q1 (by simp only at hq; omega)
    have hQ : (q2 == q2) = true := beq_self_eq_true _
    simp only [slT, slI, slB, encT] at *
    conv => arg 2; simp only [ir3]
    conv => arg 3; simp only [ir3, Go.Proofs.YtipnedhclbopdaaDoorEv.start, List.length, Nat.reduceAdd, Nat.reduceSub, List.reduceReplicate, List.append_eq, List.cons_append, List.nil_append]
    conv => arg 4; simp only [heapOf]
    try conv => arg 5; simp only [List.length, Nat.reduceAdd]
    try conv => arg 6; simp only [List.length, Nat.reduceAdd]
    refine EVgo9 (And.intro (c1) ( And.intro (c2) ( And.intro (c3) (c4)))) (h9) (h11) (h10) (h12) trivial trivial trivial trivial trivial trivial trivial ?_
    refine EVgo9 (And.intro (hL) ( And.intro (hA) (hQ))) (h14) (h13) (h15) (h16) (h17) (h18) trivial trivial trivial trivial trivial ?_
    exact EVret trivial
  · have c4 : (0 : Int) < (l.length : Int) := by omega
    have hne : (l.length : Int) ≠ 0 := by omega
    obtain ⟨a, ha, hka⟩ := pick_lt i (n := l.length) (by omega)
    have fA := andI_fold i 65535
    have hal : (a : Int) < (l.length : Int) := by omega
    have eA := at_T ha
    generalize l.getD a nilT = x at eA
    have h11 := s11 hcf x
    have h10 := s10 hcf h x n (by omega)
    have h12 := s12 hcf h x n (by omega)
    have hq := apply_len h x n
    generalize applyT h x n = q at *
    obtain ⟨q1, q2⟩ := q
    obtain ⟨x1, x2, x3, x4, x5, x6, x7⟩ := x
    have h16 := s16 hcf q1 (by simp only at hq; omega)
    have hQ : (q2 == q2) = true := beq_self_eq_true _
    simp only [slT, slI, slB, encT] at *
    conv => arg 2; simp only [ir3]
    conv => arg 3; simp only [ir3, Go.Proofs.YtipnedhclbopdaaDoorEv.start, List.length, Nat.reduceAdd, Nat.reduceSub, List.reduceReplicate, List.append_eq, List.cons_append, List.nil_append]
    conv => arg 4; simp only [heapOf]
    try conv => arg 5; simp only [List.length, Nat.reduceAdd]
    try conv => arg 6; simp only [List.length, Nat.reduceAdd]
    refine EVgo9 (And.intro (c1) ( And.intro (c2) ( And.intro (c3) ( And.intro (c4) (fA))))) (h9) trivial trivial trivial trivial trivial trivial trivial trivial trivial trivial ?_
    first | refine WO.step (k_rem hne rfl rfl) ?_ | refine WOc.step (k_rem hne rfl rfl) ?_
    conv => arg 2; simp only [setOpt, List.set, Nat.reduceLT, Int.reduceToNat, List.drop_drop, valT, List.getD_cons_zero, List.getD_cons_succ, Int.reduceLT, Int.reduceLE, Int.reduceAdd, Int.reduceSub, Int.reduceMul, Int.reduceNeg, Int.reduceEq, Int.reduceNe, Int.cast_ofNat_Int, Int.natCast_zero, Int.natCast_one, ge_iff_le, gt_iff_lt, decide_true, decide_false, Bool.not_true, Bool.not_false, Int.toNat_natCast, Nat.sub_zero, Nat.mul_one, Option.isSome_some, Option.isSome_none, Bool.false_eq_true, Bool.and_true, Bool.true_and, Bool.and_false, Bool.false_and, Nat.zero_add, Nat.zero_mul, List.drop_zero, reduceIte, setRange, PV.cells, fillB, List.take, List.drop, List.append_eq, List.cons_append, List.nil_append, List.length, List.map, List.zip, List.zipWith, List.replicate, List.flatten, Nat.reduceAdd, Nat.reduceMul, Nat.reduceSub, PV.mapId, mapIds, Option.map, Blk.mapId, sigN, sigS, hka]
    try conv => arg 3; simp only [Nat.reduceLT, List.reduceReplicate, List.flatten_cons, List.flatten_nil, List.append_nil, Nat.reduceMul, Nat.mul_one, Nat.one_mul, Nat.zero_mul, Nat.zero_add, List.drop_zero, List.drop_succ_cons, List.drop_nil, List.take_succ_cons, List.take_zero, List.take_nil, List.drop_drop, setRange, PV.cells, valT, List.getD_cons_zero, List.getD_cons_succ, List.take, List.length, Nat.reduceAdd, List.nil_append, applyU, hset, hdel, Nat.reduceEqDiff, reduceIte, List.append_eq, List.cons_append, List.nil_append, frz, rowsOf, updsNew, updsAt, sigN, sigS, PV.mapId, mapIds, Option.map, Blk.mapId, List.drop, heapOf, hka]
    conv => arg 5; simp only [stride, Nat.reduceAdd]
    refine EVgo9 (And.intro (hal) (eA)) (h11) (h10) (h12) trivial trivial trivial trivial trivial trivial trivial trivial ?_
    refine EVgo9 (And.intro (hL) ( And.intro (hA) (hQ))) (h14) (h13) (h15) (h16) (h17) (h18) trivial trivial trivial trivial trivial ?_
    exact EVret trivial
end
end Go.Proofs.YtipnedhclbopdaaDoorR
