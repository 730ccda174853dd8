/- Evr13F: a part of the proof. -/
import Derived.Test.YtklanpanmndakaaEvr13E
open Go Go.Proofs.YtklanpanmndakaaEv Go.Proofs.YtklanpanmndakaaR Go.IntWalk
set_option maxRecDepth 20000
set_option maxHeartbeats 8000000
set_option linter.unusedVariables false
set_option linter.unusedSimpArgs false
namespace Go.Proofs.YtklanpanmndakaaR
def ctch (t : Tk) (to : Int) : Tk × Int := if okAt to = true then (if t.r.length ≤ 60 then (⟨t.d, t.r ++ [t.h, (t.d.length : Int), addr t.th t.pl, -1], thAt to, plAt to, (t.r.length : Int) + 3⟩, 0) else (t, -5)) else (t, -9)
def deepL (l : List Int) (n : Nat) : List Int := l.take n ++ List.replicate (n - l.length) 0
theorem deepL_len (l : List Int) (n : Nat) : (deepL l n).length = n := by unfold deepL; rw [List.length_append, List.length_take, List.length_replicate]; omega
theorem flat_rep (n : Nat) : flat encI (List.replicate n 0) = List.replicate n (.int .i64 0) := by
  induction n with
  | zero => rfl
  | succ n ih => rw [List.replicate_succ, flat_cons, ih, List.replicate_succ]; rfl
section
variable {cf : CF} (hcf : cf = ev env)
include hcf
theorem s29 (m : Tk) (to : Int) (ht : to ≤ 9223372036854775807) : Sp cf 29 [tkE m, .int .i64 to] (.tup [tkE (ctch (saneT m) to).1, .int .i64 (ctch (saneT m) to).2]) := by
  have h38 := s38 hcf m
  have hs := sn_sane m
  generalize saneT m = t at *
  have hr := hs.r
  have h15 := s15 hcf to ht
  have h20 := s20 hcf t.th t.pl
  have h39 := s39 hcf t [t.h, (t.d.length : Int), addr t.th t.pl, -1] hs (by simp)
  cases hok : okAt to with
  | false =>
    refine sp_of hcf env29 ?_
    simp only [ctch, hok, Bool.false_eq_true, if_false]
    conv => arg 2; simp only [ir29]
    conv => arg 3; simp only [ir29, Go.Proofs.YtklanpanmndakaaEv.start, List.length, Nat.reduceAdd, Nat.reduceSub, List.reduceReplicate, List.append_eq, List.cons_append, List.nil_append]
    conv => arg 4; simp only [heapOf]
    try conv => arg 5; simp only [List.length, Nat.reduceAdd]
    try conv => arg 6; simp only [List.length, Nat.reduceAdd]
    refine EVgo2 (And.intro (@tkE.eq_1) ( And.intro (@atE.eq_1) (hok))) (h38) (h15) trivial trivial ?_
    exact EVret trivial
  | true =>
    by_cases hl : t.r.length ≤ 60
    · simp only [lay, if_pos (show t.r.length + [t.h, (t.d.length : Int), addr t.th t.pl, -1].length ≤ 64 by simp; omega)] at h39
      have w1 : IntKind.i64.wrap (((t.r ++ [t.h, (t.d.length : Int), addr t.th t.pl, -1]).length : Int) - 1) = (t.r.length : Int) + 3 := by
        rw [List.length_append]
        simp only [List.length_cons, List.length_nil]
        rw [i64_in _ (by omega)]
        omega
      refine sp_of hcf env29 ?_
      simp only [ctch, hok, if_true, if_pos hl]
      conv => arg 2; simp only [ir29]
      conv => arg 3; simp only [ir29, Go.Proofs.YtklanpanmndakaaEv.start, List.length, Nat.reduceAdd, Nat.reduceSub, List.reduceReplicate, List.append_eq, List.cons_append, List.nil_append]
      conv => arg 4; simp only [heapOf]
      try conv => arg 5; simp only [List.length, Nat.reduceAdd]
      try conv => arg 6; simp only [List.length, Nat.reduceAdd]
      refine EVgo9 (And.intro (@tkE.eq_1) ( And.intro (@slI.eq_1) ( And.intro (@atE.eq_1) ( And.intro (hok) (w1))))) (h38) (h15) (h20) (h39) trivial trivial trivial trivial trivial trivial trivial ?_
      exact EVret trivial
    · simp only [lay, if_neg (show ¬ t.r.length + [t.h, (t.d.length : Int), addr t.th t.pl, -1].length ≤ 64 by simp; omega)] at h39
      refine sp_of hcf env29 ?_
      simp only [ctch, hok, if_true, if_neg hl]
      conv => arg 2; simp only [ir29]
      conv => arg 3; simp only [ir29, Go.Proofs.YtklanpanmndakaaEv.start, List.length, Nat.reduceAdd, Nat.reduceSub, List.reduceReplicate, List.append_eq, List.cons_append, List.nil_append]
      conv => arg 4; simp only [heapOf]
      try conv => arg 5; simp only [List.length, Nat.reduceAdd]
      try conv => arg 6; simp only [List.length, Nat.reduceAdd]
      refine EVgo9 (And.intro (@tkE.eq_1) ( And.intro (@slI.eq_1) ( And.intro (@atE.eq_1) (hok)))) (h38) (h15) (h20) (h39) trivial trivial trivial trivial trivial trivial trivial ?_
      exact EVret trivial
theorem s60 (m : Tk) (to : Int) (ht : to ≤ 9223372036854775807) : Sp cf 60 [tkE m, .int .i64 to] (.tup [tkE (ctch (saneT m) to).1, .int .i64 (ctch (saneT m) to).2]) := by
  have h47 := s47 hcf m
  have hs := sn_sane m
  have hss := sane_sane m
  generalize saneT m = t at *
  have hr := hs.r
  have h48 := s48 hcf to ht
  have h50 := s50 hcf t.th t.pl
  have h55 := s55 hcf t [t.h, (t.d.length : Int), addr t.th t.pl, -1] (by simp)
  rw [hss] at h55
  cases hok : okAt to with
  | false =>
    refine sp_of hcf env60 ?_
    simp only [ctch, hok, Bool.false_eq_true, if_false]
    conv => arg 2; simp only [ir60]
    conv => arg 3; simp only [ir60, Go.Proofs.YtklanpanmndakaaEv.start, List.length, Nat.reduceAdd, Nat.reduceSub, List.reduceReplicate, List.append_eq, List.cons_append, List.nil_append]
    conv => arg 4; simp only [heapOf]
    try conv => arg 5; simp only [List.length, Nat.reduceAdd]
    try conv => arg 6; simp only [List.length, Nat.reduceAdd]
    refine EVgo2 (And.intro (@tkE.eq_1) ( And.intro (@atE.eq_1) (hok))) (h47) (h48) trivial trivial ?_
    exact EVret trivial
  | true =>
    by_cases hl : t.r.length ≤ 60
    · simp only [lay, if_pos (show t.r.length + [t.h, (t.d.length : Int), addr t.th t.pl, -1].length ≤ 64 by simp; omega)] at h55
      have w1 : IntKind.i64.wrap (((t.r ++ [t.h, (t.d.length : Int), addr t.th t.pl, -1]).length : Int) - 1) = (t.r.length : Int) + 3 := by
        rw [List.length_append]
        simp only [List.length_cons, List.length_nil]
        rw [i64_in _ (by omega)]
        omega
      refine sp_of hcf env60 ?_
      simp only [ctch, hok, if_true, if_pos hl]
      conv => arg 2; simp only [ir60]
      conv => arg 3; simp only [ir60, Go.Proofs.YtklanpanmndakaaEv.start, List.length, Nat.reduceAdd, Nat.reduceSub, List.reduceReplicate, List.append_eq, List.cons_append, List.nil_append]
      conv => arg 4; simp only [heapOf]
      try conv => arg 5; simp only [List.length, Nat.reduceAdd]
      try conv => arg 6; simp only [List.length, Nat.reduceAdd]
      refine EVgo9 (And.intro (@tkE.eq_1) ( And.intro (@slI.eq_1) ( And.intro (@atE.eq_1) ( And.intro (hok) (w1))))) (h47) (h48) (h50) (h55) trivial trivial trivial trivial trivial trivial trivial ?_
      exact EVret trivial
    · simp only [lay, if_neg (show ¬ t.r.length + [t.h, (t.d.length : Int), addr t.th t.pl, -1].length ≤ 64 by simp; omega)] at h55
      refine sp_of hcf env60 ?_
      simp only [ctch, hok, if_true, if_neg hl]
      conv => arg 2; simp only [ir60]
      conv => arg 3; simp only [ir60, Go.Proofs.YtklanpanmndakaaEv.start, List.length, Nat.reduceAdd, Nat.reduceSub, List.reduceReplicate, List.append_eq, List.cons_append, List.nil_append]
      conv => arg 4; simp only [heapOf]
      try conv => arg 5; simp only [List.length, Nat.reduceAdd]
      try conv => arg 6; simp only [List.length, Nat.reduceAdd]
      refine EVgo9 (And.intro (@tkE.eq_1) ( And.intro (@slI.eq_1) ( And.intro (@atE.eq_1) (hok)))) (h47) (h48) (h50) (h55) trivial trivial trivial trivial trivial trivial trivial ?_
      exact EVret trivial
theorem s44 (l : List Int) (n : Nat) (hl : l.length ≤ 100) (hn : n ≤ 100) : cf 44 [slI l, .int .i64 n] [] = some (.own 0 1 0 n, [some (.row (flat encI (deepL l n)))]) := by
  refine ev_ofC' hcf env44 ?_
  simp only [slI]
  conv => arg 2; simp only [ir44]
  conv => arg 3; simp only [ir44, Go.Proofs.YtklanpanmndakaaEv.start, List.length, Nat.reduceAdd, Nat.reduceSub, List.reduceReplicate, List.append_eq, List.cons_append, List.nil_append]
  conv => arg 4; simp only [heapOf]
  try conv => arg 5; simp only [List.length, Nat.reduceAdd]
  try conv => arg 6; simp only [List.length, Nat.reduceAdd]
  refine EVgo2 trivial trivial trivial trivial trivial ?_
  first | refine WO.step (k_mkslice rfl rfl (by omega) (by omega)) ?_ | refine WOc.step (k_mkslice rfl rfl (by omega) (by omega)) ?_
  conv => arg 2; simp only [setOpt, List.set, Nat.reduceLT, Int.reduceToNat, List.drop_drop, valT, List.getD_cons_zero, List.getD_cons_succ, Int.reduceLT, Int.reduceLE, Int.reduceAdd, Int.reduceSub, Int.reduceMul, Int.reduceNeg, Int.reduceEq, Int.reduceNe, Int.cast_ofNat_Int, Int.natCast_zero, Int.natCast_one, ge_iff_le, gt_iff_lt, decide_true, decide_false, Bool.not_true, Bool.not_false, Int.toNat_natCast, Nat.sub_zero, Nat.mul_one, Option.isSome_some, Option.isSome_none, Bool.false_eq_true, Bool.and_true, Bool.true_and, Bool.and_false, Bool.false_and, Nat.zero_add, Nat.zero_mul, List.drop_zero, reduceIte, setRange, PV.cells, fillB, List.take, List.drop, List.append_eq, List.cons_append, List.nil_append, List.length, List.map, List.zip, List.zipWith, List.replicate, List.flatten, Nat.reduceAdd, Nat.reduceMul, Nat.reduceSub, PV.mapId, mapIds, Option.map, Blk.mapId, sigN, sigS]
  try conv => arg 3; simp only [Nat.reduceLT, List.reduceReplicate, List.flatten_cons, List.flatten_nil, List.append_nil, Nat.reduceMul, Nat.mul_one, Nat.one_mul, Nat.zero_mul, Nat.zero_add, List.drop_zero, List.drop_succ_cons, List.drop_nil, List.take_succ_cons, List.take_zero, List.take_nil, List.drop_drop, setRange, PV.cells, valT, List.getD_cons_zero, List.getD_cons_succ, List.take, List.length, Nat.reduceAdd, List.nil_append, applyU, hset, hdel, Nat.reduceEqDiff, reduceIte, List.append_eq, List.cons_append, List.nil_append, frz, rowsOf, updsNew, updsAt, sigN, sigS, PV.mapId, mapIds, Option.map, Blk.mapId, List.drop, heapOf]
  conv => arg 5; simp only [stride, Nat.reduceAdd]
  have e1 : List.take (min l.length n) (flat encI l) ++ List.drop (List.take (min l.length n) (flat encI l)).length (List.replicate n [PV.int .i64 0]).flatten = flat encI (deepL l n) := by
    have e0 : (List.replicate n [PV.int .i64 0]).flatten = List.replicate n (PV.int .i64 0) := by
      rw [List.flatten_replicate_singleton]
    unfold deepL
    rw [e0, takeI, ← appI, flat_rep, lenI, List.length_take, List.drop_replicate]
    by_cases h : l.length ≤ n
    · rw [Nat.min_eq_left h, Nat.min_eq_left (Nat.le_refl _), List.take_of_length_le (Nat.le_refl _), List.take_of_length_le h]
    · rw [Nat.min_eq_right (by omega), Nat.min_eq_left (by omega), show n - n = 0 by omega, show n - l.length = 0 by omega]
  refine EVgo2 trivial trivial trivial trivial trivial ?_
  first | refine WO.step (k_copy rfl rfl rfl (by rw [lenI]; omega) (by simp)) ?_ | refine WOc.step (k_copy rfl rfl rfl (by rw [lenI]; omega) (by simp)) ?_
  conv => arg 2; simp only [setOpt, List.set, Nat.reduceLT, Int.reduceToNat, List.drop_drop, valT, List.getD_cons_zero, List.getD_cons_succ, Int.reduceLT, Int.reduceLE, Int.reduceAdd, Int.reduceSub, Int.reduceMul, Int.reduceNeg, Int.reduceEq, Int.reduceNe, Int.cast_ofNat_Int, Int.natCast_zero, Int.natCast_one, ge_iff_le, gt_iff_lt, decide_true, decide_false, Bool.not_true, Bool.not_false, Int.toNat_natCast, Nat.sub_zero, Nat.mul_one, Option.isSome_some, Option.isSome_none, Bool.false_eq_true, Bool.and_true, Bool.true_and, Bool.and_false, Bool.false_and, Nat.zero_add, Nat.zero_mul, List.drop_zero, reduceIte, setRange, PV.cells, fillB, List.take, List.drop, List.append_eq, List.cons_append, List.nil_append, List.length, List.map, List.zip, List.zipWith, List.replicate, List.flatten, Nat.reduceAdd, Nat.reduceMul, Nat.reduceSub, PV.mapId, mapIds, Option.map, Blk.mapId, sigN, sigS]
  try conv => arg 3; simp only [Nat.reduceLT, List.reduceReplicate, List.flatten_cons, List.flatten_nil, List.append_nil, Nat.reduceMul, Nat.mul_one, Nat.one_mul, Nat.zero_mul, Nat.zero_add, List.drop_zero, List.drop_succ_cons, List.drop_nil, List.take_succ_cons, List.take_zero, List.take_nil, List.drop_drop, setRange, PV.cells, valT, List.getD_cons_zero, List.getD_cons_succ, List.take, List.length, Nat.reduceAdd, List.nil_append, applyU, hset, hdel, Nat.reduceEqDiff, reduceIte, List.append_eq, List.cons_append, List.nil_append, frz, rowsOf, updsNew, updsAt, sigN, sigS, PV.mapId, mapIds, Option.map, Blk.mapId, List.drop, heapOf]
  conv => arg 5; simp only [stride, Nat.reduceAdd]
  refine EVgo2 trivial trivial trivial trivial trivial ?_
  rw [e1]
  exact WQ.ret rfl
theorem s66 (l : List Int) (n : Nat) (hl : l.length ≤ 100) (hn : n ≤ 100) : cf 66 [slI l, .int .i64 n] [] = some (.own 0 1 0 n, [some (.row (flat encI (deepL l n)))]) := by
  have snoc : ∀ (k : Nat), k < l.length → flat encI (deepL l k) ++ [PV.int .i64 (l.getD k 0)] = flat encI (deepL l (k + 1)) := fun k hk => by
    rw [snocI]
    unfold deepL
    rw [show k - l.length = 0 by omega, show k + 1 - l.length = 0 by omega, List.getD_eq_getElem?_getD, List.getElem?_eq_getElem hk]
    simp
  have snoc0 : ∀ (k : Nat), ¬ k < l.length → flat encI (deepL l k) ++ [PV.int .i64 0] = flat encI (deepL l (k + 1)) := fun k hk => by
    rw [snocI]
    unfold deepL
    rw [List.append_assoc, List.take_of_length_le (by omega), List.take_of_length_le (by omega), show k + 1 - l.length = (k - l.length) + 1 by omega, List.replicate_succ']
  have allD : ∀ k, (flat encI (deepL l k)).take k = flat encI (deepL l k) := fun k => List.take_of_length_le (by rw [lenI, deepL_len]; omega)
  have lenD : ∀ k, (flat encI (deepL l k)).length = k := fun k => by rw [lenI, deepL_len]
  refine ev_ofC' hcf env66 ?_
  simp only [slI]
  conv => arg 2; simp only [ir66]
  conv => arg 3; simp only [ir66, Go.Proofs.YtklanpanmndakaaEv.start, List.length, Nat.reduceAdd, Nat.reduceSub, List.reduceReplicate, List.append_eq, List.cons_append, List.nil_append]
  conv => arg 4; simp only [heapOf]
  try conv => arg 5; simp only [List.length, Nat.reduceAdd]
  try conv => arg 6; simp only [List.length, Nat.reduceAdd]
  refine EVgo2 trivial trivial trivial trivial trivial ?_
  refine WC.loop (T' := _) (H' := _) (n' := _) rfl ((?_ : ∀ (m i : Nat) (D : List PV), i + m = n → D = flat encI (deepL l i) →
    WC cf _ (mkT 27 [(0, .sl l.length false (flat encI l)), (1, .int .i64 (n : Nat)), (5, .own 0 1 0 i), (6, .int .i64 (i : Nat))]) [(0, .row D)] 0 1 _) n 0 [] (by omega) (by simp [deepL, flat]))
  intro m
  induction m with
  | zero =>
    intro i D hi hD
    subst hD
    obtain rfl : i = n := by omega
    conv => arg 3; simp only [mkT, putT, List.reduceReplicate, List.set]
    refine EVgl2 trivial trivial trivial trivial trivial ?_
    exact WQ.ret rfl
  | succ m ih =>
    intro i D hi hD
    subst hD
    have hlt : (i : Int) < (n : Int) := by omega
    have hw : IntKind.i64.wrap ((i : Int) + 1) = ((i + 1 : Nat) : Int) := by rw [i64_in _ (by omega)]; simp
    conv => arg 3; simp only [mkT, putT, List.reduceReplicate, List.set]
    by_cases hil : i < l.length
    · have hil' : (i : Int) < (l.length : Int) := by omega
      have e0 := at_getD hil
      refine EVgo2 (And.intro (hlt) ( And.intro (hw) ( And.intro (hil') ( And.intro (e0) ( And.intro (lenD) ( And.intro (allD) (snoc i hil))))))) trivial trivial trivial trivial ?_
      exact WC.loop rfl (ih (i + 1) _ (by omega) rfl)
    · have hil' : ¬ (i : Int) < (l.length : Int) := by omega
      refine EVgo2 (And.intro (hlt) ( And.intro (hw) ( And.intro (hil') ( And.intro (lenD) ( And.intro (allD) (snoc0 i hil)))))) trivial trivial trivial trivial ?_
      exact WC.loop rfl (ih (i + 1) _ (by omega) rfl)
end
end Go.Proofs.YtklanpanmndakaaR
