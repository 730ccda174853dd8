/- Evs13L: a part of the proof. -/
import Derived.Test.YtklanpanmndakaaEvs13E
open Go Go.Proofs.YtklanpanmndakaaEv Go.Proofs.YtklanpanmndakaaR Go.IntWalk
set_option maxRecDepth 20000
set_option maxHeartbeats 8000000
set_option linter.unusedVariables false
set_option linter.unusedSimpArgs false
namespace Go.Proofs.YtklanpanmndakaaR
/-- a stack cut, or filled -/
def deepL (l : List Int) (n : Nat) : List Int := l.take n ++ List.replicate (n - l.length) 0
theorem deepL_len (l : List Int) (n : Nat) : (deepL l n).length = n := by
  unfold deepL
  rw [List.length_append, List.length_take, List.length_replicate]
  omega
theorem flat_rep (n : Nat) : (List.replicate n [PV.int .i64 0]).flatten = flat encI (List.replicate n 0) := by
  unfold flat
  rw [List.map_replicate]
  rfl
theorem deep_row (l : List Int) (n : Nat) : setRange ((List.replicate n [PV.int .i64 0]).flatten) 0 ((flat encI l).take (min l.length n * 1)) = flat encI (deepL l n) := by
  rw [flat_rep, flat_take (es := 1) (fun _ => rfl)]
  unfold setRange deepL
  have h1 : l.take (min l.length n) = l.take n := by rw [List.take_eq_take_iff]; omega
  have h2 := flat_drop (enc := encI) (es := 1) (fun _ => rfl) (List.replicate n 0) (min l.length n)
  rw [Nat.mul_one] at h2
  rw [List.take_zero, List.nil_append, Nat.zero_add, h1, lenI, List.length_take, Nat.min_comm, h2, List.drop_replicate, flat_append]
  have h3 : n - min l.length n = n - l.length := by omega
  rw [h3]
section
variable {cf : CF} (hcf : cf = ev env)
include hcf
theorem s44 (a : Bool) (l : List Int) (n : Nat) (h : n ≤ 1000) : cf 44 [.sl l.length a (flat encI l), .int .i64 n] [] = some (.own 0 1 0 n, [some (.row (flat encI (deepL l n)))]) := by
  refine ev_ofC' hcf env44 ?_
  conv => arg 2; simp only [ir44]
  conv => arg 3; simp only [ir44, Go.Proofs.YtklanpanmndakaaEv.start, List.length, Nat.reduceAdd, Nat.reduceSub, List.reduceReplicate, List.append_eq, List.cons_append, List.nil_append]
  conv => arg 4; simp only [heapOf]
  try conv => arg 5; simp only [List.length, Nat.reduceAdd]
  try conv => arg 6; simp only [List.length, Nat.reduceAdd]
  refine EVgo2 trivial trivial trivial trivial trivial ?_
  first | refine WO.step (k_mkslice rfl rfl (by omega) (by omega)) ?_ | refine WOc.step (k_mkslice rfl rfl (by omega) (by omega)) ?_
  conv => arg 2; simp only [setOpt, List.set, Nat.reduceLT, Int.reduceToNat, List.drop_drop, valT, List.getD_cons_zero, List.getD_cons_succ, Int.reduceLT, Int.reduceLE, Int.reduceAdd, Int.reduceSub, Int.reduceMul, Int.reduceNeg, Int.reduceEq, Int.reduceNe, Int.cast_ofNat_Int, Int.natCast_zero, Int.natCast_one, ge_iff_le, gt_iff_lt, decide_true, decide_false, Bool.not_true, Bool.not_false, Int.toNat_natCast, Nat.sub_zero, Nat.mul_one, Option.isSome_some, Option.isSome_none, Bool.false_eq_true, Bool.and_true, Bool.true_and, Bool.and_false, Bool.false_and, Nat.zero_add, Nat.zero_mul, List.drop_zero, reduceIte, setRange, PV.cells, fillB, List.take, List.drop, List.append_eq, List.cons_append, List.nil_append, List.length, List.map, List.zip, List.zipWith, List.replicate, List.flatten, Nat.reduceAdd, Nat.reduceMul, Nat.reduceSub, PV.mapId, mapIds, Option.map, Blk.mapId, sigN, sigS]
  try conv => arg 3; simp only [Nat.reduceLT, List.reduceReplicate, List.flatten_cons, List.flatten_nil, List.append_nil, Nat.reduceMul, Nat.mul_one, Nat.one_mul, Nat.zero_mul, Nat.zero_add, List.drop_zero, List.drop_succ_cons, List.drop_nil, List.take_succ_cons, List.take_zero, List.take_nil, List.drop_drop, setRange, PV.cells, valT, List.getD_cons_zero, List.getD_cons_succ, List.take, List.length, Nat.reduceAdd, List.nil_append, applyU, hset, hdel, Nat.reduceEqDiff, reduceIte, List.append_eq, List.cons_append, List.nil_append, frz, rowsOf, updsNew, updsAt, sigN, sigS, PV.mapId, mapIds, Option.map, Blk.mapId, List.drop, heapOf]
  conv => arg 5; simp only [stride, Nat.reduceAdd]
  refine EVgo2 trivial trivial trivial trivial trivial ?_
  refine WO.step (k_copy rfl rfl rfl ((lenI l).trans (Nat.mul_one _).symm) (by simp)) ?_
  rw [deep_row]
  refine EVgo2 trivial trivial trivial trivial trivial ?_
  exact WQ.ret rfl
theorem s26a (a b : Bool) (m : Tk) (n : Int) (hs : saneB m = true) (h0 : m.h = 0) : cf 26 [tk a b m, .int .i64 n] [] = some (.tup [tk a b m, .bool false], []) := by
  have h38 := s38 hcf a b m hs
  obtain ⟨d, r, th, pl, h⟩ := m
  simp only at h0
  subst h0
  refine ev_ofC' hcf env26 ?_
  simp only [tk] at h38 ⊢
  conv => arg 2; simp only [ir26]
  conv => arg 3; simp only [ir26, Go.Proofs.YtklanpanmndakaaEv.start, List.length, Nat.reduceAdd, Nat.reduceSub, List.reduceReplicate, List.append_eq, List.cons_append, List.nil_append]
  conv => arg 4; simp only [heapOf]
  try conv => arg 5; simp only [List.length, Nat.reduceAdd]
  try conv => arg 6; simp only [List.length, Nat.reduceAdd]
  refine EVgo2 trivial (h38) trivial trivial trivial ?_
  exact WQ.ret rfl
omit hcf in
theorem s46z (hcf : cf = ev env) (t : Bool) (xs : List PV) : cf 46 [.sl 0 t xs] [] = some (.sl 0 true [], []) := by
  rw [hcf]
  exact ev_prim envP46 _ _ rfl
theorem s46c (t : Bool) (l : List Int) (h : 0 < l.length) (k : l.length ≤ 1000) : cf 46 [.sl l.length t (flat encI l)] [] = some (.own 0 1 0 l.length, [some (.row (flat encI l))]) := by
  have h0 : ev env0 46 [.sl l.length t (flat encI l)] [] = some (.own 0 1 0 l.length, [some (.row (flat encI l))]) := by
    refine ev_ofC' rfl envZ46 ?_
    conv => arg 2; simp only [ir46]
    conv => arg 3; simp only [ir46, Go.Proofs.YtklanpanmndakaaEv.start, List.length, Nat.reduceAdd, Nat.reduceSub, List.reduceReplicate, List.append_eq, List.cons_append, List.nil_append]
    conv => arg 4; simp only [heapOf]
    try conv => arg 5; simp only [List.length, Nat.reduceAdd]
    try conv => arg 6; simp only [List.length, Nat.reduceAdd]
    refine EVgo2 trivial trivial trivial trivial trivial ?_
    first | refine WO.step (k_eqNil_sl rfl (by omega)) ?_ | refine WOc.step (k_eqNil_sl rfl (by omega)) ?_
    conv => arg 2; simp only [setOpt, List.set, Nat.reduceLT, Int.reduceToNat, List.drop_drop, valT, List.getD_cons_zero, List.getD_cons_succ, Int.reduceLT, Int.reduceLE, Int.reduceAdd, Int.reduceSub, Int.reduceMul, Int.reduceNeg, Int.reduceEq, Int.reduceNe, Int.cast_ofNat_Int, Int.natCast_zero, Int.natCast_one, ge_iff_le, gt_iff_lt, decide_true, decide_false, Bool.not_true, Bool.not_false, Int.toNat_natCast, Nat.sub_zero, Nat.mul_one, Option.isSome_some, Option.isSome_none, Bool.false_eq_true, Bool.and_true, Bool.true_and, Bool.and_false, Bool.false_and, Nat.zero_add, Nat.zero_mul, List.drop_zero, reduceIte, setRange, PV.cells, fillB, List.take, List.drop, List.append_eq, List.cons_append, List.nil_append, List.length, List.map, List.zip, List.zipWith, List.replicate, List.flatten, Nat.reduceAdd, Nat.reduceMul, Nat.reduceSub, PV.mapId, mapIds, Option.map, Blk.mapId, sigN, sigS]
    try conv => arg 3; simp only [Nat.reduceLT, List.reduceReplicate, List.flatten_cons, List.flatten_nil, List.append_nil, Nat.reduceMul, Nat.mul_one, Nat.one_mul, Nat.zero_mul, Nat.zero_add, List.drop_zero, List.drop_succ_cons, List.drop_nil, List.take_succ_cons, List.take_zero, List.take_nil, List.drop_drop, setRange, PV.cells, valT, List.getD_cons_zero, List.getD_cons_succ, List.take, List.length, Nat.reduceAdd, List.nil_append, applyU, hset, hdel, Nat.reduceEqDiff, reduceIte, List.append_eq, List.cons_append, List.nil_append, frz, rowsOf, updsNew, updsAt, sigN, sigS, PV.mapId, mapIds, Option.map, Blk.mapId, List.drop, heapOf]
    conv => arg 5; simp only [stride, Nat.reduceAdd]
    refine EVgo2 trivial trivial trivial trivial trivial ?_
    refine WO.step (k_append_own rfl rfl rfl ((lenI l).trans (Nat.mul_one _).symm) (by simp only [mostLen]; omega) (by decide)) ?_
    have e1 : ∀ x : List PV, ([] : List PV).take (0 * 1) ++ x = x := fun x => by simp
    rw [e1, Nat.zero_add]
    refine EVgo2 trivial trivial trivial trivial trivial ?_
    exact WQ.ret rfl
  rw [hcf]
  refine ev_prim envP46 _ _ ?_
  unfold cloneG
  cases l with
  | nil => simp at h
  | cons x r => exact h0
theorem s45v (a c : Bool) (d l : List Int) (th pl h : Int) : cf 45 [.agg [.sl d.length a (flat encI d), .nil, .int .i64 th, .int .i64 pl, .int .i64 h], .sl l.length c (flat encI l)] [] = some (tk a c ⟨d, l, th, pl, if stands h l.length = true then h else 0⟩, []) := by
  refine ev_ofC' hcf env45 ?_
  simp only [tk]
  conv => arg 2; simp only [ir45]
  conv => arg 3; simp only [ir45, Go.Proofs.YtklanpanmndakaaEv.start, List.length, Nat.reduceAdd, Nat.reduceSub, List.reduceReplicate, List.append_eq, List.cons_append, List.nil_append]
  conv => arg 4; simp only [heapOf]
  try conv => arg 5; simp only [List.length, Nat.reduceAdd]
  try conv => arg 6; simp only [List.length, Nat.reduceAdd]
  cases hs : stands h l.length with
  | true =>
    refine EVgo2 (hs) (s37 hcf h l.length) trivial trivial trivial ?_
    exact WQ.ret rfl
  | false =>
    refine EVgo2 (hs) (s37 hcf h l.length) trivial trivial trivial ?_
    exact WQ.ret rfl
/-- how many cells are put back -/
def cnt (f : Int) : Nat := (if 63 < f then 63 else if f < 0 then 0 else f).toNat
omit hcf in
theorem cnt_le (f : Int) : cnt f ≤ 63 := by
  unfold cnt
  split
  · omega
  · split <;> omega
theorem s26 (a b : Bool) (d low : List Int) (f0 f1 f2 : Int) (tl : List Int) (th pl h n : Int) (hs : saneB ⟨d, low ++ f0 :: f1 :: f2 :: tl, th, pl, h⟩ = true) (h3 : h = (low.length : Int) + 3) (hf2 : 0 ≤ f2 ∧ f2 ≤ 4096004095) :
    ∃ c, cf 26 [tk a b ⟨d, low ++ f0 :: f1 :: f2 :: tl, th, pl, h⟩, .int .i64 n] [] = some (.tup [tk false c ⟨deepL d (cnt f1) ++ [n], low, f2 / 4096, f2 % 4096, cut f0 low.length⟩, .bool true], []) := by
  have h38 := s38 hcf a b _ hs
  have hS := (sane_iff _).1 hs
  have hr := hS.r
  have hd := hS.d
  simp only [List.length_append, List.length_cons] at hr hd
  have h15 := s15 hcf f2 hf2
  have hc63 := cnt_le f1
  have h44 := s44 hcf a d (cnt f1) (by omega)
  have hlen : ((low ++ f0 :: f1 :: f2 :: tl).length) = low.length + 3 + tl.length := by simp; omega
  have hh0 : (h == 0) = false := by simp; omega
  have hw3 : IntKind.i64.wrap (h - 3) = (low.length : Int) := by rw [i64_in _ (by omega)]; omega
  have e1 : List.drop low.length (flat encI (low ++ f0 :: f1 :: f2 :: tl)) = .int .i64 f0 :: .int .i64 f1 :: .int .i64 f2 :: flat encI tl := by
    have := flat_drop (enc := encI) (es := 1) (fun _ => rfl) (low ++ f0 :: f1 :: f2 :: tl) low.length
    rw [Nat.mul_one, List.drop_left] at this
    rw [this]
    rfl
  have e2 : List.take low.length (flat encI (low ++ f0 :: f1 :: f2 :: tl)) = flat encI low := by
    have := flat_take (enc := encI) (es := 1) (fun _ => rfl) (low ++ f0 :: f1 :: f2 :: tl) low.length
    rw [Nat.mul_one, List.take_left] at this
    exact this
  have hhn : h.toNat - low.length = 3 := by omega
  have hcm : (if 0 < (if 63 < f1 then (63 : Int) else f1) then (if 63 < f1 then (63 : Int) else f1) else 0) = (cnt f1 : Int) := by
    unfold cnt
    split <;> split <;> (try split) <;> omega
  generalize hR : low ++ f0 :: f1 :: f2 :: tl = R at *
  refine ⟨low.isEmpty, ?_⟩
  refine ev_ofC' hcf env26 ?_
  simp only [tk] at h38 ⊢
  conv => arg 2; simp only [ir26]
  conv => arg 3; simp only [ir26, Go.Proofs.YtklanpanmndakaaEv.start, List.length, Nat.reduceAdd, Nat.reduceSub, List.reduceReplicate, List.append_eq, List.cons_append, List.nil_append]
  conv => arg 4; simp only [heapOf]
  try conv => arg 5; simp only [List.length, Nat.reduceAdd]
  try conv => arg 6; simp only [List.length, Nat.reduceAdd]
  have hdl : (flat encI (deepL d (cnt f1))).length = cnt f1 := (lenI _).trans (deepL_len _ _)
  have htk : (flat encI (deepL d (cnt f1))).take (cnt f1) = flat encI (deepL d (cnt f1)) := List.take_of_length_le (by omega)
  have hsn : flat encI (deepL d (cnt f1)) ++ [PV.int .i64 n] = flat encI (deepL d (cnt f1) ++ [n]) := by rw [flat_append]; rfl
  have hne : (low.length = R.length) = False := by simp; omega
  refine EVgo9 (And.intro (hh0) ( And.intro (hw3) ( And.intro (hhn) ( And.intro (e1) ( And.intro (e2) ( And.intro (hne) ( And.intro (hcm) ( And.intro (hdl) ( And.intro (htk) (hsn)))))))))) (h38) (h15) (h44) trivial trivial trivial trivial trivial trivial trivial trivial ?_
  generalize hD : deepL d (cnt f1) ++ [n] = D
  have hDl : D.length = cnt f1 + 1 := by rw [← hD, List.length_append, deepL_len]; rfl
  cases low with
  | nil =>
    have h46 := s46z hcf false ([] : List PV)
    have h45 := s45v hcf false true D [] (f2 / 4096) (f2 % 4096) f0
    rw [ownI_in] at h45
    unfold cut
    unfold ownI at h45
    simp only [tk, hDl] at h45 ⊢
    refine EVgo2 trivial (h46) (h45) trivial trivial ?_
    refine WQ.ret ?_
    rfl
  | cons l0 lr =>
    have h46 := s46c hcf false (l0 :: lr) (by simp) (by simp only [List.length_cons] at hr ⊢; omega)
    have h45 := s45v hcf false false D (l0 :: lr) (f2 / 4096) (f2 % 4096) f0
    rw [ownI_in, ownI_in] at h45
    unfold cut
    unfold ownI at h45
    simp only [tk, hDl] at h45 ⊢
    refine EVgo2 (e2) (h46) (h45) trivial trivial ?_
    refine WQ.ret ?_
    rfl
end
end Go.Proofs.YtklanpanmndakaaR
