/- Evs13A: a part of the proof. -/
import Derived.Test.YtklanpanmndakaaEvIr13
import Derived.Test.YtklanpanmndakaaEv5
import Derived.IntWalk
open Go Go.Proofs.YtklanpanmndakaaEv Go.Proofs.YtklanpanmndakaaR Go.IntWalk
set_option maxRecDepth 20000
set_option maxHeartbeats 8000000
set_option linter.unusedVariables false
set_option linter.unusedSimpArgs false
namespace Go.Proofs.YtklanpanmndakaaR
def encI (n : Int) : List PV := [.int .i64 n]
theorem lenI (l : List Int) : (flat encI l).length = l.length := (flat_length (enc := encI) (es := 1) (fun _ => rfl) l).trans (Nat.mul_one _)
structure Tk where
  d : List Int
  r : List Int
  th : Int
  pl : Int
  h : Int
def sl (t : Bool) (l : List Int) : PV := .sl l.length t (flat encI l)
def tk (a b : Bool) (m : Tk) : PV := .agg [.sl m.d.length a (flat encI m.d), .sl m.r.length b (flat encI m.r), .int .i64 m.th, .int .i64 m.pl, .int .i64 m.h]
def addr (th pl : Int) : Int := if 0 ≤ th ∧ th ≤ 1000000 then (if 0 ≤ pl ∧ pl ≤ 4095 then th * 4096 + pl else -1) else -1
def stands (h n : Int) : Bool := h == 0 || decide (3 ≤ h ∧ h ≤ n)
structure Sn (m : Tk) : Prop where
  d : m.d.length ≤ 64
  r : m.r.length ≤ 64
  th : 0 ≤ m.th ∧ m.th ≤ 1000000
  pl : 0 ≤ m.pl ∧ m.pl ≤ 4095
  h : m.h = 0 ∨ 3 ≤ m.h ∧ m.h ≤ m.r.length
def saneB (m : Tk) : Bool := decide ((m.d.length : Int) ≤ 64) && (decide ((m.r.length : Int) ≤ 64) && (decide (0 ≤ addr m.th m.pl) && stands m.h m.r.length))
theorem stands_iff (h n : Int) : stands h n = true ↔ h = 0 ∨ 3 ≤ h ∧ h ≤ n := by
  simp only [stands, Bool.or_eq_true, beq_iff_eq, decide_eq_true_eq]
theorem addr_iff (a b : Int) : 0 ≤ addr a b ↔ (0 ≤ a ∧ a ≤ 1000000) ∧ 0 ≤ b ∧ b ≤ 4095 := by
  unfold addr
  split
  · split <;> omega
  · omega
theorem sane_iff (m : Tk) : saneB m = true ↔ Sn m := by
  simp only [saneB, Bool.and_eq_true, decide_eq_true_eq, stands_iff, addr_iff]
  constructor
  · rintro ⟨h1, h2, ⟨h3, h4⟩, h5⟩
    exact ⟨by omega, by omega, h3, h4, h5⟩
  · rintro ⟨h1, h2, h3, h4, h5⟩
    exact ⟨by omega, by omega, ⟨h3, h4⟩, h5⟩
section
variable {cf : CF} (hcf : cf = ev env)
include hcf
theorem s42 (n m : Int) : cf 42 [.int .i64 n, .int .i64 m] [] = some (.bool (decide (0 ≤ n ∧ n ≤ m)), []) := by
  refine ev_ofC' hcf env42 ?_
  conv => arg 2; simp only [ir42]
  conv => arg 3; simp only [ir42, Go.Proofs.YtklanpanmndakaaEv.start, List.length, Nat.reduceAdd, Nat.reduceSub, List.reduceReplicate, List.append_eq, List.cons_append, List.nil_append]
  conv => arg 4; simp only [heapOf]
  try conv => arg 5; simp only [List.length, Nat.reduceAdd]
  try conv => arg 6; simp only [List.length, Nat.reduceAdd]
  by_cases h : 0 ≤ n
  · refine EVgo2 (h) trivial trivial trivial trivial ?_
    exact WQ.ret (by simp only [h, true_and]; rfl)
  · refine EVgo2 (h) trivial trivial trivial trivial ?_
    exact WQ.ret (by simp only [h, false_and, decide_false]; rfl)
omit hcf in
theorem w4096 (a b : Int) (h : 0 ≤ a ∧ a ≤ 1000000) (k : 0 ≤ b ∧ b ≤ 4095) : IntKind.i64.wrap (IntKind.i64.wrap (a * 4096) + b) = a * 4096 + b := by
  rw [i64_in (a * 4096) (by omega), i64_in _ (by omega)]
theorem s20 (a b : Int) : cf 20 [.agg [.int .i64 a, .int .i64 b]] [] = some (.int .i64 (addr a b), []) := by
  refine ev_ofC' hcf env20 ?_
  conv => arg 2; simp only [ir20]
  conv => arg 3; simp only [ir20, Go.Proofs.YtklanpanmndakaaEv.start, List.length, Nat.reduceAdd, Nat.reduceSub, List.reduceReplicate, List.append_eq, List.cons_append, List.nil_append]
  conv => arg 4; simp only [heapOf]
  try conv => arg 5; simp only [List.length, Nat.reduceAdd]
  try conv => arg 6; simp only [List.length, Nat.reduceAdd]
  unfold addr
  by_cases h : 0 ≤ a ∧ a ≤ 1000000
  · have h' : decide (0 ≤ a ∧ a ≤ 1000000) = true := decide_eq_true h
    rw [if_pos h]
    by_cases k : 0 ≤ b ∧ b ≤ 4095
    · have k' : decide (0 ≤ b ∧ b ≤ 4095) = true := decide_eq_true k
      rw [if_pos k]
      refine EVgo2 (And.intro (h') ( And.intro (k') (w4096 a b h k))) (s42 hcf a 1000000) (s42 hcf b 4095) trivial trivial ?_
      exact WQ.ret rfl
    · have k' : decide (0 ≤ b ∧ b ≤ 4095) = false := decide_eq_false k
      rw [if_neg k]
      refine EVgo2 (And.intro (h') (k')) (s42 hcf a 1000000) (s42 hcf b 4095) trivial trivial ?_
      exact WQ.ret rfl
  · have h' : decide (0 ≤ a ∧ a ≤ 1000000) = false := decide_eq_false h
    rw [if_neg h]
    refine EVgo2 (h') (s42 hcf a 1000000) (s42 hcf b 4095) trivial trivial ?_
    exact WQ.ret rfl
def mayAt (n : Int) : Prop := 0 ≤ n ∧ n ≤ 4096004095
omit hcf in
theorem q4096 (n : Int) (h : 0 ≤ n ∧ n ≤ 9223372036854775807) : IntKind.i64.wrap (n.tdiv 4096) = n / 4096 := by
  rw [i64_quo _ _ (by omega)]
omit hcf in
theorem r4096 (n : Int) (h : 0 ≤ n) : n.tmod 4096 = n % 4096 := Int.tmod_eq_emod_of_nonneg h
theorem s15 (n : Int) (h : 0 ≤ n ∧ n ≤ 4096004095) : cf 15 [.int .i64 n] [] = some (.tup [.agg [.int .i64 (n / 4096), .int .i64 (n % 4096)], .bool true], []) := by
  refine ev_ofC' hcf env15 ?_
  conv => arg 2; simp only [ir15]
  conv => arg 3; simp only [ir15, Go.Proofs.YtklanpanmndakaaEv.start, List.length, Nat.reduceAdd, Nat.reduceSub, List.reduceReplicate, List.append_eq, List.cons_append, List.nil_append]
  conv => arg 4; simp only [heapOf]
  try conv => arg 5; simp only [List.length, Nat.reduceAdd]
  try conv => arg 6; simp only [List.length, Nat.reduceAdd]
  have h1 : ¬ (n < 0) := by omega
  have h2 : ¬ (n / 4096 > 1000000) := by omega
  refine EVgo2 (And.intro (q4096 n (by omega)) ( And.intro (r4096 n h.1) ( And.intro (h1) (h2)))) trivial trivial trivial trivial ?_
  exact WQ.ret rfl
theorem s37 (h n : Int) : cf 37 [.int .i64 h, .int .i64 n] [] = some (.bool (stands h n), []) := by
  refine ev_ofC' hcf env37 ?_
  conv => arg 2; simp only [ir37]
  conv => arg 3; simp only [ir37, Go.Proofs.YtklanpanmndakaaEv.start, List.length, Nat.reduceAdd, Nat.reduceSub, List.reduceReplicate, List.append_eq, List.cons_append, List.nil_append]
  conv => arg 4; simp only [heapOf]
  try conv => arg 5; simp only [List.length, Nat.reduceAdd]
  try conv => arg 6; simp only [List.length, Nat.reduceAdd]
  unfold stands
  cases h0 : (h == 0) with
  | true =>
    refine EVgo2 (h0) trivial trivial trivial trivial ?_
    exact WQ.ret rfl
  | false =>
    by_cases h3 : 3 ≤ h
    · refine EVgo2 (And.intro (h0) (h3)) trivial trivial trivial trivial ?_
      exact WQ.ret (by simp only [h3, true_and, Bool.false_or]; rfl)
    · refine EVgo2 (And.intro (h0) (h3)) trivial trivial trivial trivial ?_
      exact WQ.ret (by simp only [h3, false_and, Bool.false_or, decide_false]; rfl)
theorem s12 (a b : Bool) (m : Tk) : cf 12 [tk a b m] [] = some (.bool (saneB m), []) := by
  obtain ⟨d, r, th, pl, h⟩ := m
  refine ev_ofC' hcf env12 ?_
  simp only [tk, saneB]
  conv => arg 2; simp only [ir12]
  conv => arg 3; simp only [ir12, Go.Proofs.YtklanpanmndakaaEv.start, List.length, Nat.reduceAdd, Nat.reduceSub, List.reduceReplicate, List.append_eq, List.cons_append, List.nil_append]
  conv => arg 4; simp only [heapOf]
  try conv => arg 5; simp only [List.length, Nat.reduceAdd]
  try conv => arg 6; simp only [List.length, Nat.reduceAdd]
  by_cases h1 : (d.length : Int) ≤ 64
  · by_cases h2 : (r.length : Int) ≤ 64
    · by_cases h3 : 0 ≤ addr th pl
      · refine EVgo2 (And.intro (h1) ( And.intro (h2) (h3))) (s20 hcf th pl) (s37 hcf h r.length) trivial trivial ?_
        exact WQ.ret (by simp only [h1, h2, h3, decide_true, Bool.true_and]; rfl)
      · refine EVgo2 (And.intro (h1) ( And.intro (h2) (h3))) (s20 hcf th pl) (s37 hcf h r.length) trivial trivial ?_
        exact WQ.ret (by simp only [h1, h2, h3, decide_true, decide_false, Bool.true_and, Bool.false_and]; rfl)
    · refine EVgo2 (And.intro (h1) (h2)) trivial trivial trivial trivial ?_
      exact WQ.ret (by simp only [h1, h2, decide_true, decide_false, Bool.true_and, Bool.false_and]; rfl)
  · refine EVgo2 (h1) trivial trivial trivial trivial ?_
    exact WQ.ret (by simp only [h1, decide_false, Bool.false_and]; rfl)
theorem s38 (a b : Bool) (m : Tk) (hs : saneB m = true) : cf 38 [tk a b m] [] = some (tk a b m, []) := by
  have h12 := s12 hcf a b m
  rw [hs] at h12
  refine ev_ofC' hcf env38 ?_
  unfold tk at h12 ⊢
  conv => arg 2; simp only [ir38]
  conv => arg 3; simp only [ir38, Go.Proofs.YtklanpanmndakaaEv.start, List.length, Nat.reduceAdd, Nat.reduceSub, List.reduceReplicate, List.append_eq, List.cons_append, List.nil_append]
  conv => arg 4; simp only [heapOf]
  try conv => arg 5; simp only [List.length, Nat.reduceAdd]
  try conv => arg 6; simp only [List.length, Nat.reduceAdd]
  refine EVgo2 trivial (h12) trivial trivial trivial ?_
  exact WQ.ret rfl
theorem s68 (n : Nat) (h : n ≤ 1000) : ∃ cs, cf 68 [.nil, .int .i64 n] [] = some (if n = 0 then (.nil, []) else (.own 0 1 0 0, [some (.row cs)])) := by
  refine ⟨(List.replicate n [PV.int .i64 0]).flatten, ?_⟩
  refine ev_ofC' hcf env68 ?_
  conv => arg 2; simp only [ir68]
  conv => arg 3; simp only [ir68, Go.Proofs.YtklanpanmndakaaEv.start, List.length, Nat.reduceAdd, Nat.reduceSub, List.reduceReplicate, List.append_eq, List.cons_append, List.nil_append]
  conv => arg 4; simp only [heapOf]
  try conv => arg 5; simp only [List.length, Nat.reduceAdd]
  try conv => arg 6; simp only [List.length, Nat.reduceAdd]
  have h1 : ¬ ((n : Int) < 0) := by omega
  have w0 : IntKind.i64.wrap 0 = 0 := by decide
  have hw : IntKind.i64.wrap ((n : Int) - 0) = n := by rw [i64_in _ (by omega)]; omega
  by_cases h0 : n = 0
  · subst h0
    refine EVgo2 trivial trivial trivial trivial trivial ?_
    exact WQ.ret rfl
  · have h2 : (n : Int) > 0 := by omega
    refine EVgo2 (And.intro (h1) ( And.intro (h2) ( And.intro (w0) (hw)))) trivial trivial trivial trivial ?_
    first | refine WO.step (k_appmk rfl rfl (by omega) (by omega) (by omega)) ?_ | refine WOc.step (k_appmk rfl rfl (by omega) (by omega) (by omega)) ?_
    conv => arg 2; simp only [setOpt, List.set, Nat.reduceLT, Int.reduceToNat, List.drop_drop, valT, List.getD_cons_zero, List.getD_cons_succ, Int.reduceLT, Int.reduceLE, Int.reduceAdd, Int.reduceSub, Int.reduceMul, Int.reduceNeg, Int.reduceEq, Int.reduceNe, Int.cast_ofNat_Int, Int.natCast_zero, Int.natCast_one, ge_iff_le, gt_iff_lt, decide_true, decide_false, Bool.not_true, Bool.not_false, Int.toNat_natCast, Nat.sub_zero, Nat.mul_one, Option.isSome_some, Option.isSome_none, Bool.false_eq_true, Bool.and_true, Bool.true_and, Bool.and_false, Bool.false_and, Nat.zero_add, Nat.zero_mul, List.drop_zero, reduceIte, setRange, PV.cells, fillB, List.take, List.drop, List.append_eq, List.cons_append, List.nil_append, List.length, List.map, List.zip, List.zipWith, List.replicate, List.flatten, Nat.reduceAdd, Nat.reduceMul, Nat.reduceSub, PV.mapId, mapIds, Option.map, Blk.mapId, sigN, sigS]
    try conv => arg 3; simp only [Nat.reduceLT, List.reduceReplicate, List.flatten_cons, List.flatten_nil, List.append_nil, Nat.reduceMul, Nat.mul_one, Nat.one_mul, Nat.zero_mul, Nat.zero_add, List.drop_zero, List.drop_succ_cons, List.drop_nil, List.take_succ_cons, List.take_zero, List.take_nil, List.drop_drop, setRange, PV.cells, valT, List.getD_cons_zero, List.getD_cons_succ, List.take, List.length, Nat.reduceAdd, List.nil_append, applyU, hset, hdel, Nat.reduceEqDiff, reduceIte, List.append_eq, List.cons_append, List.nil_append, frz, rowsOf, updsNew, updsAt, sigN, sigS, PV.mapId, mapIds, Option.map, Blk.mapId, List.drop, heapOf]
    conv => arg 5; simp only [stride, Nat.reduceAdd]
    refine EVgo2 (And.intro (h1) ( And.intro (h2) ( And.intro (w0) (hw)))) trivial trivial trivial trivial ?_
    rw [if_neg h0]
    exact WQ.ret rfl
end
end Go.Proofs.YtklanpanmndakaaR
