/- Evr13A: a part of the proof. -/
import Derived.Test.YtklanpanmndakaaEvIr13
import Derived.Test.YtklanpanmndakaaEv5
import Derived.IntWalk
open Go Go.Proofs.YtklanpanmndakaaEv Go.Proofs.YtklanpanmndakaaR Go.IntWalk
set_option maxRecDepth 20000
set_option maxHeartbeats 8000000
set_option linter.unusedVariables false
set_option linter.unusedSimpArgs false
namespace Go.Proofs.YtklanpanmndakaaR
def encI (n : Int) : List PV := [.int .i64 n]
def slI (l : List Int) : PV := .sl l.length false (flat encI l)
theorem lenI (l : List Int) : (flat encI l).length = l.length := (flat_length (enc := encI) (es := 1) (fun _ => rfl) l).trans (Nat.mul_one _)
theorem snocI (l : List Int) (x : Int) : flat encI l ++ [PV.int .i64 x] = flat encI (l ++ [x]) := (flat_append l [x]).symm
theorem appI (l m : List Int) : flat encI l ++ flat encI m = flat encI (l ++ m) := (flat_append l m).symm
theorem allI (l : List Int) : (flat encI l).take l.length = flat encI l := List.take_of_length_le (by rw [lenI]; omega)
theorem takeI (l : List Int) (i : Nat) : (flat encI l).take i = flat encI (l.take i) := by
  have := flat_take (enc := encI) (es := 1) (fun _ => rfl) l i
  rwa [Nat.mul_one] at this
theorem dropI (l : List Int) (i : Nat) : (flat encI l).drop i = flat encI (l.drop i) := by
  have := flat_drop (enc := encI) (es := 1) (fun _ => rfl) l i
  rwa [Nat.mul_one] at this
structure Tk where
  d : List Int
  r : List Int
  th : Int
  pl : Int
  h : Int
def tkE (m : Tk) : PV := .agg [slI m.d, slI m.r, .int .i64 m.th, .int .i64 m.pl, .int .i64 m.h]
def addr (th pl : Int) : Int := if 0 ≤ th ∧ th ≤ 1000000 then (if 0 ≤ pl ∧ pl ≤ 4095 then th * 4096 + pl else -1) else -1
def stands (h n : Int) : Bool := h == 0 || decide (3 ≤ h ∧ h ≤ n)
structure Sn (m : Tk) : Prop where
  d : m.d.length ≤ 64
  r : m.r.length ≤ 64
  th : 0 ≤ m.th ∧ m.th ≤ 1000000
  pl : 0 ≤ m.pl ∧ m.pl ≤ 4095
  h : m.h = 0 ∨ 3 ≤ m.h ∧ m.h ≤ m.r.length
def saneB (m : Tk) : Bool := decide ((m.d.length : Int) ≤ 64) && (decide ((m.r.length : Int) ≤ 64) && (decide (0 ≤ addr m.th m.pl) && stands m.h m.r.length))
theorem stands_iff (h n : Int) : stands h n = true ↔ h = 0 ∨ 3 ≤ h ∧ h ≤ n := by
  simp only [stands, Bool.or_eq_true, beq_iff_eq, decide_eq_true_eq]
theorem addr_iff (a b : Int) : 0 ≤ addr a b ↔ (0 ≤ a ∧ a ≤ 1000000) ∧ 0 ≤ b ∧ b ≤ 4095 := by
  unfold addr
  split
  · split <;> omega
  · omega
theorem sane_iff (m : Tk) : saneB m = true ↔ Sn m := by
  simp only [saneB, Bool.and_eq_true, decide_eq_true_eq, stands_iff, addr_iff]
  constructor
  · rintro ⟨h1, h2, ⟨h3, h4⟩, h5⟩
    exact ⟨by omega, by omega, h3, h4, h5⟩
  · rintro ⟨h1, h2, h3, h4, h5⟩
    exact ⟨by omega, by omega, ⟨h3, h4⟩, h5⟩
/-- a place's number, the other way: thread, place, is there one -/
def okAt (n : Int) : Bool := decide (0 ≤ n ∧ n ≤ 4096004095)
def thAt (n : Int) : Int := if 0 ≤ n ∧ n ≤ 4096004095 then n / 4096 else 0
def plAt (n : Int) : Int := if 0 ≤ n ∧ n ≤ 4096004095 then n % 4096 else 0
def atE (n : Int) : PV := .tup [.agg [.int .i64 (thAt n), .int .i64 (plAt n)], .bool (okAt n)]
section
variable {cf : CF} (hcf : cf = ev env)
include hcf
theorem s42 (n m : Int) : Sp cf 42 [.int .i64 n, .int .i64 m] (.bool (decide (0 ≤ n ∧ n ≤ m))) := by
  refine sp_of hcf env42 ?_
  conv => arg 2; simp only [ir42]
  conv => arg 3; simp only [ir42, Go.Proofs.YtklanpanmndakaaEv.start, List.length, Nat.reduceAdd, Nat.reduceSub, List.reduceReplicate, List.append_eq, List.cons_append, List.nil_append]
  conv => arg 4; simp only [heapOf]
  try conv => arg 5; simp only [List.length, Nat.reduceAdd]
  try conv => arg 6; simp only [List.length, Nat.reduceAdd]
  by_cases h : 0 ≤ n
  · simp only [h, true_and]
    refine EVgo2 (h) trivial trivial trivial trivial ?_
    exact EVret trivial
  · simp only [h, false_and, decide_false]
    refine EVgo2 (h) trivial trivial trivial trivial ?_
    exact EVret trivial
omit hcf in
theorem w4096 (a b : Int) (h : 0 ≤ a ∧ a ≤ 1000000) (k : 0 ≤ b ∧ b ≤ 4095) : IntKind.i64.wrap (IntKind.i64.wrap (a * 4096) + b) = a * 4096 + b := by
  rw [i64_in (a * 4096) (by omega), i64_in _ (by omega)]
theorem s20 (a b : Int) : Sp cf 20 [.agg [.int .i64 a, .int .i64 b]] (.int .i64 (addr a b)) := by
  refine sp_of hcf env20 ?_
  conv => arg 2; simp only [ir20]
  conv => arg 3; simp only [ir20, Go.Proofs.YtklanpanmndakaaEv.start, List.length, Nat.reduceAdd, Nat.reduceSub, List.reduceReplicate, List.append_eq, List.cons_append, List.nil_append]
  conv => arg 4; simp only [heapOf]
  try conv => arg 5; simp only [List.length, Nat.reduceAdd]
  try conv => arg 6; simp only [List.length, Nat.reduceAdd]
  unfold addr
  by_cases h : 0 ≤ a ∧ a ≤ 1000000
  · have h' : decide (0 ≤ a ∧ a ≤ 1000000) = true := decide_eq_true h
    rw [if_pos h]
    by_cases k : 0 ≤ b ∧ b ≤ 4095
    · have k' : decide (0 ≤ b ∧ b ≤ 4095) = true := decide_eq_true k
      rw [if_pos k]
      refine EVgo2 (And.intro (h') ( And.intro (k') (w4096 a b h k))) (s42 hcf a 1000000) (s42 hcf b 4095) trivial trivial ?_
      exact EVret trivial
    · have k' : decide (0 ≤ b ∧ b ≤ 4095) = false := decide_eq_false k
      rw [if_neg k]
      refine EVgo2 (And.intro (h') (k')) (s42 hcf a 1000000) (s42 hcf b 4095) trivial trivial ?_
      exact EVret trivial
  · have h' : decide (0 ≤ a ∧ a ≤ 1000000) = false := decide_eq_false h
    rw [if_neg h]
    refine EVgo2 (h') (s42 hcf a 1000000) (s42 hcf b 4095) trivial trivial ?_
    exact EVret trivial
theorem s50 (a b : Int) : Sp cf 50 [.agg [.int .i64 a, .int .i64 b]] (.int .i64 (addr a b)) := by
  refine sp_of hcf env50 ?_
  conv => arg 2; simp only [ir50]
  conv => arg 3; simp only [ir50, Go.Proofs.YtklanpanmndakaaEv.start, List.length, Nat.reduceAdd, Nat.reduceSub, List.reduceReplicate, List.append_eq, List.cons_append, List.nil_append]
  conv => arg 4; simp only [heapOf]
  try conv => arg 5; simp only [List.length, Nat.reduceAdd]
  try conv => arg 6; simp only [List.length, Nat.reduceAdd]
  unfold addr
  by_cases h1 : a < 0
  · rw [if_neg (by omega)]
    refine EVgo2 (h1) trivial trivial trivial trivial ?_
    exact EVret trivial
  by_cases h2 : a > 1000000
  · rw [if_neg (by omega)]
    refine EVgo2 (And.intro (h1) (h2)) trivial trivial trivial trivial ?_
    exact EVret trivial
  rw [if_pos (by omega)]
  by_cases h3 : b < 0
  · rw [if_neg (by omega)]
    refine EVgo2 (And.intro (h1) ( And.intro (h2) (h3))) trivial trivial trivial trivial ?_
    exact EVret trivial
  by_cases h4 : 4096 ≤ b
  · rw [if_neg (by omega)]
    refine EVgo2 (And.intro (h1) ( And.intro (h2) ( And.intro (h3) (h4)))) trivial trivial trivial trivial ?_
    exact EVret trivial
  rw [if_pos (by omega)]
  refine EVgo2 (And.intro (h1) ( And.intro (h2) ( And.intro (h3) ( And.intro (h4) (w4096 a b (by omega) (by omega)))))) trivial trivial trivial trivial ?_
  exact EVret trivial
omit hcf in
theorem q4096 (n : Int) (h : 0 ≤ n ∧ n ≤ 9223372036854775807) : IntKind.i64.wrap (n.tdiv 4096) = n / 4096 := by
  rw [i64_quo _ _ (by omega)]
omit hcf in
theorem r4096 (n : Int) (h : 0 ≤ n) : n.tmod 4096 = n % 4096 := Int.tmod_eq_emod_of_nonneg h
theorem s15 (n : Int) (h : n ≤ 9223372036854775807) : Sp cf 15 [.int .i64 n] (atE n) := by
  refine sp_of hcf env15 ?_
  conv => arg 2; simp only [ir15]
  conv => arg 3; simp only [ir15, Go.Proofs.YtklanpanmndakaaEv.start, List.length, Nat.reduceAdd, Nat.reduceSub, List.reduceReplicate, List.append_eq, List.cons_append, List.nil_append]
  conv => arg 4; simp only [heapOf]
  try conv => arg 5; simp only [List.length, Nat.reduceAdd]
  try conv => arg 6; simp only [List.length, Nat.reduceAdd]
  by_cases h1 : n < 0
  · simp only [atE, thAt, plAt, okAt, if_neg (show ¬ (0 ≤ n ∧ n ≤ 4096004095) by omega), decide_eq_false (show ¬ (0 ≤ n ∧ n ≤ 4096004095) by omega)]
    refine EVgo2 (h1) trivial trivial trivial trivial ?_
    exact EVret trivial
  by_cases h2 : n / 4096 > 1000000
  · simp only [atE, thAt, plAt, okAt, if_neg (show ¬ (0 ≤ n ∧ n ≤ 4096004095) by omega), decide_eq_false (show ¬ (0 ≤ n ∧ n ≤ 4096004095) by omega)]
    refine EVgo2 (And.intro (q4096 n (by omega)) ( And.intro (r4096 n (by omega)) ( And.intro (h1) (h2)))) trivial trivial trivial trivial ?_
    exact EVret trivial
  · simp only [atE, thAt, plAt, okAt, if_pos (show (0 ≤ n ∧ n ≤ 4096004095) by omega), decide_eq_true (show (0 ≤ n ∧ n ≤ 4096004095) by omega)]
    refine EVgo2 (And.intro (q4096 n (by omega)) ( And.intro (r4096 n (by omega)) ( And.intro (h1) (h2)))) trivial trivial trivial trivial ?_
    exact EVret trivial
theorem s48 (n : Int) (h : n ≤ 9223372036854775807) : Sp cf 48 [.int .i64 n] (atE n) := by
  refine sp_of hcf env48 ?_
  conv => arg 2; simp only [ir48]
  conv => arg 3; simp only [ir48, Go.Proofs.YtklanpanmndakaaEv.start, List.length, Nat.reduceAdd, Nat.reduceSub, List.reduceReplicate, List.append_eq, List.cons_append, List.nil_append]
  conv => arg 4; simp only [heapOf]
  try conv => arg 5; simp only [List.length, Nat.reduceAdd]
  try conv => arg 6; simp only [List.length, Nat.reduceAdd]
  by_cases h1 : n < 0
  · simp only [atE, thAt, plAt, okAt, if_neg (show ¬ (0 ≤ n ∧ n ≤ 4096004095) by omega), decide_eq_false (show ¬ (0 ≤ n ∧ n ≤ 4096004095) by omega)]
    refine EVgo2 (h1) trivial trivial trivial trivial ?_
    exact EVret trivial
  by_cases h2 : n / 4096 > 1000000
  · simp only [atE, thAt, plAt, okAt, if_neg (show ¬ (0 ≤ n ∧ n ≤ 4096004095) by omega), decide_eq_false (show ¬ (0 ≤ n ∧ n ≤ 4096004095) by omega)]
    refine EVgo2 (And.intro (q4096 n (by omega)) ( And.intro (h1) (h2))) trivial trivial trivial trivial ?_
    exact EVret trivial
  · simp only [atE, thAt, plAt, okAt, if_pos (show (0 ≤ n ∧ n ≤ 4096004095) by omega), decide_eq_true (show (0 ≤ n ∧ n ≤ 4096004095) by omega)]
    refine EVgo2 (And.intro (q4096 n (by omega)) ( And.intro (r4096 n (by omega)) ( And.intro (h1) (h2)))) trivial trivial trivial trivial ?_
    exact EVret trivial
theorem s37 (h n : Int) : Sp cf 37 [.int .i64 h, .int .i64 n] (.bool (stands h n)) := by
  refine sp_of hcf env37 ?_
  conv => arg 2; simp only [ir37]
  conv => arg 3; simp only [ir37, Go.Proofs.YtklanpanmndakaaEv.start, List.length, Nat.reduceAdd, Nat.reduceSub, List.reduceReplicate, List.append_eq, List.cons_append, List.nil_append]
  conv => arg 4; simp only [heapOf]
  try conv => arg 5; simp only [List.length, Nat.reduceAdd]
  try conv => arg 6; simp only [List.length, Nat.reduceAdd]
  unfold stands
  cases h0 : (h == 0) with
  | true =>
    refine EVgo2 (h0) trivial trivial trivial trivial ?_
    exact EVret trivial
  | false =>
    by_cases h3 : 3 ≤ h
    · simp only [h3, true_and, Bool.false_or]
      refine EVgo2 (And.intro (h0) (h3)) trivial trivial trivial trivial ?_
      exact EVret trivial
    · simp only [h3, false_and, Bool.false_or, decide_false]
      refine EVgo2 (And.intro (h0) (h3)) trivial trivial trivial trivial ?_
      exact EVret trivial
theorem s51 (h n : Int) : Sp cf 51 [.int .i64 h, .int .i64 n] (.bool (stands h n)) := by
  refine sp_of hcf env51 ?_
  conv => arg 2; simp only [ir51]
  conv => arg 3; simp only [ir51, Go.Proofs.YtklanpanmndakaaEv.start, List.length, Nat.reduceAdd, Nat.reduceSub, List.reduceReplicate, List.append_eq, List.cons_append, List.nil_append]
  conv => arg 4; simp only [heapOf]
  try conv => arg 5; simp only [List.length, Nat.reduceAdd]
  try conv => arg 6; simp only [List.length, Nat.reduceAdd]
  unfold stands
  cases h0 : (h == 0) with
  | true =>
    refine EVgo2 (h0) trivial trivial trivial trivial ?_
    exact EVret trivial
  | false =>
    by_cases h3 : 3 ≤ h
    · simp only [h3, true_and, Bool.false_or]
      refine EVgo2 (And.intro (h0) (h3)) trivial trivial trivial trivial ?_
      exact EVret trivial
    · simp only [h3, false_and, Bool.false_or, decide_false]
      refine EVgo2 (And.intro (h0) (h3)) trivial trivial trivial trivial ?_
      exact EVret trivial
theorem s12 (m : Tk) : Sp cf 12 [tkE m] (.bool (saneB m)) := by
  obtain ⟨d, r, th, pl, h⟩ := m
  refine sp_of hcf env12 ?_
  simp only [tkE, slI, saneB]
  conv => arg 2; simp only [ir12]
  conv => arg 3; simp only [ir12, Go.Proofs.YtklanpanmndakaaEv.start, List.length, Nat.reduceAdd, Nat.reduceSub, List.reduceReplicate, List.append_eq, List.cons_append, List.nil_append]
  conv => arg 4; simp only [heapOf]
  try conv => arg 5; simp only [List.length, Nat.reduceAdd]
  try conv => arg 6; simp only [List.length, Nat.reduceAdd]
  by_cases h1 : (d.length : Int) ≤ 64
  · by_cases h2 : (r.length : Int) ≤ 64
    · by_cases h3 : 0 ≤ addr th pl
      · simp only [h1, h2, h3, decide_true, Bool.true_and]
        refine EVgo2 (And.intro (h1) ( And.intro (h2) (h3))) (s20 hcf th pl) (s37 hcf h r.length) trivial trivial ?_
        exact EVret trivial
      · simp only [h1, h2, h3, decide_true, decide_false, Bool.true_and, Bool.false_and]
        refine EVgo2 (And.intro (h1) ( And.intro (h2) (h3))) (s20 hcf th pl) (s37 hcf h r.length) trivial trivial ?_
        exact EVret trivial
    · simp only [h1, h2, decide_true, decide_false, Bool.true_and, Bool.false_and]
      refine EVgo2 (And.intro (h1) (h2)) trivial trivial trivial trivial ?_
      exact EVret trivial
  · simp only [h1, decide_false, Bool.false_and]
    refine EVgo2 (h1) trivial trivial trivial trivial ?_
    exact EVret trivial
theorem s31 (m : Tk) : Sp cf 31 [tkE m] (.bool (saneB m)) := by
  obtain ⟨d, r, th, pl, h⟩ := m
  refine sp_of hcf env31 ?_
  simp only [tkE, slI, saneB]
  conv => arg 2; simp only [ir31]
  conv => arg 3; simp only [ir31, Go.Proofs.YtklanpanmndakaaEv.start, List.length, Nat.reduceAdd, Nat.reduceSub, List.reduceReplicate, List.append_eq, List.cons_append, List.nil_append]
  conv => arg 4; simp only [heapOf]
  try conv => arg 5; simp only [List.length, Nat.reduceAdd]
  try conv => arg 6; simp only [List.length, Nat.reduceAdd]
  by_cases h1 : (d.length : Int) ≤ 64
  · by_cases h2 : (r.length : Int) ≤ 64
    · by_cases h3 : 0 ≤ addr th pl
      · simp only [h1, h2, h3, decide_true, Bool.true_and]
        refine EVgo2 (And.intro (h1) ( And.intro (h2) (h3))) (s50 hcf th pl) (s51 hcf h r.length) trivial trivial ?_
        exact EVret trivial
      · simp only [h1, h2, h3, decide_true, decide_false, Bool.true_and, Bool.false_and]
        refine EVgo2 (And.intro (h1) ( And.intro (h2) (h3))) (s50 hcf th pl) (s51 hcf h r.length) trivial trivial ?_
        exact EVret trivial
    · simp only [h1, h2, decide_true, decide_false, Bool.true_and, Bool.false_and]
      refine EVgo2 (And.intro (h1) (h2)) trivial trivial trivial trivial ?_
      exact EVret trivial
  · simp only [h1, decide_false, Bool.false_and]
    refine EVgo2 (h1) trivial trivial trivial trivial ?_
    exact EVret trivial
def new0 : Tk := ⟨[], [-2], 0, 0, 0⟩
def saneT (m : Tk) : Tk := if saneB m = true then m else new0
theorem s27 (th pl : Int) : Sp cf 27 [.agg [.int .i64 th, .int .i64 pl]] (tkE ⟨[], [-2], th, pl, 0⟩) := by
  refine sp_of hcf env27 ?_
  conv => arg 2; simp only [ir27]
  conv => arg 3; simp only [ir27, Go.Proofs.YtklanpanmndakaaEv.start, List.length, Nat.reduceAdd, Nat.reduceSub, List.reduceReplicate, List.append_eq, List.cons_append, List.nil_append]
  conv => arg 4; simp only [heapOf]
  try conv => arg 5; simp only [List.length, Nat.reduceAdd]
  try conv => arg 6; simp only [List.length, Nat.reduceAdd]
  refine EVgo2 trivial trivial trivial trivial trivial ?_
  exact EVret trivial
theorem s64 (th pl : Int) : Sp cf 64 [.agg [.int .i64 th, .int .i64 pl]] (tkE ⟨[], [-2], th, pl, 0⟩) := by
  refine sp_of hcf env64 ?_
  conv => arg 2; simp only [ir64]
  conv => arg 3; simp only [ir64, Go.Proofs.YtklanpanmndakaaEv.start, List.length, Nat.reduceAdd, Nat.reduceSub, List.reduceReplicate, List.append_eq, List.cons_append, List.nil_append]
  conv => arg 4; simp only [heapOf]
  try conv => arg 5; simp only [List.length, Nat.reduceAdd]
  try conv => arg 6; simp only [List.length, Nat.reduceAdd]
  refine EVgo2 trivial trivial trivial trivial trivial ?_
  exact EVret trivial
theorem s38 (m : Tk) : Sp cf 38 [tkE m] (tkE (saneT m)) := by
  have h12 := s12 hcf m
  have h27 := s27 hcf 0 0
  refine sp_of hcf env38 ?_
  conv => arg 2; simp only [ir38]
  conv => arg 3; simp only [ir38, Go.Proofs.YtklanpanmndakaaEv.start, List.length, Nat.reduceAdd, Nat.reduceSub, List.reduceReplicate, List.append_eq, List.cons_append, List.nil_append]
  conv => arg 4; simp only [heapOf]
  try conv => arg 5; simp only [List.length, Nat.reduceAdd]
  try conv => arg 6; simp only [List.length, Nat.reduceAdd]
  unfold saneT
  cases hs : saneB m with
  | true =>
    refine EVgo2 (hs) (h12) trivial trivial trivial ?_
    rw [if_pos rfl]
    exact EVret trivial
  | false =>
    refine EVgo2 (hs) (h12) (h27) trivial trivial ?_
    rw [if_neg (by simp)]
    exact EVret trivial
theorem s47 (m : Tk) : Sp cf 47 [tkE m] (tkE (saneT m)) := by
  have h12 := s31 hcf m
  have h27 := s64 hcf 0 0
  refine sp_of hcf env47 ?_
  conv => arg 2; simp only [ir47]
  conv => arg 3; simp only [ir47, Go.Proofs.YtklanpanmndakaaEv.start, List.length, Nat.reduceAdd, Nat.reduceSub, List.reduceReplicate, List.append_eq, List.cons_append, List.nil_append]
  conv => arg 4; simp only [heapOf]
  try conv => arg 5; simp only [List.length, Nat.reduceAdd]
  try conv => arg 6; simp only [List.length, Nat.reduceAdd]
  unfold saneT
  cases hs : saneB m with
  | true =>
    refine EVgo2 (hs) (h12) trivial trivial trivial ?_
    rw [if_pos rfl]
    exact EVret trivial
  | false =>
    refine EVgo2 (hs) (h12) (h27) trivial trivial ?_
    rw [if_neg (by simp)]
    exact EVret trivial
end
end Go.Proofs.YtklanpanmndakaaR
