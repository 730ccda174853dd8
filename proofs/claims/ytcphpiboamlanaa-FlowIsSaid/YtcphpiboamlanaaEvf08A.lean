/- Evf08A: a part of the proof. -/
import Derived.Test.YtcphpiboamlanaaEvIr08
import Derived.Test.YtcphpiboamlanaaEv5
import Derived.IntWalk
open Go Go.Proofs.YtcphpiboamlanaaEv Go.Proofs.YtcphpiboamlanaaR Go.IntWalk
set_option maxRecDepth 20000
set_option maxHeartbeats 8000000
set_option linter.unusedVariables false
set_option linter.unusedSimpArgs false
namespace Go.Proofs.YtcphpiboamlanaaR
abbrev Pr := Int × Int
def encP (p : Pr) : List PV := [.int .i64 p.1, .int .i64 p.2]
def slP (l : List Pr) : PV := .sl l.length false (flat encP l)
theorem lenP (l : List Pr) : (flat encP l).length = l.length * 2 := flat_length (enc := encP) (es := 2) (fun _ => rfl) l
theorem snocP (l : List Pr) (x y : Int) : flat encP l ++ [PV.int .i64 x, .int .i64 y] = flat encP (l ++ [(x, y)]) := (flat_append l [(x, y)]).symm
theorem appP (l m : List Pr) : flat encP l ++ flat encP m = flat encP (l ++ m) := (flat_append l m).symm
theorem takeP (l : List Pr) (i : Nat) : (flat encP l).take (i * 2) = flat encP (l.take i) := flat_take (enc := encP) (es := 2) (fun _ => rfl) l i
theorem dropP (l : List Pr) (i : Nat) : (flat encP l).drop (i * 2) = flat encP (l.drop i) := flat_drop (enc := encP) (es := 2) (fun _ => rfl) l i
theorem allP (l : List Pr) : (flat encP l).take (l.length * 2) = flat encP l := List.take_of_length_le (by rw [lenP]; exact Nat.le_refl _)
theorem allPt (l t : List Pr) : (flat encP (l ++ t)).take (l.length * 2) = flat encP l := by rw [takeP, List.take_left]
theorem at_P {l : List Pr} {i : Nat} (hi : i < l.length) : (flat encP l).drop (i * 2) = .int .i64 (l.getD i (0, 0)).1 :: .int .i64 (l.getD i (0, 0)).2 :: flat encP (l.drop (i + 1)) := by
  have e0 := flat_at (enc := encP) (es := 2) (fun _ => rfl) hi
  rw [e0, List.getD_eq_getElem?_getD, List.getElem?_eq_getElem hi]
  rfl
structure Bd where
  c : List Pr
  m : List Pr
  o : List Pr
def bE (b : Bd) : PV := .agg [slP b.c, slP b.m, slP b.o]
/-- rows of one's own that are lent -/
def own2 (l r : List Pr) : PV := .sl l.length false (((flat encP r).drop 0).take (l.length * 2))
theorem own2_eq (l r : List Pr) (h : r.take l.length = l) : own2 l r = slP l := by
  unfold own2 slP
  rw [List.drop_zero, takeP, h]
def deep (m : List Pr) : Nat := m.countP (fun p => p.1 == 3)
def deepI (m : List Pr) (i : Nat) : Nat := deep (m.take i)
theorem deepI_succ {m : List Pr} {i : Nat} (hi : i < m.length) : deepI m (i + 1) = deepI m i + (if (m.getD i (0, 0)).1 = 3 then 1 else 0) := by
  unfold deepI deep
  rw [List.getD_eq_getElem?_getD, List.getElem?_eq_getElem hi, Option.getD_some, List.take_succ_eq_append_getElem hi, List.countP_append]
  simp only [List.countP_cons, List.countP_nil, beq_iff_eq, Nat.zero_add]
theorem deep_le (m : List Pr) : deep m ≤ m.length := List.countP_le_length
section
variable {cf : CF} {E : Env} (hcf : cf = ev E) (hE : ∀ n, n ≠ 26 → E n = env n)
include hcf hE
theorem s34 (x0 x2 : PV) (m : List Pr) (hm : m.length ≤ 100000000) : cf 34 [.rop [x0, slP m, x2]] [] = some (.int .i64 (deep m : Nat), []) := by
  refine ev_ofC' hcf ((hE 34 (by decide)).trans env34) ?_
  simp only [slP]
  conv => arg 2; simp only [ir34]
  conv => arg 3; simp only [ir34, Go.Proofs.YtcphpiboamlanaaEv.start, List.length, Nat.reduceAdd, Nat.reduceSub, List.reduceReplicate, List.append_eq, List.cons_append, List.nil_append]
  conv => arg 4; simp only [heapOf]
  try conv => arg 5; simp only [List.length, Nat.reduceAdd]
  try conv => arg 6; simp only [List.length, Nat.reduceAdd]
  refine EVgo9 trivial trivial trivial trivial trivial trivial trivial trivial trivial trivial trivial trivial ?_
  refine WC.loop (T' := _) (H' := _) (n' := _) rfl ((?_ : ∀ (k i : Nat), i + k = m.length →
    WC cf _ (mkT 22 [(3, .int .i64 (deepI m i : Nat)), (9, .sl m.length false (flat encP m)), (10, .int .i64 (m.length : Nat)), (11, .int .i64 (i : Nat))]) [] 0 0 _) m.length 0 (by omega))
  intro k
  induction k with
  | zero =>
    intro i hi
    obtain rfl : i = m.length := by omega
    have hd : deepI m m.length = deep m := by unfold deepI; rw [List.take_length]
    rw [hd]
    conv => arg 3; simp only [mkT, putT, List.reduceReplicate, List.set]
    refine EVgl9 trivial trivial trivial trivial trivial trivial trivial trivial trivial trivial trivial trivial ?_
    exact WQ.ret rfl
  | succ k ih =>
    intro i hi
    have hlt' : i < m.length := by omega
    have hlt : (i : Int) < (m.length : Int) := by omega
    have hdl : deepI m i ≤ i := by
      unfold deepI
      exact Nat.le_trans (deep_le _) (by rw [List.length_take]; omega)
    have hw : IntKind.i64.wrap ((i : Int) + 1) = ((i + 1 : Nat) : Int) := by rw [i64_in _ (by omega)]; simp
    have hw2 : IntKind.i64.wrap ((deepI m i : Int) + 1) = ((deepI m i + 1 : Nat) : Int) := by rw [i64_in _ (by omega)]; simp
    have e0 := at_P hlt'
    have hs := deepI_succ hlt'
    have hih := ih (i + 1) (by omega)
    by_cases h3 : (m.getD i (0, 0)).1 = 3
    · rw [if_pos h3] at hs
      rw [hs] at hih
      have h3' : ((m.getD i (0, 0)).1 == 3) = true := beq_iff_eq.2 h3
      conv => arg 3; simp only [mkT, putT, List.reduceReplicate, List.set]
      refine EVgo9 (And.intro (hlt) ( And.intro (hw) ( And.intro (hw2) ( And.intro (e0) (h3'))))) trivial trivial trivial trivial trivial trivial trivial trivial trivial trivial trivial ?_
      exact WC.loop rfl hih
    · rw [if_neg h3, Nat.add_zero] at hs
      rw [hs] at hih
      have h3' : ((m.getD i (0, 0)).1 == 3) = false := beq_eq_false_iff_ne.2 h3
      conv => arg 3; simp only [mkT, putT, List.reduceReplicate, List.set]
      refine EVgo9 (And.intro (hlt) ( And.intro (hw) ( And.intro (hw2) ( And.intro (e0) (h3'))))) trivial trivial trivial trivial trivial trivial trivial trivial trivial trivial trivial ?_
      exact WC.loop rfl hih
def badM (n : Nat) (p : Pr) : Bool := decide (p.1 < 1) || (decide (p.1 > 3) || (decide (p.2 < 0) || (decide (p.2 > (n : Int)) || (p.1 == 1 && p.2 == (n : Int)))))
theorem s32 (p : Pr) (n : Nat) : cf 32 [.agg (encP p), .rop [.int .i64 n]] [] = some (.bool (badM n p), []) := by
  obtain ⟨a, b⟩ := p
  refine ev_ofC' hcf ((hE 32 (by decide)).trans env32) ?_
  simp only [encP, badM]
  conv => arg 2; simp only [ir32]
  conv => arg 3; simp only [ir32, Go.Proofs.YtcphpiboamlanaaEv.start, List.length, Nat.reduceAdd, Nat.reduceSub, List.reduceReplicate, List.append_eq, List.cons_append, List.nil_append]
  conv => arg 4; simp only [heapOf]
  try conv => arg 5; simp only [List.length, Nat.reduceAdd]
  try conv => arg 6; simp only [List.length, Nat.reduceAdd]
  by_cases h1 : a < 1
  · simp only [h1, decide_true, Bool.true_or]
    refine EVgo9 (h1) trivial trivial trivial trivial trivial trivial trivial trivial trivial trivial trivial ?_
    exact WQ.ret rfl
  by_cases h2 : a > 3
  · simp only [h1, h2, decide_true, decide_false, Bool.true_or, Bool.false_or]
    refine EVgo9 (And.intro (h1) (h2)) trivial trivial trivial trivial trivial trivial trivial trivial trivial trivial trivial ?_
    exact WQ.ret rfl
  by_cases h3 : b < 0
  · simp only [h1, h2, h3, decide_true, decide_false, Bool.true_or, Bool.false_or]
    refine EVgo9 (And.intro (h1) ( And.intro (h2) (h3))) trivial trivial trivial trivial trivial trivial trivial trivial trivial trivial trivial ?_
    exact WQ.ret rfl
  by_cases h4 : b > (n : Int)
  · simp only [h1, h2, h3, h4, decide_true, decide_false, Bool.true_or, Bool.false_or]
    refine EVgo9 (And.intro (h1) ( And.intro (h2) ( And.intro (h3) (h4)))) trivial trivial trivial trivial trivial trivial trivial trivial trivial trivial trivial ?_
    exact WQ.ret rfl
  simp only [h1, h2, h3, h4, decide_true, decide_false, Bool.true_or, Bool.false_or]
  cases h5 : (a == 1) with
  | true =>
    rw [Bool.true_and]
    refine EVgo9 (And.intro (h1) ( And.intro (h2) ( And.intro (h3) ( And.intro (h4) (h5))))) trivial trivial trivial trivial trivial trivial trivial trivial trivial trivial trivial ?_
    exact WQ.ret rfl
  | false =>
    rw [Bool.false_and]
    refine EVgo9 (And.intro (h1) ( And.intro (h2) ( And.intro (h3) ( And.intro (h4) (h5))))) trivial trivial trivial trivial trivial trivial trivial trivial trivial trivial trivial ?_
    exact WQ.ret rfl
def outM (d n : Nat) (p : Pr) : Bool := decide (p.1 < 1) || (decide (p.1 > (d : Int)) || (decide (p.2 < 0) || decide ((n : Int) ≤ p.2)))
theorem s33 (p : Pr) (b : Bd) (hm : b.m.length ≤ 100000000) (n : Nat) : cf 33 [.agg (encP p), .rop [slP b.c, slP b.m, slP b.o], .rop [.int .i64 n]] [] = some (.bool (outM (deep b.m) n p), []) := by
  obtain ⟨x, y⟩ := p
  have h34 := s34 hcf hE (slP b.c) (slP b.o) b.m hm
  refine ev_ofC' hcf ((hE 33 (by decide)).trans env33) ?_
  simp only [encP, outM]
  conv => arg 2; simp only [ir33]
  conv => arg 3; simp only [ir33, Go.Proofs.YtcphpiboamlanaaEv.start, List.length, Nat.reduceAdd, Nat.reduceSub, List.reduceReplicate, List.append_eq, List.cons_append, List.nil_append]
  conv => arg 4; simp only [heapOf]
  try conv => arg 5; simp only [List.length, Nat.reduceAdd]
  try conv => arg 6; simp only [List.length, Nat.reduceAdd]
  by_cases h1 : x < 1
  · simp only [h1, decide_true, Bool.true_or]
    refine EVgo9 (h1) trivial trivial trivial trivial trivial trivial trivial trivial trivial trivial trivial ?_
    exact WQ.ret rfl
  by_cases h2 : x > (deep b.m : Int)
  · simp only [h1, h2, decide_true, decide_false, Bool.true_or, Bool.false_or]
    refine EVgo9 (And.intro (h1) (h2)) (h34) trivial trivial trivial trivial trivial trivial trivial trivial trivial trivial ?_
    exact WQ.ret rfl
  by_cases h3 : y < 0
  · simp only [h1, h2, h3, decide_true, decide_false, Bool.true_or, Bool.false_or]
    refine EVgo9 (And.intro (h1) ( And.intro (h2) (h3))) (h34) trivial trivial trivial trivial trivial trivial trivial trivial trivial trivial ?_
    exact WQ.ret rfl
  by_cases h4 : (n : Int) ≤ y
  · simp only [h1, h2, h3, h4, decide_true, decide_false, Bool.true_or, Bool.false_or]
    refine EVgo9 (And.intro (h1) ( And.intro (h2) ( And.intro (h3) (h4)))) (h34) trivial trivial trivial trivial trivial trivial trivial trivial trivial trivial ?_
    exact WQ.ret rfl
  · simp only [h1, h2, h3, h4, decide_true, decide_false, Bool.true_or, Bool.false_or]
    refine EVgo9 (And.intro (h1) ( And.intro (h2) ( And.intro (h3) (h4)))) (h34) trivial trivial trivial trivial trivial trivial trivial trivial trivial trivial ?_
    exact WQ.ret rfl
end
end Go.Proofs.YtcphpiboamlanaaR
