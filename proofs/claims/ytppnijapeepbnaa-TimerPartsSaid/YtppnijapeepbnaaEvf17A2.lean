/- Evf17A2: a part of the proof. -/
import Derived.Test.YtppnijapeepbnaaEvf17A0
open Go Go.Proofs.YtppnijapeepbnaaEv Go.Proofs.YtppnijapeepbnaaR Go.IntWalk
set_option maxRecDepth 20000
set_option maxHeartbeats 8000000
set_option linter.unusedVariables false
set_option linter.unusedSimpArgs false
namespace Go.Proofs.YtppnijapeepbnaaR
abbrev Np := Int × Int
def encN (x : Np) : List PV := [.int .i64 x.1, .int .i64 x.2]
def slN (l : List Np) : PV := .sl l.length false (flat encN l)
theorem lenN (l : List Np) : (flat encN l).length = l.length * 2 := flat_length (enc := encN) (es := 2) (fun _ => rfl) l
theorem allN (l : List Np) : (flat encN l).take (l.length * 2) = flat encN l := List.take_of_length_le (by rw [lenN]; exact Nat.le_refl _)
theorem snocN (l : List Np) (x y : Int) : flat encN l ++ [PV.int .i64 x, .int .i64 y] = flat encN (l ++ [(x, y)]) := (flat_append l [(x, y)]).symm
theorem mid_N {m p r : List Np} {x y : Int} (h : p ++ (x, y) :: r = m) : (flat encN m).drop (p.length * 2) = .int .i64 x :: .int .i64 y :: flat encN r := by
  subst h
  rw [flat_drop (enc := encN) (es := 2) (fun _ => rfl), List.drop_left]
  rfl
theorem at_N {l : List Np} {i : Nat} (hi : i < l.length) : (flat encN l).drop (i * 2) = .int .i64 (l.getD i (0, 0)).1 :: .int .i64 (l.getD i (0, 0)).2 :: flat encN (l.drop (i + 1)) := by
  have e0 := flat_at (enc := encN) (es := 2) (fun _ => rfl) hi
  rw [e0, List.getD_eq_getElem?_getD, List.getElem?_eq_getElem hi]
  rfl
theorem snoc_len {α : Type} (p : List α) (x : α) : (p ++ [x]).length = p.length + 1 := by simp
def withinB (n m : Int) : Bool := decide (0 ≤ n) && decide (n ≤ m)
def mayB (x : Np) : Bool := withinB x.1 7 && withinB x.2 1125899906842624
def cmpI (a b : Int) : Int := if a < b then -1 else if b < a then 1 else 0
def hasN (q : List Np) (i : Int) : Bool := q.any fun y => i == y.1
def okN (q : List Np) : List Np → Bool
  | [] => true
  | x :: r => mayB x && (!hasN q x.1 && okN (q ++ [x]) r)
def sortB : List Np → Bool
  | x :: y :: r => !decide (y.2 < x.2) && sortB (y :: r)
  | _ => true
def saneB (l : List Np) : Bool := okN [] l && sortB l
def saneL (l : List Np) : List Np := if saneB l = true then l else []
theorem sortB_bad {l r : List Np} {x y : Np} (h : y.2 < x.2) : sortB (l ++ x :: y :: r) = false := by
  induction l with
  | nil => show (!decide (y.2 < x.2) && _) = false; rw [decide_eq_true h]; rfl
  | cons z l ih =>
    cases l with
    | nil => show (!_ && sortB (x :: y :: r)) = false; rw [List.nil_append] at ih; rw [ih, Bool.and_false]
    | cons w l => show (!_ && sortB (w :: l ++ x :: y :: r)) = false; rw [ih, Bool.and_false]
theorem sortB_good {r : List Np} {x y : Np} (h : ¬ y.2 < x.2) (hr : sortB (y :: r) = true) : sortB (x :: y :: r) = true := by
  show (!decide (y.2 < x.2) && _) = true
  rw [decide_eq_false h, hr]; rfl
def mOf (q : List Np) : List (PV × PV) := q.map fun x => (.int .i64 x.1, .bool true)
theorem mfind_mOf (i : Int) : ∀ q : List Np, mfind (mOf q) (.int .i64 i) = some (if hasN q i = true then some (.bool true) else none)
  | [] => rfl
  | x :: q => by
    show (match cellEq (.int .i64 i) (.int .i64 x.1) with | some true => some (some (PV.bool true)) | some false => mfind (mOf q) (.int .i64 i) | none => none) = _
    have e : cellEq (.int .i64 i) (.int .i64 x.1) = some (i == x.1) := rfl
    rw [e]
    unfold hasN
    rw [List.any_cons]
    cases h : (i == x.1) with
    | true => rfl
    | false =>
      rw [Bool.false_or]
      exact mfind_mOf i q
theorem mput_mOf (i : Int) (b : Int) : ∀ q : List Np, hasN q i = false → mput (mOf q) (.int .i64 i) (.bool true) = mOf (q ++ [(i, b)])
  | [], _ => rfl
  | x :: q, h => by
    unfold hasN at h
    rw [List.any_cons, Bool.or_eq_false_iff] at h
    show (if cellEq (.int .i64 i) (.int .i64 x.1) = some true then _ else _) = _
    have e : cellEq (.int .i64 i) (.int .i64 x.1) = some (i == x.1) := rfl
    rw [e, h.1, if_neg (by simp)]
    exact congrArg _ (mput_mOf i b q h.2)
theorem k_lookup {cf : CF} {new : Nat} {T : List PV} {H : Heap} {m k : X} {id : Nat} {i : Int} {q : List Np} {b : Bool} (hm : valT T m = .map id) (hk : valT T k = .int .i64 i) (hg : hget H id = some (.mp (mOf q))) (hb : hasN q i = b) : EK cf (.lookup 0 [.bool false] false m k) new T H (.bool b) [] := ⟨by
  simp only [evalK, hm, hk, hg, kindOf, if_true, mfind_mOf, hb]
  cases b <;> rfl⟩
theorem k_mapup {cf : CF} {new : Nat} {T : List PV} {H : Heap} {m k v : X} {id : Nat} {i j : Int} {q : List Np} (hm : valT T m = .map id) (hk : valT T k = .int .i64 i) (hv : valT T v = .bool true) (hg : hget H id = some (.mp (mOf q))) (hb : hasN q i = false) : EK cf (.mapup 0 m k v) new T H .undef [(id, some (.mp (mOf (q ++ [(i, j)]))))] := ⟨by
  simp only [evalK, hm, hk, hv, hg, kindOf, if_true, mfind_mOf, hb, mput_mOf i j q hb]
  rfl⟩
section
variable {cf : CF} {E : Env} (hcf : cf = ev E) (hE : ∀ n, n ≠ 9 → E n = envh n)
include hcf hE
theorem s34 (n m : Int) : Sp cf 34 [.int .i64 n, .int .i64 m] (.bool (withinB n m)) := by
  refine sp_of hcf ((hE 34 (by decide)).trans envh34) ?_
  unfold withinB
  conv => arg 2; simp only [ir34]
  conv => arg 3; simp only [ir34, Go.Proofs.YtppnijapeepbnaaEv.start, List.length, Nat.reduceAdd, Nat.reduceSub, List.reduceReplicate, List.append_eq, List.cons_append, List.nil_append]
  conv => arg 4; simp only [heapOf]
  try conv => arg 5; simp only [List.length, Nat.reduceAdd]
  try conv => arg 6; simp only [List.length, Nat.reduceAdd]
  by_cases h : 0 ≤ n
  · have h' : n ≥ 0 := h
    rw [decide_eq_true h, Bool.true_and]
    refine EVgo9 (h') trivial trivial trivial trivial trivial trivial trivial trivial trivial trivial trivial ?_
    exact EVret trivial
  · have h' : ¬ n ≥ 0 := h
    rw [decide_eq_false h, Bool.false_and]
    refine EVgo9 (h') trivial trivial trivial trivial trivial trivial trivial trivial trivial trivial trivial ?_
    exact EVret trivial
theorem s42 (n : Int) : cf 42 [.int .i64 n] [] = some (.bool false, []) := by
  refine ev_ofC' hcf ((hE 42 (by decide)).trans envh42) ?_
  have h : (n != n) = false := bne_self_eq_false n
  conv => arg 2; simp only [ir42]
  conv => arg 3; simp only [ir42, Go.Proofs.YtppnijapeepbnaaEv.start, List.length, Nat.reduceAdd, Nat.reduceSub, List.reduceReplicate, List.append_eq, List.cons_append, List.nil_append]
  conv => arg 4; simp only [heapOf]
  try conv => arg 5; simp only [List.length, Nat.reduceAdd]
  try conv => arg 6; simp only [List.length, Nat.reduceAdd]
  refine EVgo9 (h) trivial trivial trivial trivial trivial trivial trivial trivial trivial trivial trivial ?_
  exact WQ.ret rfl
theorem s38 (a b : Int) : cf 38 [.int .i64 a, .int .i64 b] [] = some (.int .i64 (cmpI a b), []) := by
  have h1 := s42 hcf hE a
  have h2 := s42 hcf hE b
  refine ev_ofC' hcf ((hE 38 (by decide)).trans envh38) ?_
  unfold cmpI
  conv => arg 2; simp only [ir38]
  conv => arg 3; simp only [ir38, Go.Proofs.YtppnijapeepbnaaEv.start, List.length, Nat.reduceAdd, Nat.reduceSub, List.reduceReplicate, List.append_eq, List.cons_append, List.nil_append]
  conv => arg 4; simp only [heapOf]
  try conv => arg 5; simp only [List.length, Nat.reduceAdd]
  try conv => arg 6; simp only [List.length, Nat.reduceAdd]
  by_cases h : a < b
  · rw [if_pos h]
    refine EVgo9 (h) (h1) (h2) trivial trivial trivial trivial trivial trivial trivial trivial trivial ?_
    exact WQ.ret rfl
  · rw [if_neg h]
    by_cases g : b < a
    · rw [if_pos g]
      have g' : a > b := g
      refine EVgo9 (And.intro (h) (g')) (h1) (h2) trivial trivial trivial trivial trivial trivial trivial trivial trivial ?_
      exact WQ.ret rfl
    · rw [if_neg g]
      have g' : ¬ a > b := g
      refine EVgo9 (And.intro (h) (g')) (h1) (h2) trivial trivial trivial trivial trivial trivial trivial trivial trivial ?_
      exact WQ.ret rfl
theorem s28 (x y : Np) : Sp cf 28 [.agg (encN x), .agg (encN y)] (.int .i64 (cmpI x.2 y.2)) := by
  have h38 := s38 hcf hE x.2 y.2
  refine sp_of hcf ((hE 28 (by decide)).trans envh28) ?_
  simp only [encN]
  conv => arg 2; simp only [ir28]
  conv => arg 3; simp only [ir28, Go.Proofs.YtppnijapeepbnaaEv.start, List.length, Nat.reduceAdd, Nat.reduceSub, List.reduceReplicate, List.append_eq, List.cons_append, List.nil_append]
  conv => arg 4; simp only [heapOf]
  try conv => arg 5; simp only [List.length, Nat.reduceAdd]
  try conv => arg 6; simp only [List.length, Nat.reduceAdd]
  refine EVgo9 trivial (h38) trivial trivial trivial trivial trivial trivial trivial trivial trivial trivial ?_
  exact EVret trivial
theorem s23 (x : Np) : Sp cf 23 [.agg (encN x)] (.bool (mayB x)) := by
  have h1 := s34 hcf hE x.1 7
  have h2 := s34 hcf hE x.2 1125899906842624
  refine sp_of hcf ((hE 23 (by decide)).trans envh23) ?_
  unfold mayB
  simp only [encN]
  conv => arg 2; simp only [ir23]
  conv => arg 3; simp only [ir23, Go.Proofs.YtppnijapeepbnaaEv.start, List.length, Nat.reduceAdd, Nat.reduceSub, List.reduceReplicate, List.append_eq, List.cons_append, List.nil_append]
  conv => arg 4; simp only [heapOf]
  try conv => arg 5; simp only [List.length, Nat.reduceAdd]
  try conv => arg 6; simp only [List.length, Nat.reduceAdd]
  cases h : withinB x.1 7 with
  | true =>
    rw [h] at h1
    rw [Bool.true_and]
    refine EVgo9 trivial (h1) (h2) trivial trivial trivial trivial trivial trivial trivial trivial trivial ?_
    exact EVret trivial
  | false =>
    rw [h] at h1
    rw [Bool.false_and]
    refine EVgo9 trivial (h1) (h2) trivial trivial trivial trivial trivial trivial trivial trivial trivial ?_
    exact EVret trivial
theorem s30 (l : List Np) (hl : l.length ≤ 1000000) : cf 30 [slN l, .fn 28 [] []] [] = some (.bool (sortB l), []) := by
  refine ev_ofC' hcf ((hE 30 (by decide)).trans envh30) ?_
  simp only [slN]
  have w0 : IntKind.i64.wrap ((l.length : Int) - 1) = (l.length : Int) - 1 := i64_in _ (by omega)
  conv => arg 2; simp only [ir30]
  conv => arg 3; simp only [ir30, Go.Proofs.YtppnijapeepbnaaEv.start, List.length, Nat.reduceAdd, Nat.reduceSub, List.reduceReplicate, List.append_eq, List.cons_append, List.nil_append]
  conv => arg 4; simp only [heapOf]
  try conv => arg 5; simp only [List.length, Nat.reduceAdd]
  try conv => arg 6; simp only [List.length, Nat.reduceAdd]
  refine EVgo9 (w0) trivial trivial trivial trivial trivial trivial trivial trivial trivial trivial trivial ?_
  refine WC.loop (T' := _) (H' := _) (n' := _) rfl ((?_ : ∀ (k : Nat) (j : Int), j = (k : Int) - 1 → k ≤ l.length → sortB (l.drop (k - 1)) = true →
    WC cf _ (mkT 25 [(0, .sl l.length false (flat encN l)), (1, .fn 28 [] []), (5, .int .i64 j)]) [] 0 0 _) l.length ((l.length : Int) - 1) rfl (Nat.le_refl _) (by
      cases h : l.drop (l.length - 1) with
      | nil => rfl
      | cons x r =>
        have := congrArg List.length h
        rw [List.length_drop, List.length_cons] at this
        have hr : r = [] := List.length_eq_zero_iff.1 (by omega)
        rw [hr]; rfl))
  intro k
  induction k with
  | zero =>
    intro j hj hk hs
    have hn : ¬ (j > 0) := by omega
    rw [show sortB l = true from hs]
    conv => arg 3; simp only [mkT, putT, List.reduceReplicate, List.set]
    refine EVgo9 (hn) trivial trivial trivial trivial trivial trivial trivial trivial trivial trivial trivial ?_
    exact WQ.ret rfl
  | succ k ih =>
    intro j hj hk hs
    obtain rfl : j = (k : Int) := by omega
    cases k with
    | zero =>
      have hn : ¬ (((0 : Nat) : Int) > 0) := by omega
      rw [show sortB l = true from hs]
      conv => arg 3; simp only [mkT, putT, List.reduceReplicate, List.set]
      refine EVgo9 trivial trivial trivial trivial trivial trivial trivial trivial trivial trivial trivial trivial ?_
      exact WQ.ret rfl
    | succ k =>
      have hgt : (((k + 1 : Nat) : Int) > 0) := by omega
      have w1 : IntKind.i64.wrap (((k + 1 : Nat) : Int) - 1) = ((k : Nat) : Int) := by rw [i64_in _ (by omega)]; omega
      have e1 := at_N (l := l) (i := k + 1) (by omega)
      have e0 := at_N (l := l) (i := k) (by omega)
      have hlt1 : (((k + 1 : Nat) : Int) < (l.length : Int)) := by omega
      have hlt0 : ((k : Int) < (l.length : Int)) := by omega
      have hd : l.drop k = l.getD k (0, 0) :: l.getD (k + 1) (0, 0) :: l.drop (k + 2) := by
        rw [List.drop_eq_getElem_cons (by omega), List.drop_eq_getElem_cons (by omega)]
        simp only [List.getD_eq_getElem?_getD, List.getElem?_eq_getElem (show k < l.length by omega), List.getElem?_eq_getElem (show k + 1 < l.length by omega), Option.getD_some]
      have hs' : sortB (l.getD (k + 1) (0, 0) :: l.drop (k + 2)) = true := by
        have : l.drop (k + 1) = l.getD (k + 1) (0, 0) :: l.drop (k + 2) := by
          rw [List.drop_eq_getElem_cons (by omega), List.getD_eq_getElem?_getD, List.getElem?_eq_getElem (show k + 1 < l.length by omega)]; rfl
        rw [← this]; exact hs
      have h28 := (s28 hcf hE (l.getD (k + 1) (0, 0)) (l.getD k (0, 0))).ok [.agg (encN (l.getD (k + 1) (0, 0))), .agg (encN (l.getD k (0, 0)))] rfl rfl
      have hih := fun hr => ih ((k : Nat) : Int) (by omega) (by omega) hr
      generalize l.getD (k + 1) (0, 0) = x at *
      generalize l.getD k (0, 0) = y at *
      simp only [encN] at h28
      by_cases hxy : x.2 < y.2
      · have hc : cmpI x.2 y.2 = -1 := if_pos hxy
        have hb : sortB l = false := by
          have : l = l.take k ++ y :: x :: l.drop (k + 2) := by rw [← hd, List.take_append_drop]
          rw [this]; exact sortB_bad hxy
        rw [hc] at h28
        rw [hb]
        conv => arg 3; simp only [mkT, putT, List.reduceReplicate, List.set]
        refine EVgo9 (And.intro (hgt) ( And.intro (hlt1) ( And.intro (e1) ( And.intro (w1) ( And.intro (hlt0) (e0)))))) (h28) trivial trivial trivial trivial trivial trivial trivial trivial trivial trivial ?_
        exact WQ.ret rfl
      · have hc : ¬ cmpI x.2 y.2 < 0 := by unfold cmpI; rw [if_neg hxy]; split <;> omega
        have hih' := hih (by show sortB (l.drop k) = true; rw [hd]; exact sortB_good hxy hs')
        conv => arg 3; simp only [mkT, putT, List.reduceReplicate, List.set]
        refine EVgo9 (And.intro (hgt) ( And.intro (hlt1) ( And.intro (e1) ( And.intro (w1) ( And.intro (hlt0) ( And.intro (e0) (hc))))))) (h28) trivial trivial trivial trivial trivial trivial trivial trivial trivial trivial ?_
        exact WC.loop rfl hih'
end
end Go.Proofs.YtppnijapeepbnaaR
