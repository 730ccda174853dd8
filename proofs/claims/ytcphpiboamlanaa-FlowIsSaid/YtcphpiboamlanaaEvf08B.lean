/- Evf08B: a part of the proof. -/
import Derived.Test.YtcphpiboamlanaaEvf08A
open Go Go.Proofs.YtcphpiboamlanaaEv Go.Proofs.YtcphpiboamlanaaR Go.IntWalk
set_option maxRecDepth 20000
set_option maxHeartbeats 8000000
set_option linter.unusedVariables false
set_option linter.unusedSimpArgs false
namespace Go.Proofs.YtcphpiboamlanaaR
/-- where the first one is of which something holds -/
def idxF (p : Pr → Bool) : List Pr → Nat → Int
  | [], _ => -1
  | x :: r, i => if p x = true then (i : Int) else idxF p r (i + 1)
theorem idxF_any (p : Pr → Bool) : ∀ (l : List Pr) (i : Nat), decide (0 ≤ idxF p l i) = l.any p
  | [], i => by simp [idxF]
  | x :: r, i => by
    have ih := idxF_any p r (i + 1)
    by_cases h : p x = true
    · have e : idxF p (x :: r) i = (i : Int) := if_pos h
      rw [List.any_cons, h, Bool.true_or]
      exact decide_eq_true (by rw [e]; omega)
    · have e : idxF p (x :: r) i = idxF p r (i + 1) := if_neg h
      have h' : p x = false := by simpa using h
      rw [List.any_cons, h', Bool.false_or, ← ih]
      exact decide_eq_decide.2 (by rw [e])
theorem idxF_drop (p : Pr → Bool) {l : List Pr} {i : Nat} (hi : i < l.length) : idxF p (l.drop i) i = if p (l.getD i (0, 0)) = true then (i : Int) else idxF p (l.drop (i + 1)) (i + 1) := by
  rw [List.drop_eq_getElem_cons hi, List.getD_eq_getElem?_getD, List.getElem?_eq_getElem hi]
  rfl
section
variable {cf : CF} {E : Env} (hcf : cf = ev E) (hE : ∀ n, n ≠ 26 → E n = env n)
include hcf hE
theorem s63a (l : List Pr) (g : Nat) (x1 : List PV) (p : Pr → Bool) (hg : ∀ a b : Int, cf g [.agg [.int .i64 a, .int .i64 b], .rop x1] [] = some (.bool (p (a, b)), [])) (hl : l.length ≤ 100000000) :
    cf 63 [.sl l.length false (flat encP l), .fn g [] [.rop x1]] [] = some (.int .i64 (idxF p l 0), []) := by
  refine ev_ofC' hcf ((hE 63 (by decide)).trans env63) ?_
  conv => arg 2; simp only [ir63]
  conv => arg 3; simp only [ir63, Go.Proofs.YtcphpiboamlanaaEv.start, List.length, Nat.reduceAdd, Nat.reduceSub, List.reduceReplicate, List.append_eq, List.cons_append, List.nil_append]
  conv => arg 4; simp only [heapOf]
  try conv => arg 5; simp only [List.length, Nat.reduceAdd]
  try conv => arg 6; simp only [List.length, Nat.reduceAdd]
  refine EVgo9 trivial trivial trivial trivial trivial trivial trivial trivial trivial trivial trivial trivial ?_
  refine WC.loop (T' := _) (H' := _) (n' := _) rfl ((?_ : ∀ (k i : Nat), i + k = l.length → idxF p l 0 = idxF p (l.drop i) i →
    WC cf _ (mkT 19 [(0, .sl l.length false (flat encP l)), (1, .fn g [] [.rop x1]), (7, .int .i64 (l.length : Nat)), (8, .int .i64 (i : Nat))]) [] 0 0 _) l.length 0 (by omega) rfl)
  intro k
  induction k with
  | zero =>
    intro i hi hx
    obtain rfl : i = l.length := by omega
    rw [hx, List.drop_length]
    conv => arg 3; simp only [mkT, putT, List.reduceReplicate, List.set]
    refine EVgl9 trivial trivial trivial trivial trivial trivial trivial trivial trivial trivial trivial trivial ?_
    exact WQ.ret rfl
  | succ k ih =>
    intro i hi hx
    have hlt' : i < l.length := by omega
    have hlt : (i : Int) < (l.length : Int) := by omega
    have hw : IntKind.i64.wrap ((i : Int) + 1) = ((i + 1 : Nat) : Int) := by rw [i64_in _ (by omega)]; simp
    have e0 := at_P hlt'
    have hgi := hg (l.getD i (0, 0)).1 (l.getD i (0, 0)).2
    have hpe : p ((l.getD i (0, 0)).1, (l.getD i (0, 0)).2) = p (l.getD i (0, 0)) := rfl
    rw [hpe] at hgi
    rw [idxF_drop p hlt'] at hx
    have hih := ih (i + 1) (by omega)
    cases hp : p (l.getD i (0, 0)) with
    | true =>
      rw [hp] at hgi
      rw [if_pos hp] at hx
      rw [hx]
      conv => arg 3; simp only [mkT, putT, List.reduceReplicate, List.set]
      refine EVgo9 (And.intro (hlt) (e0)) (hgi) trivial trivial trivial trivial trivial trivial trivial trivial trivial trivial ?_
      exact WQ.ret rfl
    | false =>
      rw [hp] at hgi
      rw [if_neg (by rw [hp]; simp)] at hx
      conv => arg 3; simp only [mkT, putT, List.reduceReplicate, List.set]
      refine EVgo9 (And.intro (hlt) ( And.intro (e0) (hw))) (hgi) trivial trivial trivial trivial trivial trivial trivial trivial trivial trivial ?_
      exact WC.loop rfl (hih hx)
theorem s63b (l : List Pr) (g : Nat) (x1 x2 : List PV) (p : Pr → Bool) (hg : ∀ a b : Int, cf g [.agg [.int .i64 a, .int .i64 b], .rop x1, .rop x2] [] = some (.bool (p (a, b)), [])) (hl : l.length ≤ 100000000) :
    cf 63 [.sl l.length false (flat encP l), .fn g [] [.rop x1, .rop x2]] [] = some (.int .i64 (idxF p l 0), []) := by
  refine ev_ofC' hcf ((hE 63 (by decide)).trans env63) ?_
  conv => arg 2; simp only [ir63]
  conv => arg 3; simp only [ir63, Go.Proofs.YtcphpiboamlanaaEv.start, List.length, Nat.reduceAdd, Nat.reduceSub, List.reduceReplicate, List.append_eq, List.cons_append, List.nil_append]
  conv => arg 4; simp only [heapOf]
  try conv => arg 5; simp only [List.length, Nat.reduceAdd]
  try conv => arg 6; simp only [List.length, Nat.reduceAdd]
  refine EVgo9 trivial trivial trivial trivial trivial trivial trivial trivial trivial trivial trivial trivial ?_
  refine WC.loop (T' := _) (H' := _) (n' := _) rfl ((?_ : ∀ (k i : Nat), i + k = l.length → idxF p l 0 = idxF p (l.drop i) i →
    WC cf _ (mkT 19 [(0, .sl l.length false (flat encP l)), (1, .fn g [] [.rop x1, .rop x2]), (7, .int .i64 (l.length : Nat)), (8, .int .i64 (i : Nat))]) [] 0 0 _) l.length 0 (by omega) rfl)
  intro k
  induction k with
  | zero =>
    intro i hi hx
    obtain rfl : i = l.length := by omega
    rw [hx, List.drop_length]
    conv => arg 3; simp only [mkT, putT, List.reduceReplicate, List.set]
    refine EVgl9 trivial trivial trivial trivial trivial trivial trivial trivial trivial trivial trivial trivial ?_
    exact WQ.ret rfl
  | succ k ih =>
    intro i hi hx
    have hlt' : i < l.length := by omega
    have hlt : (i : Int) < (l.length : Int) := by omega
    have hw : IntKind.i64.wrap ((i : Int) + 1) = ((i + 1 : Nat) : Int) := by rw [i64_in _ (by omega)]; simp
    have e0 := at_P hlt'
    have hgi := hg (l.getD i (0, 0)).1 (l.getD i (0, 0)).2
    have hpe : p ((l.getD i (0, 0)).1, (l.getD i (0, 0)).2) = p (l.getD i (0, 0)) := rfl
    rw [hpe] at hgi
    rw [idxF_drop p hlt'] at hx
    have hih := ih (i + 1) (by omega)
    cases hp : p (l.getD i (0, 0)) with
    | true =>
      rw [hp] at hgi
      rw [if_pos hp] at hx
      rw [hx]
      conv => arg 3; simp only [mkT, putT, List.reduceReplicate, List.set]
      refine EVgo9 (And.intro (hlt) (e0)) (hgi) trivial trivial trivial trivial trivial trivial trivial trivial trivial trivial ?_
      exact WQ.ret rfl
    | false =>
      rw [hp] at hgi
      rw [if_neg (by rw [hp]; simp)] at hx
      conv => arg 3; simp only [mkT, putT, List.reduceReplicate, List.set]
      refine EVgo9 (And.intro (hlt) ( And.intro (e0) (hw))) (hgi) trivial trivial trivial trivial trivial trivial trivial trivial trivial trivial ?_
      exact WC.loop rfl (hih hx)
theorem s62a (l : List Pr) (g : Nat) (x1 : List PV) (p : Pr → Bool) (hg : ∀ a b : Int, cf g [.agg [.int .i64 a, .int .i64 b], .rop x1] [] = some (.bool (p (a, b)), [])) (hl : l.length ≤ 100000000) :
    cf 62 [.sl l.length false (flat encP l), .fn g [] [.rop x1]] [] = some (.int .i64 (idxF p l 0), []) := by
  refine ev_ofC' hcf ((hE 62 (by decide)).trans env62) ?_
  conv => arg 2; simp only [ir62]
  conv => arg 3; simp only [ir62, Go.Proofs.YtcphpiboamlanaaEv.start, List.length, Nat.reduceAdd, Nat.reduceSub, List.reduceReplicate, List.append_eq, List.cons_append, List.nil_append]
  conv => arg 4; simp only [heapOf]
  try conv => arg 5; simp only [List.length, Nat.reduceAdd]
  try conv => arg 6; simp only [List.length, Nat.reduceAdd]
  refine EVgo9 trivial trivial trivial trivial trivial trivial trivial trivial trivial trivial trivial trivial ?_
  refine WC.loop (T' := _) (H' := _) (n' := _) rfl ((?_ : ∀ (k i : Nat), i + k = l.length → idxF p l 0 = idxF p (l.drop i) i →
    WC cf _ (mkT 19 [(0, .sl l.length false (flat encP l)), (1, .fn g [] [.rop x1]), (7, .int .i64 (l.length : Nat)), (8, .int .i64 (i : Nat))]) [] 0 0 _) l.length 0 (by omega) rfl)
  intro k
  induction k with
  | zero =>
    intro i hi hx
    obtain rfl : i = l.length := by omega
    rw [hx, List.drop_length]
    conv => arg 3; simp only [mkT, putT, List.reduceReplicate, List.set]
    refine EVgl9 trivial trivial trivial trivial trivial trivial trivial trivial trivial trivial trivial trivial ?_
    exact WQ.ret rfl
  | succ k ih =>
    intro i hi hx
    have hlt' : i < l.length := by omega
    have hlt : (i : Int) < (l.length : Int) := by omega
    have hw : IntKind.i64.wrap ((i : Int) + 1) = ((i + 1 : Nat) : Int) := by rw [i64_in _ (by omega)]; simp
    have e0 := at_P hlt'
    have hgi := hg (l.getD i (0, 0)).1 (l.getD i (0, 0)).2
    have hpe : p ((l.getD i (0, 0)).1, (l.getD i (0, 0)).2) = p (l.getD i (0, 0)) := rfl
    rw [hpe] at hgi
    rw [idxF_drop p hlt'] at hx
    have hih := ih (i + 1) (by omega)
    cases hp : p (l.getD i (0, 0)) with
    | true =>
      rw [hp] at hgi
      rw [if_pos hp] at hx
      rw [hx]
      conv => arg 3; simp only [mkT, putT, List.reduceReplicate, List.set]
      refine EVgo9 (And.intro (hlt) (e0)) (hgi) trivial trivial trivial trivial trivial trivial trivial trivial trivial trivial ?_
      exact WQ.ret rfl
    | false =>
      rw [hp] at hgi
      rw [if_neg (by rw [hp]; simp)] at hx
      conv => arg 3; simp only [mkT, putT, List.reduceReplicate, List.set]
      refine EVgo9 (And.intro (hlt) ( And.intro (e0) (hw))) (hgi) trivial trivial trivial trivial trivial trivial trivial trivial trivial trivial ?_
      exact WC.loop rfl (hih hx)
theorem s62b (l : List Pr) (g : Nat) (x1 x2 : List PV) (p : Pr → Bool) (hg : ∀ a b : Int, cf g [.agg [.int .i64 a, .int .i64 b], .rop x1, .rop x2] [] = some (.bool (p (a, b)), [])) (hl : l.length ≤ 100000000) :
    cf 62 [.sl l.length false (flat encP l), .fn g [] [.rop x1, .rop x2]] [] = some (.int .i64 (idxF p l 0), []) := by
  refine ev_ofC' hcf ((hE 62 (by decide)).trans env62) ?_
  conv => arg 2; simp only [ir62]
  conv => arg 3; simp only [ir62, Go.Proofs.YtcphpiboamlanaaEv.start, List.length, Nat.reduceAdd, Nat.reduceSub, List.reduceReplicate, List.append_eq, List.cons_append, List.nil_append]
  conv => arg 4; simp only [heapOf]
  try conv => arg 5; simp only [List.length, Nat.reduceAdd]
  try conv => arg 6; simp only [List.length, Nat.reduceAdd]
  refine EVgo9 trivial trivial trivial trivial trivial trivial trivial trivial trivial trivial trivial trivial ?_
  refine WC.loop (T' := _) (H' := _) (n' := _) rfl ((?_ : ∀ (k i : Nat), i + k = l.length → idxF p l 0 = idxF p (l.drop i) i →
    WC cf _ (mkT 19 [(0, .sl l.length false (flat encP l)), (1, .fn g [] [.rop x1, .rop x2]), (7, .int .i64 (l.length : Nat)), (8, .int .i64 (i : Nat))]) [] 0 0 _) l.length 0 (by omega) rfl)
  intro k
  induction k with
  | zero =>
    intro i hi hx
    obtain rfl : i = l.length := by omega
    rw [hx, List.drop_length]
    conv => arg 3; simp only [mkT, putT, List.reduceReplicate, List.set]
    refine EVgl9 trivial trivial trivial trivial trivial trivial trivial trivial trivial trivial trivial trivial ?_
    exact WQ.ret rfl
  | succ k ih =>
    intro i hi hx
    have hlt' : i < l.length := by omega
    have hlt : (i : Int) < (l.length : Int) := by omega
    have hw : IntKind.i64.wrap ((i : Int) + 1) = ((i + 1 : Nat) : Int) := by rw [i64_in _ (by omega)]; simp
    have e0 := at_P hlt'
    have hgi := hg (l.getD i (0, 0)).1 (l.getD i (0, 0)).2
    have hpe : p ((l.getD i (0, 0)).1, (l.getD i (0, 0)).2) = p (l.getD i (0, 0)) := rfl
    rw [hpe] at hgi
    rw [idxF_drop p hlt'] at hx
    have hih := ih (i + 1) (by omega)
    cases hp : p (l.getD i (0, 0)) with
    | true =>
      rw [hp] at hgi
      rw [if_pos hp] at hx
      rw [hx]
      conv => arg 3; simp only [mkT, putT, List.reduceReplicate, List.set]
      refine EVgo9 (And.intro (hlt) (e0)) (hgi) trivial trivial trivial trivial trivial trivial trivial trivial trivial trivial ?_
      exact WQ.ret rfl
    | false =>
      rw [hp] at hgi
      rw [if_neg (by rw [hp]; simp)] at hx
      conv => arg 3; simp only [mkT, putT, List.reduceReplicate, List.set]
      refine EVgo9 (And.intro (hlt) ( And.intro (e0) (hw))) (hgi) trivial trivial trivial trivial trivial trivial trivial trivial trivial trivial ?_
      exact WC.loop rfl (hih hx)
theorem s35a (l : List Pr) (g : Nat) (x1 : List PV) (p : Pr → Bool) (hg : ∀ a b : Int, cf g [.agg [.int .i64 a, .int .i64 b], .rop x1] [] = some (.bool (p (a, b)), [])) (hl : l.length ≤ 100000000) :
    cf 35 [.sl l.length false (flat encP l), .fn g [] [.rop x1]] [] = some (.bool (l.any p), []) := by
  have h := s63a hcf hE l g x1 p hg hl
  refine ev_ofC' hcf ((hE 35 (by decide)).trans env35) ?_
  conv => arg 2; simp only [ir35]
  conv => arg 3; simp only [ir35, Go.Proofs.YtcphpiboamlanaaEv.start, List.length, Nat.reduceAdd, Nat.reduceSub, List.reduceReplicate, List.append_eq, List.cons_append, List.nil_append]
  conv => arg 4; simp only [heapOf]
  try conv => arg 5; simp only [List.length, Nat.reduceAdd]
  try conv => arg 6; simp only [List.length, Nat.reduceAdd]
  refine EVgo9 trivial (h) trivial trivial trivial trivial trivial trivial trivial trivial trivial trivial ?_
  rw [← idxF_any p l 0]
  exact WQ.ret rfl
theorem s35b (l : List Pr) (g : Nat) (x1 x2 : List PV) (p : Pr → Bool) (hg : ∀ a b : Int, cf g [.agg [.int .i64 a, .int .i64 b], .rop x1, .rop x2] [] = some (.bool (p (a, b)), [])) (hl : l.length ≤ 100000000) :
    cf 35 [.sl l.length false (flat encP l), .fn g [] [.rop x1, .rop x2]] [] = some (.bool (l.any p), []) := by
  have h := s63b hcf hE l g x1 x2 p hg hl
  refine ev_ofC' hcf ((hE 35 (by decide)).trans env35) ?_
  conv => arg 2; simp only [ir35]
  conv => arg 3; simp only [ir35, Go.Proofs.YtcphpiboamlanaaEv.start, List.length, Nat.reduceAdd, Nat.reduceSub, List.reduceReplicate, List.append_eq, List.cons_append, List.nil_append]
  conv => arg 4; simp only [heapOf]
  try conv => arg 5; simp only [List.length, Nat.reduceAdd]
  try conv => arg 6; simp only [List.length, Nat.reduceAdd]
  refine EVgo9 trivial (h) trivial trivial trivial trivial trivial trivial trivial trivial trivial trivial ?_
  rw [← idxF_any p l 0]
  exact WQ.ret rfl
theorem s31a (l : List Pr) (g : Nat) (x1 : List PV) (p : Pr → Bool) (hg : ∀ a b : Int, cf g [.agg [.int .i64 a, .int .i64 b], .rop x1] [] = some (.bool (p (a, b)), [])) (hl : l.length ≤ 100000000) :
    cf 31 [.sl l.length false (flat encP l), .fn g [] [.rop x1]] [] = some (.bool (l.any p), []) := by
  have h := s62a hcf hE l g x1 p hg hl
  refine ev_ofC' hcf ((hE 31 (by decide)).trans env31) ?_
  conv => arg 2; simp only [ir31]
  conv => arg 3; simp only [ir31, Go.Proofs.YtcphpiboamlanaaEv.start, List.length, Nat.reduceAdd, Nat.reduceSub, List.reduceReplicate, List.append_eq, List.cons_append, List.nil_append]
  conv => arg 4; simp only [heapOf]
  try conv => arg 5; simp only [List.length, Nat.reduceAdd]
  try conv => arg 6; simp only [List.length, Nat.reduceAdd]
  refine EVgo9 trivial (h) trivial trivial trivial trivial trivial trivial trivial trivial trivial trivial ?_
  rw [← idxF_any p l 0]
  exact WQ.ret rfl
theorem s31b (l : List Pr) (g : Nat) (x1 x2 : List PV) (p : Pr → Bool) (hg : ∀ a b : Int, cf g [.agg [.int .i64 a, .int .i64 b], .rop x1, .rop x2] [] = some (.bool (p (a, b)), [])) (hl : l.length ≤ 100000000) :
    cf 31 [.sl l.length false (flat encP l), .fn g [] [.rop x1, .rop x2]] [] = some (.bool (l.any p), []) := by
  have h := s62b hcf hE l g x1 x2 p hg hl
  refine ev_ofC' hcf ((hE 31 (by decide)).trans env31) ?_
  conv => arg 2; simp only [ir31]
  conv => arg 3; simp only [ir31, Go.Proofs.YtcphpiboamlanaaEv.start, List.length, Nat.reduceAdd, Nat.reduceSub, List.reduceReplicate, List.append_eq, List.cons_append, List.nil_append]
  conv => arg 4; simp only [heapOf]
  try conv => arg 5; simp only [List.length, Nat.reduceAdd]
  try conv => arg 6; simp only [List.length, Nat.reduceAdd]
  refine EVgo9 trivial (h) trivial trivial trivial trivial trivial trivial trivial trivial trivial trivial ?_
  rw [← idxF_any p l 0]
  exact WQ.ret rfl
def saneB (b : Bd) : Bool := decide ((b.c.length : Int) ≤ 4096) && (!(b.m.any (badM b.c.length)) && !(b.o.any (outM (deep b.m) b.c.length)))
theorem s14 (b : Bd) (hm : b.m.length ≤ 100000000) (ho : b.o.length ≤ 100000000) : Sp cf 14 [bE b] (.bool (saneB b)) := by
  have h35a := s35a hcf hE b.m 32 [.int .i64 (b.c.length : Nat)] (badM b.c.length) (fun x y => s32 hcf hE (x, y) b.c.length) hm
  have h35b := s35b hcf hE b.o 33 [slP b.c, slP b.m, slP b.o] [.int .i64 (b.c.length : Nat)] (outM (deep b.m) b.c.length) (fun x y => s33 hcf hE (x, y) b hm b.c.length) ho
  refine sp_of hcf ((hE 14 (by decide)).trans env14) ?_
  simp only [saneB]
  conv => arg 2; simp only [ir14]
  conv => arg 3; simp only [ir14, Go.Proofs.YtcphpiboamlanaaEv.start, List.length, Nat.reduceAdd, Nat.reduceSub, List.reduceReplicate, List.append_eq, List.cons_append, List.nil_append]
  conv => arg 4; simp only [heapOf]
  try conv => arg 5; simp only [List.length, Nat.reduceAdd]
  try conv => arg 6; simp only [List.length, Nat.reduceAdd]
  by_cases h1 : (b.c.length : Int) ≤ 4096
  · cases h2 : b.m.any (badM b.c.length) with
    | true =>
      simp only [h1, decide_true, Bool.true_and, Bool.not_true, Bool.false_and]
      refine EVgo9 (And.intro (@bE.eq_1) ( And.intro (@slP.eq_1) ( And.intro (h1) (h2)))) (h35a) trivial trivial trivial trivial trivial trivial trivial trivial trivial trivial ?_
      exact EVret trivial
    | false =>
      cases h3 : b.o.any (outM (deep b.m) b.c.length) with
      | true =>
        simp only [h1, decide_true, Bool.true_and, Bool.not_true, Bool.not_false]
        refine EVgo9 (And.intro (@bE.eq_1) ( And.intro (@slP.eq_1) ( And.intro (h1) ( And.intro (h2) (h3))))) (h35a) (h35b) trivial trivial trivial trivial trivial trivial trivial trivial trivial ?_
        exact EVret trivial
      | false =>
        simp only [h1, decide_true, Bool.true_and, Bool.not_false]
        refine EVgo9 (And.intro (@bE.eq_1) ( And.intro (@slP.eq_1) ( And.intro (h1) ( And.intro (h2) (h3))))) (h35a) (h35b) trivial trivial trivial trivial trivial trivial trivial trivial trivial ?_
        exact EVret trivial
  · simp only [h1, decide_false, Bool.false_and]
    refine EVgo9 (And.intro (@bE.eq_1) ( And.intro (@slP.eq_1) (h1))) trivial trivial trivial trivial trivial trivial trivial trivial trivial trivial trivial ?_
    exact EVret trivial
end
end Go.Proofs.YtcphpiboamlanaaR
