/- Evf08S: a part of the proof. -/
import Derived.Test.YtcphpiboamlanaaEvf08PB
open Go Go.Proofs.YtcphpiboamlanaaEv Go.Proofs.YtcphpiboamlanaaR Go.IntWalk
set_option maxRecDepth 20000
set_option maxHeartbeats 8000000
set_option linter.unusedVariables false
set_option linter.unusedSimpArgs false
namespace Go.Proofs.YtcphpiboamlanaaR
theorem mid_P {m p r : List Pr} {x y : Int} (h : p ++ (x, y) :: r = m) : (flat encP m).drop (p.length * 2) = .int .i64 x :: .int .i64 y :: flat encP r := by
  subst h
  rw [dropP, List.drop_left]
  rfl
theorem snoc_len (p : List Pr) (x : Pr) : (p ++ [x]).length = p.length + 1 := by simp
theorem k_eqS2 {cf : CF} {new : Nat} {T : List PV} {H : Heap} {x y : X} {a b : Int} (hx : valT T x = .agg [.int .i64 a, .int .i64 b]) (hy : valT T y = .agg [.int .i64 a, .int .i64 b]) : EK cf (.eqS true [0, 0] x y) new T H (.bool false) [] := ⟨by
  simp only [evalK, hx, hy, List.map_cons, List.map_nil, kindOf, if_true, cellsEq, cellEq, beq_self_eq_true, Bool.and_self, Bool.not_true]⟩
def fewB (b : Bd) : Bool := decide (b.c.length ≤ 200) && (decide (b.m.length ≤ 50) && decide (b.o.length ≤ 50))
section
variable {cf : CF} (hcf : cf = ev env)
include hcf
theorem s13 (b : Bd) : Sp cf 13 [bE b] (.bool (fewB b)) := by
  refine sp_of hcf env13 ?_
  unfold fewB
  simp only [bE, slP]
  conv => arg 2; simp only [ir13]
  conv => arg 3; simp only [ir13, Go.Proofs.YtcphpiboamlanaaEv.start, List.length, Nat.reduceAdd, Nat.reduceSub, List.reduceReplicate, List.append_eq, List.cons_append, List.nil_append]
  conv => arg 4; simp only [heapOf]
  try conv => arg 5; simp only [List.length, Nat.reduceAdd]
  try conv => arg 6; simp only [List.length, Nat.reduceAdd]
  by_cases h1 : b.c.length ≤ 200
  · have h1' : (b.c.length : Int) ≤ 200 := by omega
    by_cases h2 : b.m.length ≤ 50
    · have h2' : (b.m.length : Int) ≤ 50 := by omega
      by_cases h3 : b.o.length ≤ 50
      · have h3' : (b.o.length : Int) ≤ 50 := by omega
        simp only [h1, h2, h3, decide_true, decide_false, Bool.true_and, Bool.false_and]
        refine EVgo9 (And.intro (h1') ( And.intro (h2') (h3'))) trivial trivial trivial trivial trivial trivial trivial trivial trivial trivial trivial ?_
        exact EVret trivial
      · have h3' : ¬ (b.o.length : Int) ≤ 50 := by omega
        simp only [h1, h2, h3, decide_true, decide_false, Bool.true_and, Bool.false_and]
        refine EVgo9 (And.intro (h1') ( And.intro (h2') (h3'))) trivial trivial trivial trivial trivial trivial trivial trivial trivial trivial trivial ?_
        exact EVret trivial
    · have h2' : ¬ (b.m.length : Int) ≤ 50 := by omega
      simp only [h1, h2, decide_true, decide_false, Bool.true_and, Bool.false_and]
      refine EVgo9 (And.intro (h1') (h2')) trivial trivial trivial trivial trivial trivial trivial trivial trivial trivial trivial ?_
      exact EVret trivial
  · have h1' : ¬ (b.c.length : Int) ≤ 200 := by omega
    simp only [h1, decide_true, decide_false, Bool.true_and, Bool.false_and]
    refine EVgo9 (h1') trivial trivial trivial trivial trivial trivial trivial trivial trivial trivial trivial ?_
    exact EVret trivial
theorem s16 (b : Bd) (hm : b.m.length ≤ 100000000) : Sp cf 16 [bE b] (.int .i64 (deep b.m : Nat)) := by
  refine sp_of hcf env16 ?_
  simp only [bE, slP]
  conv => arg 2; simp only [ir16]
  conv => arg 3; simp only [ir16, Go.Proofs.YtcphpiboamlanaaEv.start, List.length, Nat.reduceAdd, Nat.reduceSub, List.reduceReplicate, List.append_eq, List.cons_append, List.nil_append]
  conv => arg 4; simp only [heapOf]
  try conv => arg 5; simp only [List.length, Nat.reduceAdd]
  try conv => arg 6; simp only [List.length, Nat.reduceAdd]
  refine EVgo9 trivial trivial trivial trivial trivial trivial trivial trivial trivial trivial trivial trivial ?_
  refine WC.loop (T' := _) (H' := _) (n' := _) rfl ((?_ : ∀ (r p : List Pr), p ++ r = b.m →
    WC cf _ (mkT 22 [(1, .ptr 0 0), (3, .int .i64 (deep p : Nat)), (4, .int .i64 (p.length : Nat))]) [(0, .box [.sl b.c.length false (flat encP b.c), .sl b.m.length false (flat encP b.m), .sl b.o.length false (flat encP b.o)])] 0 1 _) b.m [] rfl)
  intro r
  induction r with
  | nil =>
    intro p hp
    rw [List.append_nil] at hp
    subst hp
    conv => arg 3; simp only [mkT, putT, List.reduceReplicate, List.set]
    refine EVgl9 trivial trivial trivial trivial trivial trivial trivial trivial trivial trivial trivial trivial ?_
    exact EVret trivial
  | cons x r ih =>
    intro p hp
    obtain ⟨x, y⟩ := x
    have hlen : b.m.length = p.length + (r.length + 1) := by rw [← hp]; simp
    have hlt : (p.length : Int) < (b.m.length : Int) := by omega
    have hdl := deep_le p
    have hw : IntKind.i64.wrap ((p.length : Int) + 1) = ((p.length + 1 : Nat) : Int) := by rw [i64_in _ (by omega)]; simp
    have hw2 : IntKind.i64.wrap ((deep p : Int) + 1) = ((deep p + 1 : Nat) : Int) := by rw [i64_in _ (by omega)]; simp
    have e0 := mid_P hp
    have hih := ih (p ++ [(x, y)]) (by rw [List.append_assoc]; exact hp)
    rw [snoc_len, deep_append, deep_one] at hih
    by_cases h3 : x = 3
    · rw [if_pos h3] at hih
      have h3' : (x == 3) = true := beq_iff_eq.2 h3
      conv => arg 3; simp only [mkT, putT, List.reduceReplicate, List.set]
      refine EVgo9 (And.intro (hlt) ( And.intro (hw) ( And.intro (hw2) ( And.intro (e0) (h3'))))) trivial trivial trivial trivial trivial trivial trivial trivial trivial trivial trivial ?_
      exact WC.loop rfl hih
    · rw [if_neg h3, Nat.add_zero] at hih
      have h3' : (x == 3) = false := beq_eq_false_iff_ne.2 h3
      conv => arg 3; simp only [mkT, putT, List.reduceReplicate, List.set]
      refine EVgo9 (And.intro (hlt) ( And.intro (hw) ( And.intro (hw2) ( And.intro (e0) (h3'))))) trivial trivial trivial trivial trivial trivial trivial trivial trivial trivial trivial ?_
      exact WC.loop rfl hih
theorem s15 (b : Bd) (hm : b.m.length ≤ 1000000) (ho : b.o.length ≤ 1000000) : Sp cf 15 [bE b] (bE b) := by
  refine sp_of hcf env15 ?_
  simp only [bE, slP]
  conv => arg 2; simp only [ir15]
  conv => arg 3; simp only [ir15, Go.Proofs.YtcphpiboamlanaaEv.start, List.length, Nat.reduceAdd, Nat.reduceSub, List.reduceReplicate, List.append_eq, List.cons_append, List.nil_append]
  conv => arg 4; simp only [heapOf]
  try conv => arg 5; simp only [List.length, Nat.reduceAdd]
  try conv => arg 6; simp only [List.length, Nat.reduceAdd]
  refine EVgo9 trivial trivial trivial trivial trivial trivial trivial trivial trivial trivial trivial trivial ?_
  refine WC.loop (T' := _) (H' := _) (n' := _) rfl ((?_ : ∀ (r p : List Pr), p ++ r = b.m →
    WC cf _ (mkT 60 [(1, .ptr 0 0), (2, .ptr 1 0), (3, .ptr 2 0), (4, .int .i64 (p.length : Nat))]) [(0, .box [.sl b.c.length false (flat encP b.c), .sl b.m.length false (flat encP b.m), .sl b.o.length false (flat encP b.o)]), (1, .box [.nil, .nil, .nil]), (2, .box [.sl b.c.length false (flat encP b.c), .own 3 2 0 p.length, .nil]), (3, .row (flat encP p))] 0 4 _) b.m [] rfl)
  intro r
  induction r with
  | nil =>
    intro p hp
    rw [List.append_nil] at hp
    subst hp
    conv => arg 3; simp only [mkT, putT, List.reduceReplicate, List.set]
    refine EVgl9 trivial trivial trivial trivial trivial trivial trivial trivial trivial trivial trivial trivial ?_
    refine WC.loop (T' := _) (H' := _) (n' := _) rfl ((?_ : ∀ (r q : List Pr), q ++ r = b.o →
      WC cf _ (mkT 60 [(1, .ptr 0 0), (2, .ptr 1 0), (3, .ptr 2 0), (5, .int .i64 (q.length : Nat))]) [(0, .box [.sl b.c.length false (flat encP b.c), .sl b.m.length false (flat encP b.m), .sl b.o.length false (flat encP b.o)]), (1, .box [.nil, .nil, .nil]), (2, .box [.sl b.c.length false (flat encP b.c), .own 3 2 0 b.m.length, .own 4 2 0 q.length]), (3, .row (flat encP b.m)), (4, .row (flat encP q))] 0 5 _) b.o [] rfl)
    intro r
    induction r with
    | nil =>
      intro q hq
      rw [List.append_nil] at hq
      subst hq
      conv => arg 3; simp only [mkT, putT, List.reduceReplicate, List.set]
      refine EVgl9 trivial trivial trivial trivial trivial trivial trivial trivial trivial trivial trivial trivial ?_
      exact EVret (allP)
    | cons x r ih =>
      intro q hq
      obtain ⟨x, y⟩ := x
      have hlen : b.o.length = q.length + (r.length + 1) := by rw [← hq]; simp
      have hlt : (q.length : Int) < (b.o.length : Int) := by omega
      have hw : IntKind.i64.wrap ((q.length : Int) + 1) = ((q.length + 1 : Nat) : Int) := by rw [i64_in _ (by omega)]; simp
      have e0 := mid_P hq
      have hih := ih (q ++ [(x, y)]) (by rw [List.append_assoc]; exact hq)
      rw [snoc_len] at hih
      conv => arg 3; simp only [mkT, putT, List.reduceReplicate, List.set]
      refine EVgo9 (And.intro (hlt) ( And.intro (hw) ( And.intro (e0) ( And.intro (lenP) ( And.intro (allP) (snocP)))))) trivial trivial trivial trivial trivial trivial trivial trivial trivial trivial trivial ?_
      exact WC.loop rfl hih
  | cons x r ih =>
    intro p hp
    obtain ⟨x, y⟩ := x
    have hlen : b.m.length = p.length + (r.length + 1) := by rw [← hp]; simp
    have hlt : (p.length : Int) < (b.m.length : Int) := by omega
    have hw : IntKind.i64.wrap ((p.length : Int) + 1) = ((p.length + 1 : Nat) : Int) := by rw [i64_in _ (by omega)]; simp
    have e0 := mid_P hp
    have hih := ih (p ++ [(x, y)]) (by rw [List.append_assoc]; exact hp)
    rw [snoc_len] at hih
    conv => arg 3; simp only [mkT, putT, List.reduceReplicate, List.set]
    refine EVgo9 (And.intro (hlt) ( And.intro (hw) ( And.intro (e0) ( And.intro (lenP) ( And.intro (allP) (snocP)))))) trivial trivial trivial trivial trivial trivial trivial trivial trivial trivial trivial ?_
    exact WC.loop rfl hih
theorem s18 (b : Bd) (hm : b.m.length ≤ 1000000) (ho : b.o.length ≤ 1000000) : Sp cf 18 [bE b] (bE b) := by
  refine sp_of hcf env18 ?_
  simp only [bE, slP]
  conv => arg 2; simp only [ir18]
  conv => arg 3; simp only [ir18, Go.Proofs.YtcphpiboamlanaaEv.start, List.length, Nat.reduceAdd, Nat.reduceSub, List.reduceReplicate, List.append_eq, List.cons_append, List.nil_append]
  conv => arg 4; simp only [heapOf]
  try conv => arg 5; simp only [List.length, Nat.reduceAdd]
  try conv => arg 6; simp only [List.length, Nat.reduceAdd]
  refine EVgo9 trivial trivial trivial trivial trivial trivial trivial trivial trivial trivial trivial trivial ?_
  refine WC.loop (T' := _) (H' := _) (n' := _) rfl ((?_ : ∀ (r p : List Pr), p ++ r = b.m →
    WC cf _ (mkT 60 [(1, .ptr 0 0), (2, .ptr 1 0), (3, .ptr 2 0), (4, .int .i64 (p.length : Nat))]) [(0, .box [.sl b.c.length false (flat encP b.c), .sl b.m.length false (flat encP b.m), .sl b.o.length false (flat encP b.o)]), (1, .box [.nil, .nil, .nil]), (2, .box [.sl b.c.length false (flat encP b.c), .own 3 2 0 p.length, .nil]), (3, .row (flat encP p))] 0 4 _) b.m [] rfl)
  intro r
  induction r with
  | nil =>
    intro p hp
    rw [List.append_nil] at hp
    subst hp
    conv => arg 3; simp only [mkT, putT, List.reduceReplicate, List.set]
    refine EVgl9 trivial trivial trivial trivial trivial trivial trivial trivial trivial trivial trivial trivial ?_
    refine WC.loop (T' := _) (H' := _) (n' := _) rfl ((?_ : ∀ (r q : List Pr), q ++ r = b.o →
      WC cf _ (mkT 60 [(1, .ptr 0 0), (2, .ptr 1 0), (3, .ptr 2 0), (5, .int .i64 (q.length : Nat))]) [(0, .box [.sl b.c.length false (flat encP b.c), .sl b.m.length false (flat encP b.m), .sl b.o.length false (flat encP b.o)]), (1, .box [.nil, .nil, .nil]), (2, .box [.sl b.c.length false (flat encP b.c), .own 3 2 0 b.m.length, .own 4 2 0 q.length]), (3, .row (flat encP b.m)), (4, .row (flat encP q))] 0 5 _) b.o [] rfl)
    intro r
    induction r with
    | nil =>
      intro q hq
      rw [List.append_nil] at hq
      subst hq
      conv => arg 3; simp only [mkT, putT, List.reduceReplicate, List.set]
      refine EVgl9 trivial trivial trivial trivial trivial trivial trivial trivial trivial trivial trivial trivial ?_
      exact EVret (allP)
    | cons x r ih =>
      intro q hq
      obtain ⟨x, y⟩ := x
      have hlen : b.o.length = q.length + (r.length + 1) := by rw [← hq]; simp
      have hlt : (q.length : Int) < (b.o.length : Int) := by omega
      have hw : IntKind.i64.wrap ((q.length : Int) + 1) = ((q.length + 1 : Nat) : Int) := by rw [i64_in _ (by omega)]; simp
      have e0 := mid_P hq
      have hih := ih (q ++ [(x, y)]) (by rw [List.append_assoc]; exact hq)
      rw [snoc_len] at hih
      conv => arg 3; simp only [mkT, putT, List.reduceReplicate, List.set]
      refine EVgo9 (And.intro (hlt) ( And.intro (hw) ( And.intro (e0) ( And.intro (lenP) ( And.intro (allP) (snocP)))))) trivial trivial trivial trivial trivial trivial trivial trivial trivial trivial trivial ?_
      exact WC.loop rfl hih
  | cons x r ih =>
    intro p hp
    obtain ⟨x, y⟩ := x
    have hlen : b.m.length = p.length + (r.length + 1) := by rw [← hp]; simp
    have hlt : (p.length : Int) < (b.m.length : Int) := by omega
    have hw : IntKind.i64.wrap ((p.length : Int) + 1) = ((p.length + 1 : Nat) : Int) := by rw [i64_in _ (by omega)]; simp
    have e0 := mid_P hp
    have hih := ih (p ++ [(x, y)]) (by rw [List.append_assoc]; exact hp)
    rw [snoc_len] at hih
    conv => arg 3; simp only [mkT, putT, List.reduceReplicate, List.set]
    refine EVgo9 (And.intro (hlt) ( And.intro (hw) ( And.intro (e0) ( And.intro (lenP) ( And.intro (allP) (snocP)))))) trivial trivial trivial trivial trivial trivial trivial trivial trivial trivial trivial ?_
    exact WC.loop rfl hih
theorem s23 (l : List Pr) (hl : l.length ≤ 1000000) : Sp cf 23 [slP l, slP l] (.bool true) := by
  refine sp_of hcf env23 ?_
  simp only [slP]
  conv => arg 2; simp only [ir23]
  conv => arg 3; simp only [ir23, Go.Proofs.YtcphpiboamlanaaEv.start, List.length, Nat.reduceAdd, Nat.reduceSub, List.reduceReplicate, List.append_eq, List.cons_append, List.nil_append]
  conv => arg 4; simp only [heapOf]
  try conv => arg 5; simp only [List.length, Nat.reduceAdd]
  try conv => arg 6; simp only [List.length, Nat.reduceAdd]
  refine EVgl9 trivial trivial trivial trivial trivial trivial trivial trivial trivial trivial trivial trivial ?_
  refine WC.loop (T' := _) (H' := _) (n' := _) rfl ((?_ : ∀ (r p : List Pr), p ++ r = l →
    WC cf _ (mkT 26 [(0, .sl l.length false (flat encP l)), (1, .sl l.length false (flat encP l)), (5, .int .i64 (p.length : Nat))]) [] 0 0 _) l [] rfl)
  intro r
  induction r with
  | nil =>
    intro p hp
    rw [List.append_nil] at hp
    subst hp
    conv => arg 3; simp only [mkT, putT, List.reduceReplicate, List.set]
    refine EVgl9 trivial trivial trivial trivial trivial trivial trivial trivial trivial trivial trivial trivial ?_
    exact EVret trivial
  | cons x r ih =>
    intro p hp
    obtain ⟨x, y⟩ := x
    have hlen : l.length = p.length + (r.length + 1) := by rw [← hp]; simp
    have hlt : (p.length : Int) < (l.length : Int) := by omega
    have hw : IntKind.i64.wrap ((p.length : Int) + 1) = ((p.length + 1 : Nat) : Int) := by rw [i64_in _ (by omega)]; simp
    have e0 := mid_P hp
    have hih := ih (p ++ [(x, y)]) (by rw [List.append_assoc]; exact hp)
    rw [snoc_len] at hih
    conv => arg 3; simp only [mkT, putT, List.reduceReplicate, List.set]
    have hxy : (x == x && y == y) = true := by rw [beq_self_eq_true, beq_self_eq_true]; rfl
    refine EVgo9 (And.intro (hlt) ( And.intro (hw) ( And.intro (e0) (hxy)))) trivial trivial trivial trivial trivial trivial trivial trivial trivial trivial trivial ?_
    exact WC.loop rfl hih
theorem s36 (l : List Pr) (hl : l.length ≤ 1000000) : Sp cf 36 [slP l, slP l] (.bool true) := by
  refine sp_of hcf env36 ?_
  simp only [slP]
  conv => arg 2; simp only [ir36]
  conv => arg 3; simp only [ir36, Go.Proofs.YtcphpiboamlanaaEv.start, List.length, Nat.reduceAdd, Nat.reduceSub, List.reduceReplicate, List.append_eq, List.cons_append, List.nil_append]
  conv => arg 4; simp only [heapOf]
  try conv => arg 5; simp only [List.length, Nat.reduceAdd]
  try conv => arg 6; simp only [List.length, Nat.reduceAdd]
  refine EVgl9 trivial trivial trivial trivial trivial trivial trivial trivial trivial trivial trivial trivial ?_
  refine WC.loop (T' := _) (H' := _) (n' := _) rfl ((?_ : ∀ (r p : List Pr), p ++ r = l →
    WC cf _ (mkT 26 [(0, .sl l.length false (flat encP l)), (1, .sl l.length false (flat encP l)), (5, .int .i64 (p.length : Nat))]) [] 0 0 _) l [] rfl)
  intro r
  induction r with
  | nil =>
    intro p hp
    rw [List.append_nil] at hp
    subst hp
    conv => arg 3; simp only [mkT, putT, List.reduceReplicate, List.set]
    refine EVgl9 trivial trivial trivial trivial trivial trivial trivial trivial trivial trivial trivial trivial ?_
    exact EVret trivial
  | cons x r ih =>
    intro p hp
    obtain ⟨x, y⟩ := x
    have hlen : l.length = p.length + (r.length + 1) := by rw [← hp]; simp
    have hlt : (p.length : Int) < (l.length : Int) := by omega
    have hw : IntKind.i64.wrap ((p.length : Int) + 1) = ((p.length + 1 : Nat) : Int) := by rw [i64_in _ (by omega)]; simp
    have e0 := mid_P hp
    have hih := ih (p ++ [(x, y)]) (by rw [List.append_assoc]; exact hp)
    rw [snoc_len] at hih
    conv => arg 3; simp only [mkT, putT, List.reduceReplicate, List.set]
    have hxy : (x == x && y == y) = true := by rw [beq_self_eq_true, beq_self_eq_true]; rfl
    refine EVgo9 (And.intro (hlt) ( And.intro (hw) ( And.intro (e0) (hxy)))) trivial trivial trivial trivial trivial trivial trivial trivial trivial trivial trivial ?_
    exact WC.loop rfl hih
theorem s17 (b : Bd) (hb : Few b) : Sp cf 17 [bE b, bE b] (.bool true) := by
  have h23 := s23 hcf b.c (by have := hb.c; omega)
  have h36 := s36 hcf b.m (by have := hb.m; omega)
  have h36' := s36 hcf b.o (by have := hb.o; omega)
  refine sp_of hcf env17 ?_
  simp only [bE, slP] at h23 h36 h36' ⊢
  conv => arg 2; simp only [ir17]
  conv => arg 3; simp only [ir17, Go.Proofs.YtcphpiboamlanaaEv.start, List.length, Nat.reduceAdd, Nat.reduceSub, List.reduceReplicate, List.append_eq, List.cons_append, List.nil_append]
  conv => arg 4; simp only [heapOf]
  try conv => arg 5; simp only [List.length, Nat.reduceAdd]
  try conv => arg 6; simp only [List.length, Nat.reduceAdd]
  refine EVgo9 trivial (h23) (h36) (h36') trivial trivial trivial trivial trivial trivial trivial trivial ?_
  exact EVret trivial
theorem s30 (o : Int) : Sp cf 30 [.int .i64 o] (.bool (leadsB o)) := by
  refine sp_of hcf env30 ?_
  unfold leadsB
  conv => arg 2; simp only [ir30]
  conv => arg 3; simp only [ir30, Go.Proofs.YtcphpiboamlanaaEv.start, List.length, Nat.reduceAdd, Nat.reduceSub, List.reduceReplicate, List.append_eq, List.cons_append, List.nil_append]
  conv => arg 4; simp only [heapOf]
  try conv => arg 5; simp only [List.length, Nat.reduceAdd]
  try conv => arg 6; simp only [List.length, Nat.reduceAdd]
  cases h1 : (o == 1) with
  | true =>
    refine EVgo9 (h1) trivial trivial trivial trivial trivial trivial trivial trivial trivial trivial trivial ?_
    exact EVret trivial
  | false =>
  cases h2 : (o == 2) with
  | true =>
    refine EVgo9 (And.intro (h1) (h2)) trivial trivial trivial trivial trivial trivial trivial trivial trivial trivial trivial ?_
    exact EVret trivial
  | false =>
  cases h3 : (o == 6) with
  | true =>
    refine EVgo9 (And.intro (h1) ( And.intro (h2) (h3))) trivial trivial trivial trivial trivial trivial trivial trivial trivial trivial trivial ?_
    exact EVret trivial
  | false =>
  cases h4 : (o == 7) with
  | true =>
    refine EVgo9 (And.intro (h1) ( And.intro (h2) ( And.intro (h3) (h4)))) trivial trivial trivial trivial trivial trivial trivial trivial trivial trivial trivial ?_
    exact EVret trivial
  | false =>
    refine EVgo9 (And.intro (h1) ( And.intro (h2) ( And.intro (h3) (h4)))) trivial trivial trivial trivial trivial trivial trivial trivial trivial trivial trivial ?_
    exact EVret trivial
end
end Go.Proofs.YtcphpiboamlanaaR
