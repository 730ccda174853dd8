/- Evf08T: a part of the proof. -/
import Derived.Test.YtcphpiboamlanaaEvf08S
open Go Go.Proofs.YtcphpiboamlanaaEv Go.Proofs.YtcphpiboamlanaaR Go.IntWalk
set_option maxRecDepth 20000
set_option maxHeartbeats 8000000
set_option linter.unusedVariables false
set_option linter.unusedSimpArgs false
namespace Go.Proofs.YtcphpiboamlanaaR
theorem bad_any {b : Bd} {x : Pr} {p r : List Pr} (h : p ++ x :: r = b.m) (hx : badM b.c.length x = true) : saneB b = false := by
  have : b.m.any (badM b.c.length) = true := List.any_eq_true.2 ⟨x, by rw [← h]; simp, hx⟩
  unfold saneB
  rw [this]
  simp
theorem out_any {b : Bd} {x : Pr} {p r : List Pr} (h : p ++ x :: r = b.o) (hx : outM (deep b.m) b.c.length x = true) : saneB b = false := by
  have : b.o.any (outM (deep b.m) b.c.length) = true := List.any_eq_true.2 ⟨x, by rw [← h]; simp, hx⟩
  unfold saneB
  rw [this]
  simp
theorem any_snoc {p : List Pr} {f : Pr → Bool} {x : Pr} (h : p.any f = false) (hx : f x = false) : (p ++ [x]).any f = false := by rw [List.any_append, h]; simp [hx]
section
variable {cf : CF} (hcf : cf = ev env)
include hcf
theorem s29 (p : Pr) (n : Nat) : cf 29 [.agg (encP p), .rop [.int .i64 n]] [] = some (.bool (astray n p), []) := by
  obtain ⟨a, b⟩ := p
  have h30 := s30 hcf a
  refine ev_ofC' hcf env29 ?_
  simp only [encP, astray]
  conv => arg 2; simp only [ir29]
  conv => arg 3; simp only [ir29, Go.Proofs.YtcphpiboamlanaaEv.start, List.length, Nat.reduceAdd, Nat.reduceSub, List.reduceReplicate, List.append_eq, List.cons_append, List.nil_append]
  conv => arg 4; simp only [heapOf]
  try conv => arg 5; simp only [List.length, Nat.reduceAdd]
  try conv => arg 6; simp only [List.length, Nat.reduceAdd]
  cases hl : leadsB a with
  | false =>
    rw [hl] at h30
    simp only [Bool.false_and]
    refine EVgo9 trivial (h30) trivial trivial trivial trivial trivial trivial trivial trivial trivial trivial ?_
    exact WQ.ret rfl
  | true =>
    rw [hl] at h30
    by_cases h1 : b < 0
    · simp only [h1, decide_true, decide_false, Bool.true_and, Bool.true_or, Bool.false_or]
      refine EVgo9 (h1) (h30) trivial trivial trivial trivial trivial trivial trivial trivial trivial trivial ?_
      exact WQ.ret rfl
    · by_cases h2 : (n : Int) ≤ b
      · simp only [h1, h2, decide_true, decide_false, Bool.true_and, Bool.true_or, Bool.false_or]
        refine EVgo9 (And.intro (h1) (h2)) (h30) trivial trivial trivial trivial trivial trivial trivial trivial trivial trivial ?_
        exact WQ.ret rfl
      · simp only [h1, h2, decide_true, decide_false, Bool.true_and, Bool.true_or, Bool.false_or]
        refine EVgo9 (And.intro (h1) (h2)) (h30) trivial trivial trivial trivial trivial trivial trivial trivial trivial trivial ?_
        exact WQ.ret rfl
theorem s12 (l : List Pr) (hl : l.length ≤ 1000000) : Sp cf 12 [slP l] (.bool (wholeB l)) := by
  have h31 := s31a hcf (fun _ _ => rfl) l 29 [.int .i64 (l.length : Nat)] (astray l.length) (fun a b => s29 hcf (a, b) l.length) (by omega)
  refine sp_of hcf env12 ?_
  unfold wholeB
  simp only [slP]
  conv => arg 2; simp only [ir12]
  conv => arg 3; simp only [ir12, Go.Proofs.YtcphpiboamlanaaEv.start, List.length, Nat.reduceAdd, Nat.reduceSub, List.reduceReplicate, List.append_eq, List.cons_append, List.nil_append]
  conv => arg 4; simp only [heapOf]
  try conv => arg 5; simp only [List.length, Nat.reduceAdd]
  try conv => arg 6; simp only [List.length, Nat.reduceAdd]
  by_cases h0 : 0 < l.length
  · have h0' : (l.length : Int) > 0 := by omega
    have w : IntKind.i64.wrap ((l.length : Int) - 1) = ((l.length - 1 : Nat) : Int) := by rw [i64_in _ (by omega)]; omega
    have hi : (((l.length - 1 : Nat) : Int) < (l.length : Int)) := by omega
    have e0 := at_P (l := l) (i := l.length - 1) (by omega)
    cases h4 : ((l.getD (l.length - 1) (0, 0)).1 == 4) with
    | true =>
      simp only [h0, decide_true, Bool.true_and]
      refine EVgo9 (And.intro (h0') ( And.intro (w) ( And.intro (e0) (h4)))) (h31) trivial trivial trivial trivial trivial trivial trivial trivial trivial trivial ?_
      exact EVret trivial
    | false =>
      simp only [h0, decide_true, Bool.true_and, Bool.false_and]
      refine EVgo9 (And.intro (h0') ( And.intro (w) ( And.intro (e0) (h4)))) (h31) trivial trivial trivial trivial trivial trivial trivial trivial trivial trivial ?_
      exact EVret trivial
  · have h0' : ¬ (l.length : Int) > 0 := by omega
    simp only [h0, decide_false, Bool.false_and]
    refine EVgo9 (h0') (h31) trivial trivial trivial trivial trivial trivial trivial trivial trivial trivial ?_
    exact EVret trivial
theorem s24 (b : Bd) (hc : b.c.length ≤ 1000000) (hm : b.m.length ≤ 1000000) (ho : b.o.length ≤ 1000000) : Sp cf 24 [bE b] (.bool (saneB b)) := by
  have h16 := s16 hcf b (by omega)
  refine sp_of hcf env24 ?_
  simp only [bE, slP] at h16 ⊢
  conv => arg 2; simp only [ir24]
  conv => arg 3; simp only [ir24, Go.Proofs.YtcphpiboamlanaaEv.start, List.length, Nat.reduceAdd, Nat.reduceSub, List.reduceReplicate, List.append_eq, List.cons_append, List.nil_append]
  conv => arg 4; simp only [heapOf]
  try conv => arg 5; simp only [List.length, Nat.reduceAdd]
  try conv => arg 6; simp only [List.length, Nat.reduceAdd]
  refine EVgo9 trivial trivial trivial trivial trivial trivial trivial trivial trivial trivial trivial trivial ?_
  refine WC.loop (T' := _) (H' := _) (n' := _) rfl ((?_ : ∀ (r p : List Pr), p ++ r = b.m → p.any (badM b.c.length) = false →
    WC cf _ (mkT 88 [(1, .ptr 0 0), (3, .int .i64 (b.c.length : Nat)), (4, .int .i64 (p.length : Nat))]) [(0, .box [.sl b.c.length false (flat encP b.c), .sl b.m.length false (flat encP b.m), .sl b.o.length false (flat encP b.o)])] 0 1 _) b.m [] rfl rfl)
  intro r
  induction r with
  | nil =>
    intro p hp hbad
    rw [List.append_nil] at hp
    subst hp
    conv => arg 3; simp only [mkT, putT, List.reduceReplicate, List.set]
    refine EVgl9 trivial trivial trivial trivial trivial trivial trivial trivial trivial trivial trivial trivial ?_
    refine WC.loop (T' := _) (H' := _) (n' := _) rfl ((?_ : ∀ (r q : List Pr), q ++ r = b.o → q.any (outM (deep b.m) b.c.length) = false →
      WC cf _ (mkT 88 [(1, .ptr 0 0), (3, .int .i64 (b.c.length : Nat)), (6, .int .i64 (q.length : Nat))]) [(0, .box [.sl b.c.length false (flat encP b.c), .sl b.m.length false (flat encP b.m), .sl b.o.length false (flat encP b.o)])] 0 1 _) b.o [] rfl rfl)
    intro r
    induction r with
    | nil =>
      intro q hq hbo
      rw [List.append_nil] at hq
      subst hq
      have e : saneB b = decide ((b.c.length : Int) ≤ 4096) := by unfold saneB; rw [hbad, hbo]; simp
      rw [e]
      conv => arg 3; simp only [mkT, putT, List.reduceReplicate, List.set]
      refine EVgl9 trivial trivial trivial trivial trivial trivial trivial trivial trivial trivial trivial trivial ?_
      exact EVret trivial
    | cons x r ih =>
      intro q hq hbo
      obtain ⟨x, y⟩ := x
      have hlen : b.o.length = q.length + (r.length + 1) := by rw [← hq]; simp
      have hlt : (q.length : Int) < (b.o.length : Int) := by omega
      have hw : IntKind.i64.wrap ((q.length : Int) + 1) = ((q.length + 1 : Nat) : Int) := by rw [i64_in _ (by omega)]; simp
      have e0 := mid_P hq
      have hih := fun hx => ih (q ++ [(x, y)]) (by rw [List.append_assoc]; exact hq) (any_snoc hbo hx)
      rw [snoc_len] at hih
      have hf := fun hx => out_any (x := (x, y)) hq hx
      simp only [outM] at hih hf
      by_cases h1 : x < 1
      · rw [hf (by simp only [h1, decide_true, Bool.true_or])]
        conv => arg 3; simp only [mkT, putT, List.reduceReplicate, List.set]
        refine EVgo9 (And.intro (hlt) ( And.intro (e0) (h1))) (h16) trivial trivial trivial trivial trivial trivial trivial trivial trivial trivial ?_
        exact EVret trivial
      by_cases h2 : x > (deep b.m : Int)
      · rw [hf (by simp only [h2, decide_true, Bool.true_or, Bool.or_true])]
        conv => arg 3; simp only [mkT, putT, List.reduceReplicate, List.set]
        refine EVgo9 (And.intro (hlt) ( And.intro (e0) ( And.intro (h1) (h2)))) (h16) trivial trivial trivial trivial trivial trivial trivial trivial trivial trivial ?_
        exact EVret trivial
      by_cases h3 : y < 0
      · rw [hf (by simp only [h3, decide_true, Bool.true_or, Bool.or_true])]
        conv => arg 3; simp only [mkT, putT, List.reduceReplicate, List.set]
        refine EVgo9 (And.intro (hlt) ( And.intro (e0) ( And.intro (h1) ( And.intro (h2) (h3))))) (h16) trivial trivial trivial trivial trivial trivial trivial trivial trivial trivial ?_
        exact EVret trivial
      by_cases h4 : (b.c.length : Int) ≤ y
      · rw [hf (by simp only [h4, decide_true, Bool.true_or, Bool.or_true])]
        conv => arg 3; simp only [mkT, putT, List.reduceReplicate, List.set]
        refine EVgo9 (And.intro (hlt) ( And.intro (e0) ( And.intro (h1) ( And.intro (h2) ( And.intro (h3) (h4)))))) (h16) trivial trivial trivial trivial trivial trivial trivial trivial trivial trivial ?_
        exact EVret trivial
      · have hih' := hih (by simp only [h1, h2, h3, h4, decide_false, Bool.or_false])
        conv => arg 3; simp only [mkT, putT, List.reduceReplicate, List.set]
        refine EVgo9 (And.intro (hlt) ( And.intro (hw) ( And.intro (e0) ( And.intro (h1) ( And.intro (h2) ( And.intro (h3) (h4))))))) (h16) trivial trivial trivial trivial trivial trivial trivial trivial trivial trivial ?_
        exact WC.loop rfl hih'
  | cons x r ih =>
    intro p hp hbad
    obtain ⟨x, y⟩ := x
    have hlen : b.m.length = p.length + (r.length + 1) := by rw [← hp]; simp
    have hlt : (p.length : Int) < (b.m.length : Int) := by omega
    have hw : IntKind.i64.wrap ((p.length : Int) + 1) = ((p.length + 1 : Nat) : Int) := by rw [i64_in _ (by omega)]; simp
    have e0 := mid_P hp
    have hih := fun hx => ih (p ++ [(x, y)]) (by rw [List.append_assoc]; exact hp) (any_snoc hbad hx)
    rw [snoc_len] at hih
    have hf := fun hx => bad_any (x := (x, y)) hp hx
    simp only [badM] at hih hf
    by_cases h1 : x < 1
    · rw [hf (by simp only [h1, decide_true, Bool.true_or])]
      conv => arg 3; simp only [mkT, putT, List.reduceReplicate, List.set]
      refine EVgo9 (And.intro (hlt) ( And.intro (e0) (h1))) trivial trivial trivial trivial trivial trivial trivial trivial trivial trivial trivial ?_
      exact EVret trivial
    by_cases h2 : x > 3
    · rw [hf (by simp only [h2, decide_true, Bool.true_or, Bool.or_true])]
      conv => arg 3; simp only [mkT, putT, List.reduceReplicate, List.set]
      refine EVgo9 (And.intro (hlt) ( And.intro (e0) ( And.intro (h1) (h2)))) trivial trivial trivial trivial trivial trivial trivial trivial trivial trivial trivial ?_
      exact EVret trivial
    by_cases h3 : y < 0
    · rw [hf (by simp only [h3, decide_true, Bool.true_or, Bool.or_true])]
      conv => arg 3; simp only [mkT, putT, List.reduceReplicate, List.set]
      refine EVgo9 (And.intro (hlt) ( And.intro (e0) ( And.intro (h1) ( And.intro (h2) (h3))))) trivial trivial trivial trivial trivial trivial trivial trivial trivial trivial trivial ?_
      exact EVret trivial
    by_cases h4 : y > (b.c.length : Int)
    · rw [hf (by simp only [h4, decide_true, Bool.true_or, Bool.or_true])]
      conv => arg 3; simp only [mkT, putT, List.reduceReplicate, List.set]
      refine EVgo9 (And.intro (hlt) ( And.intro (e0) ( And.intro (h1) ( And.intro (h2) ( And.intro (h3) (h4)))))) trivial trivial trivial trivial trivial trivial trivial trivial trivial trivial trivial ?_
      exact EVret trivial
    cases h5 : (x == 1) with
    | false =>
      have hih' := hih (by simp only [h1, h2, h3, h4, h5, decide_false, Bool.or_false, Bool.false_and])
      conv => arg 3; simp only [mkT, putT, List.reduceReplicate, List.set]
      refine EVgo9 (And.intro (hlt) ( And.intro (hw) ( And.intro (e0) ( And.intro (h1) ( And.intro (h2) ( And.intro (h3) ( And.intro (h4) (h5)))))))) trivial trivial trivial trivial trivial trivial trivial trivial trivial trivial trivial ?_
      exact WC.loop rfl hih'
    | true =>
      cases h6 : (y == (b.c.length : Int)) with
      | true =>
        rw [hf (by simp only [h5, h6, Bool.and_self, Bool.or_true])]
        conv => arg 3; simp only [mkT, putT, List.reduceReplicate, List.set]
        refine EVgo9 (And.intro (hlt) ( And.intro (e0) ( And.intro (h1) ( And.intro (h2) ( And.intro (h3) ( And.intro (h4) ( And.intro (h5) (h6)))))))) trivial trivial trivial trivial trivial trivial trivial trivial trivial trivial trivial ?_
        exact EVret trivial
      | false =>
        have hih' := hih (by simp only [h1, h2, h3, h4, h5, h6, decide_false, Bool.or_false, Bool.and_false])
        conv => arg 3; simp only [mkT, putT, List.reduceReplicate, List.set]
        refine EVgo9 (And.intro (hlt) ( And.intro (hw) ( And.intro (e0) ( And.intro (h1) ( And.intro (h2) ( And.intro (h3) ( And.intro (h4) ( And.intro (h5) (h6))))))))) trivial trivial trivial trivial trivial trivial trivial trivial trivial trivial trivial ?_
        exact WC.loop rfl hih'
end
end Go.Proofs.YtcphpiboamlanaaR
