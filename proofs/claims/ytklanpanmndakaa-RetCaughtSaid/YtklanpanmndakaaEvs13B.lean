/- Evs13B: a part of the proof. -/
import Derived.Test.YtklanpanmndakaaEvs13A
open Go Go.Proofs.YtklanpanmndakaaEv Go.Proofs.YtklanpanmndakaaR Go.IntWalk
set_option maxRecDepth 20000
set_option maxHeartbeats 8000000
set_option linter.unusedVariables false
set_option linter.unusedSimpArgs false
namespace Go.Proofs.YtklanpanmndakaaR
section
variable {cf : CF} (hcf : cf = ev env)
include hcf
theorem s67 (t ta tb : Bool) (la lb : List Int) (h : la.length + lb.length ≤ 1000) : cf 67 [.sl 2 t [.sl la.length ta (flat encI la), .sl lb.length tb (flat encI lb)]] [] = some (.own 0 1 0 (la ++ lb).length, [some (.row (flat encI (la ++ lb)))]) := by
  refine ev_ofC' hcf env67 ?_
  conv => arg 2; simp only [ir67]
  conv => arg 3; simp only [ir67, Go.Proofs.YtklanpanmndakaaEv.start, List.length, Nat.reduceAdd, Nat.reduceSub, List.reduceReplicate, List.append_eq, List.cons_append, List.nil_append]
  conv => arg 4; simp only [heapOf]
  try conv => arg 5; simp only [List.length, Nat.reduceAdd]
  try conv => arg 6; simp only [List.length, Nat.reduceAdd]
  have w1 : IntKind.i64.wrap (0 + (la.length : Int)) = (la.length : Int) := by rw [i64_in _ (by omega)]; omega
  have w2 : IntKind.i64.wrap ((la.length : Int) + (lb.length : Int)) = ((la.length + lb.length : Nat) : Int) := by rw [i64_in _ (by omega)]; omega
  have wa : IntKind.i64.wrap 1 = 1 := by decide
  have wb : IntKind.i64.wrap 2 = 2 := by decide
  have n1 : ¬ ((la.length : Int) < 0) := by omega
  have n2 : ¬ (((la.length + lb.length : Nat) : Int) < 0) := by omega
  refine EVgo2 trivial trivial trivial trivial trivial ?_
  refine WC.loop (T' := mkT 36 [(0, .sl 2 t [.sl la.length ta (flat encI la), .sl lb.length tb (flat encI lb)]), (3, .int .i64 0), (9, .sl 2 t [.sl la.length ta (flat encI la), .sl lb.length tb (flat encI lb)]), (10, .int .i64 2), (11, .int .i64 0)]) (H' := []) (n' := 0) rfl ?_
  conv => arg 3; simp only [mkT, putT, List.reduceReplicate, List.set]
  refine EVgo2 (And.intro (w1) ( And.intro (wa) (n1))) trivial trivial trivial trivial ?_
  refine WC.loop (T' := mkT 36 [(0, .sl 2 t [.sl la.length ta (flat encI la), .sl lb.length tb (flat encI lb)]), (3, .int .i64 la.length), (9, .sl 2 t [.sl la.length ta (flat encI la), .sl lb.length tb (flat encI lb)]), (10, .int .i64 2), (11, .int .i64 1)]) (H' := []) (n' := 0) rfl ?_
  conv => arg 3; simp only [mkT, putT, List.reduceReplicate, List.set]
  refine EVgo2 (And.intro (w2) ( And.intro (wb) (n2))) trivial trivial trivial trivial ?_
  refine WC.loop (T' := mkT 36 [(0, .sl 2 t [.sl la.length ta (flat encI la), .sl lb.length tb (flat encI lb)]), (3, .int .i64 ((la.length + lb.length : Nat) : Int)), (9, .sl 2 t [.sl la.length ta (flat encI la), .sl lb.length tb (flat encI lb)]), (10, .int .i64 2), (11, .int .i64 2)]) (H' := []) (n' := 0) rfl ?_
  conv => arg 3; simp only [mkT, putT, List.reduceReplicate, List.set]
  obtain ⟨cs, h68⟩ := s68 hcf (la.length + lb.length) h
  have ht : (flat encI la).take la.length = flat encI la := List.take_of_length_le (by rw [lenI]; omega)
  have hn : ∀ x : List PV, [] ++ x = x := fun _ => rfl
  by_cases h0 : la.length + lb.length = 0
  · rw [if_pos h0] at h68
    refine EVgo2 trivial (h68) trivial trivial trivial ?_
    refine WC.loop (T' := mkT 36 [(6, .own 0 1 0 0), (25, .sl 2 t [.sl la.length ta (flat encI la), .sl lb.length tb (flat encI lb)]), (26, .int .i64 2), (27, .int .i64 0)]) (H' := [(0, .row [])]) (n' := 1) rfl ?_
    conv => arg 3; simp only [mkT, putT, List.reduceReplicate, List.set]
    refine EVgl2 (And.intro (wa) ( And.intro (lenI) (hn))) trivial trivial trivial trivial ?_
    refine WC.loop (T' := mkT 36 [(6, .own 0 1 0 la.length), (25, .sl 2 t [.sl la.length ta (flat encI la), .sl lb.length tb (flat encI lb)]), (26, .int .i64 2), (27, .int .i64 1)]) (H' := [(0, .row (flat encI la))]) (n' := 1) rfl ?_
    conv => arg 3; simp only [mkT, putT, List.reduceReplicate, List.set]
    refine EVgl2 (And.intro (wb) ( And.intro (lenI) (ht))) trivial trivial trivial trivial ?_
    rw [← flat_append]
    refine WC.loop (T' := mkT 36 [(6, .own 0 1 0 (la.length + lb.length)), (25, .sl 2 t [.sl la.length ta (flat encI la), .sl lb.length tb (flat encI lb)]), (26, .int .i64 2), (27, .int .i64 2)]) (H' := [(0, .row (flat encI (la ++ lb)))]) (n' := 1) rfl ?_
    conv => arg 3; simp only [mkT, putT, List.reduceReplicate, List.set]
    refine EVgo2 trivial trivial trivial trivial trivial ?_
    rw [List.length_append]
    exact WQ.ret rfl
  · rw [if_neg h0] at h68
    refine EVgo2 trivial (h68) trivial trivial trivial ?_
    refine WC.loop (T' := mkT 36 [(6, .own 0 1 0 0), (25, .sl 2 t [.sl la.length ta (flat encI la), .sl lb.length tb (flat encI lb)]), (26, .int .i64 2), (27, .int .i64 0)]) (H' := [(0, .row cs)]) (n' := 1) rfl ?_
    conv => arg 3; simp only [mkT, putT, List.reduceReplicate, List.set]
    refine EVgl2 (And.intro (wa) ( And.intro (lenI) (hn))) trivial trivial trivial trivial ?_
    refine WC.loop (T' := mkT 36 [(6, .own 0 1 0 la.length), (25, .sl 2 t [.sl la.length ta (flat encI la), .sl lb.length tb (flat encI lb)]), (26, .int .i64 2), (27, .int .i64 1)]) (H' := [(0, .row (flat encI la))]) (n' := 1) rfl ?_
    conv => arg 3; simp only [mkT, putT, List.reduceReplicate, List.set]
    refine EVgl2 (And.intro (wb) ( And.intro (lenI) (ht))) trivial trivial trivial trivial ?_
    rw [← flat_append]
    refine WC.loop (T' := mkT 36 [(6, .own 0 1 0 (la.length + lb.length)), (25, .sl 2 t [.sl la.length ta (flat encI la), .sl lb.length tb (flat encI lb)]), (26, .int .i64 2), (27, .int .i64 2)]) (H' := [(0, .row (flat encI (la ++ lb)))]) (n' := 1) rfl ?_
    conv => arg 3; simp only [mkT, putT, List.reduceReplicate, List.set]
    refine EVgo2 trivial trivial trivial trivial trivial ?_
    rw [List.length_append]
    exact WQ.ret rfl
end
end Go.Proofs.YtklanpanmndakaaR
