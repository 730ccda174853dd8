/- Evf08I: a part of the proof. -/
import Derived.Test.YtcphpiboamlanaaEvf08H
open Go Go.Proofs.YtcphpiboamlanaaEv Go.Proofs.YtcphpiboamlanaaR Go.IntWalk
set_option maxRecDepth 20000
set_option maxHeartbeats 8000000
set_option linter.unusedVariables false
set_option linter.unusedSimpArgs false
namespace Go.Proofs.YtcphpiboamlanaaR
/-- the heap that the closure of close sees: its number, the thread, its rows -/
def hC (d : Int) (b : Bd) (rc rm rq : List Pr) : List (Option Blk) := [some (.box [.int .i64 d]), some (.box [.own 2 2 0 b.c.length, .own 3 2 0 b.m.length, .own 4 2 0 b.o.length]), some (.row (flat encP rc)), some (.row (flat encP rm)), some (.row (flat encP rq))]
/-- the heap that DeleteFunc sees -/
def hD (d : Int) (b : Bd) (rc rm rq : List Pr) : List (Option Blk) := [some (.row (flat encP rq)), some (.box [.int .i64 d]), some (.box [.own 3 2 0 b.c.length, .own 4 2 0 b.m.length, .own 0 2 0 b.o.length]), some (.row (flat encP rc)), some (.row (flat encP rm))]
section
variable {cf : CF} (hcf : cf = ev env)
include hcf
theorem s79t (d a : Int) (n : Nat) (ea : a = n) (b : Bd) (rc rm rq : List Pr) (hr : Rw b rc rm rq) (hb : Sm b) (hn : n < b.c.length) : cf 79 [.agg [.int .i64 d, .int .i64 a], .ptr 0 0, .cp (.ptr 1 0)] (hC d b rc rm rq) = some (.bool true, hC d ⟨resC b.c n, b.m, b.o⟩ (resR b.c rc n) rm rq) := by
  subst ea
  have h71 := s71 hcf b rc rm rq n hr hb hn
  refine ev_ofC' hcf env79 ?_
  simp only [hC, hB] at h71 ⊢
  conv => arg 2; simp only [ir79]
  conv => arg 3; simp only [ir79, Go.Proofs.YtcphpiboamlanaaEv.start, List.length, Nat.reduceAdd, Nat.reduceSub, List.reduceReplicate, List.append_eq, List.cons_append, List.nil_append]
  conv => arg 4; simp only [heapOf]
  try conv => arg 5; simp only [List.length, Nat.reduceAdd]
  try conv => arg 6; simp only [List.length, Nat.reduceAdd]
  refine EVgl9 trivial (h71) trivial trivial trivial trivial trivial trivial trivial trivial trivial trivial ?_
  exact WQ.ret rfl
theorem s79f (d k a : Int) (hk : k ≠ d) (b : Bd) (rc rm rq : List Pr) : cf 79 [.agg [.int .i64 k, .int .i64 a], .ptr 0 0, .cp (.ptr 1 0)] (hC d b rc rm rq) = some (.bool false, hC d b rc rm rq) := by
  have hk' : (k == d) = false := beq_eq_false_iff_ne.2 hk
  refine ev_ofC' hcf env79 ?_
  simp only [hC] at ⊢
  conv => arg 2; simp only [ir79]
  conv => arg 3; simp only [ir79, Go.Proofs.YtcphpiboamlanaaEv.start, List.length, Nat.reduceAdd, Nat.reduceSub, List.reduceReplicate, List.append_eq, List.cons_append, List.nil_append]
  conv => arg 4; simp only [heapOf]
  try conv => arg 5; simp only [List.length, Nat.reduceAdd]
  try conv => arg 6; simp only [List.length, Nat.reduceAdd]
  refine EVgo9 (hk') trivial trivial trivial trivial trivial trivial trivial trivial trivial trivial trivial ?_
  exact WQ.ret rfl
theorem s76x (b : Bd) (o : Int) (hb : Good b) (h : b.c.length + 1 ≤ 4096) (ht : (topP b.m 0 3).2 = true) (c' q' : List Pr) (k : Nat)
    (h78 : cf 78 [.own 0 2 0 b.o.length, .fn 79 [] [.ptr 1 0, .cp (.ptr 2 0)]] (hD (deep b.m : Nat) ⟨b.c ++ [(o, (topP b.m 0 3).fst)], b.m.take (b.m.length - 1), b.o⟩ (b.c ++ [(o, (topP b.m 0 3).fst)]) b.m b.o) = some (.own 0 2 0 k, hD (deep b.m : Nat) ⟨b.c ++ [(o, (topP b.m 0 3).fst)], b.m.take (b.m.length - 1), b.o⟩ c' b.m q')) : cf 76 [.ptr 0 0, .int .i64 o] (hB b b.c b.m b.o) = some (.int .i64 0, [some (.box [.own 4 2 0 (b.c ++ [(o, (topP b.m 0 3).fst)]).length, .own 2 2 0 (b.m.length - 1), .own 3 2 0 k]), none, some (.row (flat encP b.m)), some (.row (flat encP q')), some (.row (flat encP c'))]) := by
  have h34 := s34 hcf (fun _ _ => rfl) (own2 b.c b.c) (own2 b.o b.o) b.m (by have := hb.sm.m; omega)
  rw [← own2_eq b.m b.m List.take_length] at h34
  have h74 := s74 hcf b b.c b.m b.o o 3 (topP b.m 0 3).fst (Rw.refl b) hb.sm h (Prod.ext rfl ht)
  refine ev_ofC' hcf env76 ?_
  simp only [hB, hD, len_pre] at h74 h78 ⊢
  conv => arg 2; simp only [ir76]
  conv => arg 3; simp only [ir76, Go.Proofs.YtcphpiboamlanaaEv.start, List.length, Nat.reduceAdd, Nat.reduceSub, List.reduceReplicate, List.append_eq, List.cons_append, List.nil_append]
  conv => arg 4; simp only [heapOf]
  try conv => arg 5; simp only [List.length, Nat.reduceAdd]
  try conv => arg 6; simp only [List.length, Nat.reduceAdd]
  refine EVgo9 trivial (h34) (h74) (h78) trivial trivial trivial trivial trivial trivial trivial trivial ?_
  exact WQ.ret rfl
end
end Go.Proofs.YtcphpiboamlanaaR
