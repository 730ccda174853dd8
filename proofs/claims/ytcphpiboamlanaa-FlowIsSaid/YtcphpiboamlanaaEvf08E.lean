/- Evf08E: a part of the proof. -/
import Derived.Test.YtcphpiboamlanaaEvf08D
open Go Go.Proofs.YtcphpiboamlanaaEv Go.Proofs.YtcphpiboamlanaaR Go.IntWalk
set_option maxRecDepth 20000
set_option maxHeartbeats 8000000
set_option linter.unusedVariables false
set_option linter.unusedSimpArgs false
namespace Go.Proofs.YtcphpiboamlanaaR
theorem topP_ok {m : List Pr} {below : Nat} {kind a : Int} (h : topP m below kind = (a, true)) : below + 1 ≤ m.length ∧ m.getD (m.length - 1 - below) (0, 0) = (kind, a) := by
  unfold topP at h
  split at h
  · next q =>
    simp only [Prod.mk.injEq, and_true] at h
    exact ⟨q.1, Prod.ext q.2 h⟩
  · simp at h
section
variable {cf : CF} (hcf : cf = ev env)
include hcf
theorem s69 (b : Bd) (rc rm rq : List Pr) (op kind behind : Int) (hr : Rw b rc rm rq) (hb : Sm b) (h : b.c.length + 1 ≤ 4096) (hbe : 0 ≤ behind ∧ behind ≤ 1) : cf 69 [.ptr 0 0, .int .i64 op, .int .i64 kind, .int .i64 behind] (hB b rc rm rq) = some (.int .i64 0,
    [some (.box [.own 4 2 0 (b.c ++ [(op, 0)]).length, .own 5 2 0 (b.m ++ [(kind, (b.c.length : Int) + behind)]).length, .own 3 2 0 b.o.length]), none, none, some (.row (flat encP rq)), some (.row (flat encP (b.c ++ [(op, 0)]))), some (.row (flat encP (b.m ++ [(kind, (b.c.length : Int) + behind)])))]) := by
  have h28 := s28 hcf b rc rm rq [(op, 0)] hr hb (by simp) (by simp; omega)
  have h73 := s73 hcf ⟨b.c ++ [(op, 0)], b.m, b.o⟩ (b.c ++ [(op, 0)]) rm rq kind ((b.c.length : Int) + behind) ⟨List.take_length, hr.m, hr.o⟩ ⟨by simp only [List.length_append, List.length_cons, List.length_nil]; omega, hb.m, hb.o⟩
  have w : IntKind.i64.wrap ((b.c.length : Int) + behind) = (b.c.length : Int) + behind := i64_in _ (by omega)
  refine ev_ofC' hcf env69 ?_
  simp only [hB] at h28 h73 ⊢
  conv => arg 2; simp only [ir69]
  conv => arg 3; simp only [ir69, Go.Proofs.YtcphpiboamlanaaEv.start, List.length, Nat.reduceAdd, Nat.reduceSub, List.reduceReplicate, List.append_eq, List.cons_append, List.nil_append]
  conv => arg 4; simp only [heapOf]
  try conv => arg 5; simp only [List.length, Nat.reduceAdd]
  try conv => arg 6; simp only [List.length, Nat.reduceAdd]
  refine EVgo9 (w) (h28) (h73) trivial trivial trivial trivial trivial trivial trivial trivial trivial ?_
  exact WQ.ret rfl
theorem s69n (b : Bd) (rc rm rq : List Pr) (op kind behind : Int) (hr : Rw b rc rm rq) (hb : Sm b) (h : ¬ b.c.length + 1 ≤ 4096) : cf 69 [.ptr 0 0, .int .i64 op, .int .i64 kind, .int .i64 behind] (hB b rc rm rq) = some (.int .i64 (-8), hB b rc rm rq) := by
  have h28 := s28n hcf b rc rm rq [(op, 0)] hr hb (by simp) (by simp; omega)
  refine ev_ofC' hcf env69 ?_
  simp only [hB] at h28 ⊢
  conv => arg 2; simp only [ir69]
  conv => arg 3; simp only [ir69, Go.Proofs.YtcphpiboamlanaaEv.start, List.length, Nat.reduceAdd, Nat.reduceSub, List.reduceReplicate, List.append_eq, List.cons_append, List.nil_append]
  conv => arg 4; simp only [heapOf]
  try conv => arg 5; simp only [List.length, Nat.reduceAdd]
  try conv => arg 6; simp only [List.length, Nat.reduceAdd]
  refine EVgo9 trivial (h28) trivial trivial trivial trivial trivial trivial trivial trivial trivial trivial ?_
  exact WQ.ret rfl
theorem s70v (b : Bd) (rc rm rq : List Pr) (below : Nat) (kind : Int) (hr : Rw b rc rm rq) (hb : Sm b) (hbe : below ≤ 10) : cf 70 [.rop [own2 b.c rc, own2 b.m rm, own2 b.o rq], .int .i64 below, .int .i64 kind] [] = some (.tup [.int .i64 (topP b.m below kind).1, .bool (topP b.m below kind).2], []) := by
  rw [own2_eq b.m rm hr.m]
  exact s70 hcf _ _ b.m below kind hb.m hbe
theorem s74 (b : Bd) (rc rm rq : List Pr) (op kind a : Int) (hr : Rw b rc rm rq) (hb : Sm b) (h : b.c.length + 1 ≤ 4096) (ht : topP b.m 0 kind = (a, true)) : cf 74 [.ptr 0 0, .int .i64 op, .int .i64 kind] (hB b rc rm rq) = some (.int .i64 0,
    [some (.box [.own 4 2 0 (b.c ++ [(op, a)]).length, .own 2 2 0 (b.m.length - 1), .own 3 2 0 b.o.length]), none, some (.row (flat encP rm)), some (.row (flat encP rq)), some (.row (flat encP (b.c ++ [(op, a)])))]) := by
  have h70 := s70v hcf b rc rm rq 0 kind hr hb (by omega)
  rw [ht] at h70
  have h28 := s28 hcf b rc rm rq [(op, a)] hr hb (by simp) (by simp; omega)
  have h72 := s72 hcf ⟨b.c ++ [(op, a)], b.m, b.o⟩ (b.c ++ [(op, a)]) rm rq 1 ⟨List.take_length, hr.m, hr.o⟩ ⟨by simp only [List.length_append, List.length_cons, List.length_nil]; omega, hb.m, hb.o⟩ (topP_ok ht).1
  refine ev_ofC' hcf env74 ?_
  simp only [hB] at h28 h72 ⊢
  conv => arg 2; simp only [ir74]
  conv => arg 3; simp only [ir74, Go.Proofs.YtcphpiboamlanaaEv.start, List.length, Nat.reduceAdd, Nat.reduceSub, List.reduceReplicate, List.append_eq, List.cons_append, List.nil_append]
  conv => arg 4; simp only [heapOf]
  try conv => arg 5; simp only [List.length, Nat.reduceAdd]
  try conv => arg 6; simp only [List.length, Nat.reduceAdd]
  refine EVgo9 trivial (h70) (h28) (h72) trivial trivial trivial trivial trivial trivial trivial trivial ?_
  exact WQ.ret rfl
theorem s74n (b : Bd) (rc rm rq : List Pr) (op kind a : Int) (hr : Rw b rc rm rq) (hb : Sm b) (h : ¬ b.c.length + 1 ≤ 4096) (ht : topP b.m 0 kind = (a, true)) : cf 74 [.ptr 0 0, .int .i64 op, .int .i64 kind] (hB b rc rm rq) = some (.int .i64 (-8), hB b rc rm rq) := by
  have h70 := s70v hcf b rc rm rq 0 kind hr hb (by omega)
  rw [ht] at h70
  have h28 := s28n hcf b rc rm rq [(op, a)] hr hb (by simp) (by simp; omega)
  refine ev_ofC' hcf env74 ?_
  simp only [hB] at h28 ⊢
  conv => arg 2; simp only [ir74]
  conv => arg 3; simp only [ir74, Go.Proofs.YtcphpiboamlanaaEv.start, List.length, Nat.reduceAdd, Nat.reduceSub, List.reduceReplicate, List.append_eq, List.cons_append, List.nil_append]
  conv => arg 4; simp only [heapOf]
  try conv => arg 5; simp only [List.length, Nat.reduceAdd]
  try conv => arg 6; simp only [List.length, Nat.reduceAdd]
  refine EVgo9 trivial (h70) (h28) trivial trivial trivial trivial trivial trivial trivial trivial trivial ?_
  exact WQ.ret rfl
theorem s74t (b : Bd) (rc rm rq : List Pr) (op kind : Int) (hr : Rw b rc rm rq) (hb : Sm b) (ht : (topP b.m 0 kind).2 = false) : cf 74 [.ptr 0 0, .int .i64 op, .int .i64 kind] (hB b rc rm rq) = some (.int .i64 (-22), hB b rc rm rq) := by
  have h70 := s70v hcf b rc rm rq 0 kind hr hb (by omega)
  rw [ht] at h70
  refine ev_ofC' hcf env74 ?_
  simp only [hB] at ⊢
  conv => arg 2; simp only [ir74]
  conv => arg 3; simp only [ir74, Go.Proofs.YtcphpiboamlanaaEv.start, List.length, Nat.reduceAdd, Nat.reduceSub, List.reduceReplicate, List.append_eq, List.cons_append, List.nil_append]
  conv => arg 4; simp only [heapOf]
  try conv => arg 5; simp only [List.length, Nat.reduceAdd]
  try conv => arg 6; simp only [List.length, Nat.reduceAdd]
  refine EVgo9 trivial (h70) trivial trivial trivial trivial trivial trivial trivial trivial trivial trivial ?_
  exact WQ.ret rfl
end
end Go.Proofs.YtcphpiboamlanaaR
