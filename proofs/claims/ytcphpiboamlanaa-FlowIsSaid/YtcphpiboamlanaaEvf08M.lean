/- Evf08M: a part of the proof. -/
import Derived.Test.YtcphpiboamlanaaEvf08L
open Go Go.Proofs.YtcphpiboamlanaaEv Go.Proofs.YtcphpiboamlanaaR Go.IntWalk
set_option maxRecDepth 20000
set_option maxHeartbeats 8000000
set_option linter.unusedVariables false
set_option linter.unusedSimpArgs false
namespace Go.Proofs.YtcphpiboamlanaaR
def closeW (o : Int) : Wf := fun b => if (topP b.m 0 3).2 = true then (if b.c.length + 1 ≤ 4096 then (0, ⟨killC (deep b.m : Nat) (b.c ++ [(o, (topP b.m 0 3).fst)]) b.o, b.m.take (b.m.length - 1), keep (deep b.m : Nat) b.o⟩) else (-8, b)) else (-22, b)
theorem Good.outOk {b : Bd} (h : Good b) {n : Nat} (hn : b.c.length ≤ n) : OutOk n b.o := fun p hp => by
  have w := h.out hp
  simp only [outM, Bool.or_eq_false_iff, decide_eq_false_iff_not] at w
  refine ⟨p.2.toNat, ?_, ?_⟩ <;> omega
section
variable {cf : CF} (hcf : cf = ev env)
include hcf
theorem s76 (o : Int) (b : Bd) (hb : Good b) : ∃ mc mm mo rc rm rq, Rw (closeW o b).2 rc rm rq ∧ cf 76 [.ptr 0 0, .int .i64 o] (hB b b.c b.m b.o) = some (.int .i64 (closeW o b).1, hS mc mm mo (closeW o b).2 rc rm rq) := by
  have h34 := s34 hcf (fun _ _ => rfl) (own2 b.c b.c) (own2 b.o b.o) b.m (by have := hb.sm.m; omega)
  rw [← own2_eq b.m b.m List.take_length] at h34
  cases ht : (topP b.m 0 3).2
  · have h74 := s74t hcf b b.c b.m b.o o 3 (Rw.refl b) hb.sm ht
    have e : closeW o b = (-22, b) := by simp only [closeW, ht, Bool.false_eq_true, if_false]
    rw [e]
    refine ⟨false, false, false, _, _, _, Rw.refl b, ?_⟩
    refine ev_ofC' hcf env76 ?_
    simp only [hB] at h74 ⊢
    conv => arg 2; simp only [ir76]
    conv => arg 3; simp only [ir76, Go.Proofs.YtcphpiboamlanaaEv.start, List.length, Nat.reduceAdd, Nat.reduceSub, List.reduceReplicate, List.append_eq, List.cons_append, List.nil_append]
    conv => arg 4; simp only [heapOf]
    try conv => arg 5; simp only [List.length, Nat.reduceAdd]
    try conv => arg 6; simp only [List.length, Nat.reduceAdd]
    refine EVgo9 trivial (h34) (h74) trivial trivial trivial trivial trivial trivial trivial trivial trivial ?_
    exact WQ.ret rfl
  · by_cases h : b.c.length + 1 ≤ 4096
    · have e : closeW o b = _ := (if_pos ht).trans (if_pos h)
      rw [e]
      have lc : (b.c ++ [(o, (topP b.m 0 3).fst)]).length = b.c.length + 1 := by simp only [List.length_append, List.length_cons, List.length_nil]
      have lk := killC_len (deep b.m : Nat) (b.c ++ [(o, (topP b.m 0 3).fst)]) (n := b.c.length + 1) (hb.outOk (Nat.le_succ _)) lc
      have sm' : Sm ⟨b.c ++ [(o, (topP b.m 0 3).fst)], b.m.take (b.m.length - 1), b.o⟩ := ⟨by rw [lc]; omega, by have := hb.sm.m; rw [len_pre]; omega, hb.sm.o⟩
      rcases first_hit (deep b.m : Nat) b.o with hn | ⟨i0, hi, hn, hy⟩
      · have h78 := s78n hcf (deep b.m : Nat) ⟨b.c ++ [(o, (topP b.m 0 3).fst)], b.m.take (b.m.length - 1), b.o⟩ b.m sm' fun j hj => hn _ (getD_mem hj)
        have h76 := s76x hcf b o hb h ht _ _ _ h78
        rw [killC_none _ _ _ hn, keep_all _ _ hn]
        refine ⟨true, false, false, b.c ++ [(o, (topP b.m 0 3).fst)], b.m, b.o, ⟨List.take_length, take_pre b.m, List.take_length⟩, ?_⟩
        rw [h76]
        simp only [hS, len_pre, cond_true, cond_false, List.append_nil, List.cons_append, List.nil_append]
      · have h78 := s78y hcf (deep b.m : Nat) ⟨b.c ++ [(o, (topP b.m 0 3).fst)], b.m.take (b.m.length - 1), b.o⟩ b.m (take_pre b.m) sm' i0 hi hn hy (hb.outOk (by show _ ≤ (b.c ++ [_]).length; rw [lc]; omega))
        have h76 := s76x hcf b o hb h ht _ _ _ h78
        refine ⟨true, false, false, killC (deep b.m : Nat) (b.c ++ [(o, (topP b.m 0 3).fst)]) b.o, b.m, keep (deep b.m : Nat) b.o ++ List.replicate (b.o.length - (keep (deep b.m : Nat) b.o).length) (0, 0), ⟨List.take_length, take_pre b.m, List.take_left' rfl⟩, ?_⟩
        rw [h76]
        simp only [hS, len_pre, lk, lc, cond_true, cond_false, List.append_nil, List.cons_append, List.nil_append]
    · have h74 := s74n hcf b b.c b.m b.o o 3 (topP b.m 0 3).fst (Rw.refl b) hb.sm h (Prod.ext rfl ht)
      have e : closeW o b = (-8, b) := (if_pos ht).trans (if_neg h)
      rw [e]
      refine ⟨false, false, false, _, _, _, Rw.refl b, ?_⟩
      refine ev_ofC' hcf env76 ?_
      simp only [hB] at h74 ⊢
      conv => arg 2; simp only [ir76]
      conv => arg 3; simp only [ir76, Go.Proofs.YtcphpiboamlanaaEv.start, List.length, Nat.reduceAdd, Nat.reduceSub, List.reduceReplicate, List.append_eq, List.cons_append, List.nil_append]
      conv => arg 4; simp only [heapOf]
      try conv => arg 5; simp only [List.length, Nat.reduceAdd]
      try conv => arg 6; simp only [List.length, Nat.reduceAdd]
      refine EVgo9 trivial (h34) (h74) trivial trivial trivial trivial trivial trivial trivial trivial trivial ?_
      exact WQ.ret rfl
theorem s57 : Sp1 cf 57 (closeW 7) := by
  intro b hb
  obtain ⟨mc, mm, mo, rc, rm, rq, hr, h76⟩ := s76 hcf 7 b hb
  refine ⟨mc, mm, mo, rc, rm, rq, hr, ?_⟩
  refine ev_ofC' hcf env57 ?_
  simp only [hB] at h76 ⊢
  conv => arg 2; simp only [ir57]
  conv => arg 3; simp only [ir57, Go.Proofs.YtcphpiboamlanaaEv.start, List.length, Nat.reduceAdd, Nat.reduceSub, List.reduceReplicate, List.append_eq, List.cons_append, List.nil_append]
  conv => arg 4; simp only [heapOf]
  try conv => arg 5; simp only [List.length, Nat.reduceAdd]
  try conv => arg 6; simp only [List.length, Nat.reduceAdd]
  cases mc <;> cases mm <;> cases mo <;> (simp only [hS, cond_true, cond_false, List.append_nil, List.cons_append, List.nil_append] at h76 ⊢)
  · refine EVgo9 trivial (h76) trivial trivial trivial trivial trivial trivial trivial trivial trivial trivial ?_
    exact WQ.ret rfl
  · refine EVgo9 trivial (h76) trivial trivial trivial trivial trivial trivial trivial trivial trivial trivial ?_
    exact WQ.ret rfl
  · refine EVgo9 trivial (h76) trivial trivial trivial trivial trivial trivial trivial trivial trivial trivial ?_
    exact WQ.ret rfl
  · refine EVgo9 trivial (h76) trivial trivial trivial trivial trivial trivial trivial trivial trivial trivial ?_
    exact WQ.ret rfl
  · refine EVgo9 trivial (h76) trivial trivial trivial trivial trivial trivial trivial trivial trivial trivial ?_
    exact WQ.ret rfl
  · refine EVgo9 trivial (h76) trivial trivial trivial trivial trivial trivial trivial trivial trivial trivial ?_
    exact WQ.ret rfl
  · refine EVgo9 trivial (h76) trivial trivial trivial trivial trivial trivial trivial trivial trivial trivial ?_
    exact WQ.ret rfl
  · refine EVgo9 trivial (h76) trivial trivial trivial trivial trivial trivial trivial trivial trivial trivial ?_
    exact WQ.ret rfl
theorem s58 : Sp1 cf 58 (closeW 8) := by
  intro b hb
  obtain ⟨mc, mm, mo, rc, rm, rq, hr, h76⟩ := s76 hcf 8 b hb
  refine ⟨mc, mm, mo, rc, rm, rq, hr, ?_⟩
  refine ev_ofC' hcf env58 ?_
  simp only [hB] at h76 ⊢
  conv => arg 2; simp only [ir58]
  conv => arg 3; simp only [ir58, Go.Proofs.YtcphpiboamlanaaEv.start, List.length, Nat.reduceAdd, Nat.reduceSub, List.reduceReplicate, List.append_eq, List.cons_append, List.nil_append]
  conv => arg 4; simp only [heapOf]
  try conv => arg 5; simp only [List.length, Nat.reduceAdd]
  try conv => arg 6; simp only [List.length, Nat.reduceAdd]
  cases mc <;> cases mm <;> cases mo <;> (simp only [hS, cond_true, cond_false, List.append_nil, List.cons_append, List.nil_append] at h76 ⊢)
  · refine EVgo9 trivial (h76) trivial trivial trivial trivial trivial trivial trivial trivial trivial trivial ?_
    exact WQ.ret rfl
  · refine EVgo9 trivial (h76) trivial trivial trivial trivial trivial trivial trivial trivial trivial trivial ?_
    exact WQ.ret rfl
  · refine EVgo9 trivial (h76) trivial trivial trivial trivial trivial trivial trivial trivial trivial trivial ?_
    exact WQ.ret rfl
  · refine EVgo9 trivial (h76) trivial trivial trivial trivial trivial trivial trivial trivial trivial trivial ?_
    exact WQ.ret rfl
  · refine EVgo9 trivial (h76) trivial trivial trivial trivial trivial trivial trivial trivial trivial trivial ?_
    exact WQ.ret rfl
  · refine EVgo9 trivial (h76) trivial trivial trivial trivial trivial trivial trivial trivial trivial trivial ?_
    exact WQ.ret rfl
  · refine EVgo9 trivial (h76) trivial trivial trivial trivial trivial trivial trivial trivial trivial trivial ?_
    exact WQ.ret rfl
  · refine EVgo9 trivial (h76) trivial trivial trivial trivial trivial trivial trivial trivial trivial trivial ?_
    exact WQ.ret rfl
end
end Go.Proofs.YtcphpiboamlanaaR
