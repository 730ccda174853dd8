/- Evf08G: a part of the proof. -/
import Derived.Test.YtcphpiboamlanaaEvf08F
open Go Go.Proofs.YtcphpiboamlanaaEv Go.Proofs.YtcphpiboamlanaaR Go.IntWalk
set_option maxRecDepth 20000
set_option maxHeartbeats 8000000
set_option linter.unusedVariables false
set_option linter.unusedSimpArgs false
namespace Go.Proofs.YtcphpiboamlanaaR
def elseW : Wf := fun b => if (topP b.m 0 1).2 = true then (if b.c.length + 1 ≤ 4096 then (0, ⟨resC (b.c ++ [(1, 0)]) (topP b.m 0 1).1.toNat, b.m.take (b.m.length - 1) ++ [(1, (b.c.length : Int))], b.o⟩) else (-8, b)) else (-22, b)
def whileW : Wf := fun b => if (topP b.m 0 2).2 = true then (if b.c.length + 1 ≤ 4096 then (0, ⟨b.c ++ [(2, 0)], b.m.take (b.m.length - 1) ++ [(1, (b.c.length : Int))] ++ [(2, (topP b.m 0 2).1)], b.o⟩) else (-8, b)) else (-22, b)
def repeatW : Wf := fun b => if (topP b.m 1 1).2 = true ∧ (topP b.m 0 2).2 = true then (if b.c.length + 1 ≤ 4096 then (0, ⟨resC (b.c ++ [(1, (topP b.m 0 2).1)]) (topP b.m 1 1).1.toNat, b.m.take (b.m.length - 2), b.o⟩) else (-8, b)) else (-22, b)
def leaveW : Wf := fun b => if deep b.m = 0 then (-22, b) else if b.c.length + 2 ≤ 4096 then (0, ⟨b.c ++ [(9, 0), (1, 0)], b.m, b.o ++ [((deep b.m : Int), (b.c.length : Int) + 1)]⟩) else (-8, b)
theorem topP_n {m : List Pr} {below : Nat} {kind : Int} (h : (topP m below kind).2 = false) : topP m below kind = (0, false) := by
  unfold topP at h ⊢
  split at h
  · simp at h
  · next q => rw [if_neg q]
section
variable {cf : CF} (hcf : cf = ev env)
include hcf
theorem s49 : Sp1 cf 49 thenW := by
  intro b hb
  have h70 := s70v hcf b b.c b.m b.o 0 1 (Rw.refl b) hb.sm (by omega)
  cases ht : (topP b.m 0 1).2
  · rw [topP_n ht] at h70
    have e : thenW b = (-22, b) := by simp only [thenW, ht, Bool.false_eq_true, if_false]
    rw [e]
    refine ⟨false, false, false, _, _, _, Rw.refl b, ?_⟩
    refine ev_ofC' hcf env49 ?_
    simp only [hB]
    conv => arg 2; simp only [ir49]
    conv => arg 3; simp only [ir49, Go.Proofs.YtcphpiboamlanaaEv.start, List.length, Nat.reduceAdd, Nat.reduceSub, List.reduceReplicate, List.append_eq, List.cons_append, List.nil_append]
    conv => arg 4; simp only [heapOf]
    try conv => arg 5; simp only [List.length, Nat.reduceAdd]
    try conv => arg 6; simp only [List.length, Nat.reduceAdd]
    refine EVgo9 trivial (h70) trivial trivial trivial trivial trivial trivial trivial trivial trivial trivial ?_
    exact WQ.ret rfl
  · obtain ⟨n, en, hn⟩ := hb.orig (below := 0) (a := (topP b.m 0 1).fst) (Prod.ext rfl ht)
    have h0 := topP_ok (Prod.ext rfl ht : topP b.m 0 1 = (_, true))
    rw [ht, en] at h70
    have e : thenW b = (0, ⟨resC b.c n, b.m.take (b.m.length - 1), b.o⟩) := by simp only [thenW, ht, if_true, en, Int.toNat_natCast]
    rw [e]
    have h72 := s72 hcf b b.c b.m b.o 1 (Rw.refl b) hb.sm (by omega)
    have h71 := s71 hcf ⟨b.c, b.m.take (b.m.length - 1), b.o⟩ b.c b.m b.o n ⟨List.take_length, take_pre b.m, List.take_length⟩ ⟨hb.sm.c, by have := hb.sm.m; simp only [List.length_take]; omega, hb.sm.o⟩ hn
    have hl := resC_len b.c hn
    refine ⟨false, false, false, resR b.c b.c n, b.m, b.o, ⟨resR_take List.take_length hn, take_pre b.m, List.take_length⟩, ?_⟩
    refine ev_ofC' hcf env49 ?_
    simp only [hB, len_pre] at h72 h71 ⊢
    conv => arg 2; simp only [ir49]
    conv => arg 3; simp only [ir49, Go.Proofs.YtcphpiboamlanaaEv.start, List.length, Nat.reduceAdd, Nat.reduceSub, List.reduceReplicate, List.append_eq, List.cons_append, List.nil_append]
    conv => arg 4; simp only [heapOf]
    try conv => arg 5; simp only [List.length, Nat.reduceAdd]
    try conv => arg 6; simp only [List.length, Nat.reduceAdd]
    refine EVgo9 trivial (h70) (h72) (h71) trivial trivial trivial trivial trivial trivial trivial trivial ?_
    simp only [hS, len_pre, cond_true, cond_false]
    exact WQ.ret rfl
theorem s53 : Sp1 cf 53 whileW := by
  intro b hb
  have h70 := s70v hcf b b.c b.m b.o 0 2 (Rw.refl b) hb.sm (by omega)
  cases ht : (topP b.m 0 2).2
  · rw [topP_n ht] at h70
    have e : whileW b = (-22, b) := by simp only [whileW, ht, Bool.false_eq_true, if_false]
    rw [e]
    refine ⟨false, false, false, _, _, _, Rw.refl b, ?_⟩
    refine ev_ofC' hcf env53 ?_
    simp only [hB]
    conv => arg 2; simp only [ir53]
    conv => arg 3; simp only [ir53, Go.Proofs.YtcphpiboamlanaaEv.start, List.length, Nat.reduceAdd, Nat.reduceSub, List.reduceReplicate, List.append_eq, List.cons_append, List.nil_append]
    conv => arg 4; simp only [heapOf]
    try conv => arg 5; simp only [List.length, Nat.reduceAdd]
    try conv => arg 6; simp only [List.length, Nat.reduceAdd]
    refine EVgo9 trivial (h70) trivial trivial trivial trivial trivial trivial trivial trivial trivial trivial ?_
    exact WQ.ret rfl
  · have h0 := topP_ok (Prod.ext rfl ht : topP b.m 0 2 = (_, true))
    rw [ht] at h70
    by_cases h : b.c.length + 1 ≤ 4096
    · have h28 := s28 hcf b b.c b.m b.o [(2, 0)] (Rw.refl b) hb.sm (by simp) (by simp; omega)
      have sc : (b.c ++ [(2, 0)]).length ≤ 1000000 := by simp only [List.length_append, List.length_cons, List.length_nil]; omega
      have sm : (b.m.take (b.m.length - 1)).length ≤ 1000000 := by have := hb.sm.m; simp only [List.length_take]; omega
      have h72 := s72 hcf ⟨b.c ++ [(2, 0)], b.m, b.o⟩ (b.c ++ [(2, 0)]) b.m b.o 1 ⟨List.take_length, List.take_length, List.take_length⟩ ⟨sc, hb.sm.m, hb.sm.o⟩ (by show 1 ≤ b.m.length; omega)
      have h73 := s73 hcf ⟨b.c ++ [(2, 0)], b.m.take (b.m.length - 1), b.o⟩ (b.c ++ [(2, 0)]) b.m b.o 1 (b.c.length : Int) ⟨List.take_length, take_pre b.m, List.take_length⟩ ⟨sc, sm, hb.sm.o⟩
      have h73' := s73 hcf ⟨b.c ++ [(2, 0)], b.m.take (b.m.length - 1) ++ [(1, (b.c.length : Int))], b.o⟩ (b.c ++ [(2, 0)]) (b.m.take (b.m.length - 1) ++ [(1, (b.c.length : Int))]) b.o 2 (topP b.m 0 2).1 ⟨List.take_length, List.take_length, List.take_length⟩ ⟨sc, by have := hb.sm.m; simp only [List.length_append, List.length_take, List.length_cons, List.length_nil]; omega, hb.sm.o⟩
      have e : whileW b = (0, ⟨b.c ++ [(2, 0)], b.m.take (b.m.length - 1) ++ [(1, (b.c.length : Int))] ++ [(2, (topP b.m 0 2).1)], b.o⟩) := by simp only [whileW, if_pos ht, if_pos h]
      rw [e]
      refine ⟨true, true, false, _, _, _, ⟨List.take_length, List.take_length, List.take_length⟩, ?_⟩
      refine ev_ofC' hcf env53 ?_
      simp only [hB, len_pre] at h28 h72 h73 h73' ⊢
      conv => arg 2; simp only [ir53]
      conv => arg 3; simp only [ir53, Go.Proofs.YtcphpiboamlanaaEv.start, List.length, Nat.reduceAdd, Nat.reduceSub, List.reduceReplicate, List.append_eq, List.cons_append, List.nil_append]
      conv => arg 4; simp only [heapOf]
      try conv => arg 5; simp only [List.length, Nat.reduceAdd]
      try conv => arg 6; simp only [List.length, Nat.reduceAdd]
      refine EVgo9 trivial (h70) (h28) (h72) (h73) (h73') trivial trivial trivial trivial trivial trivial ?_
      exact WQ.ret rfl
    · have h28 := s28n hcf b b.c b.m b.o [(2, 0)] (Rw.refl b) hb.sm (by simp) (by simp; omega)
      have e : whileW b = (-8, b) := by simp only [whileW, if_pos ht, if_neg h]
      rw [e]
      refine ⟨false, false, false, _, _, _, Rw.refl b, ?_⟩
      refine ev_ofC' hcf env53 ?_
      simp only [hB] at h28 ⊢
      conv => arg 2; simp only [ir53]
      conv => arg 3; simp only [ir53, Go.Proofs.YtcphpiboamlanaaEv.start, List.length, Nat.reduceAdd, Nat.reduceSub, List.reduceReplicate, List.append_eq, List.cons_append, List.nil_append]
      conv => arg 4; simp only [heapOf]
      try conv => arg 5; simp only [List.length, Nat.reduceAdd]
      try conv => arg 6; simp only [List.length, Nat.reduceAdd]
      refine EVgo9 trivial (h70) (h28) trivial trivial trivial trivial trivial trivial trivial trivial trivial ?_
      exact WQ.ret rfl
theorem s59 : Sp1 cf 59 leaveW := by
  intro b hb
  have h34 := s34 hcf (fun _ _ => rfl) (own2 b.c b.c) (own2 b.o b.o) b.m (by have := hb.sm.m; omega)
  rw [← own2_eq b.m b.m List.take_length] at h34
  by_cases hd : deep b.m = 0
  · have e : leaveW b = (-22, b) := if_pos hd
    rw [e]
    rw [hd] at h34
    refine ⟨false, false, false, _, _, _, Rw.refl b, ?_⟩
    refine ev_ofC' hcf env59 ?_
    simp only [hB]
    conv => arg 2; simp only [ir59]
    conv => arg 3; simp only [ir59, Go.Proofs.YtcphpiboamlanaaEv.start, List.length, Nat.reduceAdd, Nat.reduceSub, List.reduceReplicate, List.append_eq, List.cons_append, List.nil_append]
    conv => arg 4; simp only [heapOf]
    try conv => arg 5; simp only [List.length, Nat.reduceAdd]
    try conv => arg 6; simp only [List.length, Nat.reduceAdd]
    refine EVgo9 trivial (h34) trivial trivial trivial trivial trivial trivial trivial trivial trivial trivial ?_
    exact WQ.ret rfl
  · have n0 : (((deep b.m : Nat) : Int) == 0) = false := beq_eq_false_iff_ne.2 (by omega)
    by_cases h : b.c.length + 2 ≤ 4096
    · have h28 := s28 hcf b b.c b.m b.o [(9, 0), (1, 0)] (Rw.refl b) hb.sm (by simp) (by simp; omega)
      have sc : (b.c ++ [(9, 0), (1, 0)]).length ≤ 1000000 := by simp only [List.length_append, List.length_cons, List.length_nil]; omega
      have lc : ((b.c ++ [(9, 0), (1, 0)]).length : Int) - 1 = (b.c.length : Int) + 1 := by simp only [List.length_append, List.length_cons, List.length_nil]; omega
      have w : IntKind.i64.wrap (((b.c ++ [(9, 0), (1, 0)]).length : Int) - 1) = (b.c.length : Int) + 1 := by rw [lc]; exact i64_in _ (by omega)
      have h75 := s75 hcf ⟨b.c ++ [(9, 0), (1, 0)], b.m, b.o⟩ (b.c ++ [(9, 0), (1, 0)]) b.m b.o ((b.c.length : Int) + 1) ⟨List.take_length, List.take_length, List.take_length⟩ ⟨sc, hb.sm.m, hb.sm.o⟩
      have e : leaveW b = (0, ⟨b.c ++ [(9, 0), (1, 0)], b.m, b.o ++ [((deep b.m : Int), (b.c.length : Int) + 1)]⟩) := by simp only [leaveW, if_neg hd, if_pos h]
      rw [e]
      refine ⟨true, false, true, _, _, _, ⟨List.take_length, List.take_length, List.take_length⟩, ?_⟩
      refine ev_ofC' hcf env59 ?_
      simp only [hB] at h28 h75 ⊢
      conv => arg 2; simp only [ir59]
      conv => arg 3; simp only [ir59, Go.Proofs.YtcphpiboamlanaaEv.start, List.length, Nat.reduceAdd, Nat.reduceSub, List.reduceReplicate, List.append_eq, List.cons_append, List.nil_append]
      conv => arg 4; simp only [heapOf]
      try conv => arg 5; simp only [List.length, Nat.reduceAdd]
      try conv => arg 6; simp only [List.length, Nat.reduceAdd]
      refine EVgo9 (And.intro (n0) (w)) (h34) (h28) (h75) trivial trivial trivial trivial trivial trivial trivial trivial ?_
      exact WQ.ret rfl
    · have h28 := s28n hcf b b.c b.m b.o [(9, 0), (1, 0)] (Rw.refl b) hb.sm (by simp) (by simp; omega)
      have e : leaveW b = (-8, b) := by simp only [leaveW, if_neg hd, if_neg h]
      rw [e]
      refine ⟨false, false, false, _, _, _, Rw.refl b, ?_⟩
      refine ev_ofC' hcf env59 ?_
      simp only [hB] at h28 ⊢
      conv => arg 2; simp only [ir59]
      conv => arg 3; simp only [ir59, Go.Proofs.YtcphpiboamlanaaEv.start, List.length, Nat.reduceAdd, Nat.reduceSub, List.reduceReplicate, List.append_eq, List.cons_append, List.nil_append]
      conv => arg 4; simp only [heapOf]
      try conv => arg 5; simp only [List.length, Nat.reduceAdd]
      try conv => arg 6; simp only [List.length, Nat.reduceAdd]
      refine EVgo9 (n0) (h34) (h28) trivial trivial trivial trivial trivial trivial trivial trivial trivial ?_
      exact WQ.ret rfl
end
end Go.Proofs.YtcphpiboamlanaaR
