/- Evf08F: a part of the proof. -/
import Derived.Test.YtcphpiboamlanaaEvf08E
open Go Go.Proofs.YtcphpiboamlanaaEv Go.Proofs.YtcphpiboamlanaaR Go.IntWalk
set_option maxRecDepth 20000
set_option maxHeartbeats 8000000
set_option linter.unusedVariables false
set_option linter.unusedSimpArgs false
namespace Go.Proofs.YtcphpiboamlanaaR
/-- the heap behind a word: what has grown lies behind -/
def hS (mc mm mo : Bool) (b : Bd) (rc rm rq : List Pr) : List (Option Blk) :=
  [some (.box [.own (cond mc 4 1) 2 0 b.c.length, .own (cond mm (cond mc 5 4) 2) 2 0 b.m.length, .own (cond mo (cond mc (cond mm 6 5) (cond mm 5 4)) 3) 2 0 b.o.length]), cond mc none (some (.row (flat encP rc))), cond mm none (some (.row (flat encP rm))), cond mo none (some (.row (flat encP rq)))]
  ++ (cond mc [some (.row (flat encP rc))] [] ++ (cond mm [some (.row (flat encP rm))] [] ++ cond mo [some (.row (flat encP rq))] []))
structure Good (b : Bd) : Prop where
  s : saneB b = true
  sm : Sm b
  m1 : b.m.length < 999999
theorem Good.c {b : Bd} (h : Good b) : b.c.length ≤ 4096 := by
  have := h.s
  simp only [saneB, Bool.and_eq_true, decide_eq_true_eq] at this
  omega
theorem Good.mk' {b : Bd} (h : Good b) {p : Pr} (hp : p ∈ b.m) : badM b.c.length p = false := by
  have := h.s
  simp only [saneB, Bool.and_eq_true, Bool.not_eq_true', List.any_eq_false] at this
  exact Bool.eq_false_iff.2 (this.2.1 p hp)
theorem Good.out {b : Bd} (h : Good b) {p : Pr} (hp : p ∈ b.o) : outM (deep b.m) b.c.length p = false := by
  have := h.s
  simp only [saneB, Bool.and_eq_true, Bool.not_eq_true', List.any_eq_false] at this
  exact Bool.eq_false_iff.2 (this.2.2 p hp)
theorem getD_mem {l : List Pr} {i : Nat} (h : i < l.length) : l.getD i (0, 0) ∈ l := by
  rw [List.getD_eq_getElem?_getD, List.getElem?_eq_getElem h]
  exact List.getElem_mem h
/-- a mark of a place: the place is there -/
theorem Good.orig {b : Bd} (h : Good b) {below : Nat} {a : Int} (ht : topP b.m below 1 = (a, true)) : ∃ n : Nat, a = n ∧ n < b.c.length := by
  have q := topP_ok ht
  have w := h.mk' (p := (1, a)) (by rw [← q.2]; exact getD_mem (by omega))
  simp only [badM, Bool.or_eq_false_iff, decide_eq_false_iff_not, Bool.and_eq_false_iff, beq_self_eq_true, beq_eq_false_iff_ne, reduceCtorEq, false_or, ne_eq] at w
  refine ⟨a.toNat, ?_, ?_⟩ <;> omega
theorem len_pre (l : List Pr) (n : Nat) : (l.take (l.length - n)).length = l.length - n := List.length_take_of_le (by omega)
theorem take_pre (l : List Pr) {n : Nat} : l.take (l.take (l.length - n)).length = l.take (l.length - n) := by rw [len_pre]
abbrev Wf := Bd → Int × Bd
def openW (o k bh : Int) : Wf := fun b => if b.c.length + 1 ≤ 4096 then (0, ⟨b.c ++ [(o, 0)], b.m ++ [(k, (b.c.length : Int) + bh)], b.o⟩) else (-8, b)
def backW (o k : Int) : Wf := fun b => if (topP b.m 0 k).2 = true then (if b.c.length + 1 ≤ 4096 then (0, ⟨b.c ++ [(o, (topP b.m 0 k).1)], b.m.take (b.m.length - 1), b.o⟩) else (-8, b)) else (-22, b)
def mayW : Wf := fun b => if b.c.length + 1 ≤ 4096 then (0, ⟨b.c ++ [(6, 0)], b.m ++ [(3, (b.c.length : Int) + 1)], b.o ++ [((deep (b.m ++ [(3, (b.c.length : Int) + 1)]) : Int), (b.c.length : Int))]⟩) else (-8, b)
def beginW : Wf := fun b => (0, ⟨b.c, b.m ++ [(2, (b.c.length : Int))], b.o⟩)
def thenW : Wf := fun b => if (topP b.m 0 1).2 = true then (0, ⟨resC b.c (topP b.m 0 1).1.toNat, b.m.take (b.m.length - 1), b.o⟩) else (-22, b)
def Sp1 (cf : CF) (g : Nat) (f : Wf) : Prop := ∀ b : Bd, Good b → ∃ mc mm mo rc rm rq, Rw (f b).2 rc rm rq ∧ cf g [.ptr 0 0] (hB b b.c b.m b.o) = some (.int .i64 (f b).1, hS mc mm mo (f b).2 rc rm rq)
section
variable {cf : CF} (hcf : cf = ev env)
include hcf
theorem s47 : Sp1 cf 47 (openW 2 1 0) := by
  intro b hb
  by_cases h : b.c.length + 1 ≤ 4096
  · have h69 := s69 hcf b b.c b.m b.o 2 1 0 (Rw.refl b) hb.sm h (by omega)
    have e : openW 2 1 0 b = _ := if_pos h
    rw [e]
    refine ⟨true, true, false, _, _, _, ⟨List.take_length, List.take_length, List.take_length⟩, ?_⟩
    refine ev_ofC' hcf env47 ?_
    simp only [hB] at h69 ⊢
    conv => arg 2; simp only [ir47]
    conv => arg 3; simp only [ir47, Go.Proofs.YtcphpiboamlanaaEv.start, List.length, Nat.reduceAdd, Nat.reduceSub, List.reduceReplicate, List.append_eq, List.cons_append, List.nil_append]
    conv => arg 4; simp only [heapOf]
    try conv => arg 5; simp only [List.length, Nat.reduceAdd]
    try conv => arg 6; simp only [List.length, Nat.reduceAdd]
    refine EVgo9 trivial (h69) trivial trivial trivial trivial trivial trivial trivial trivial trivial trivial ?_
    exact WQ.ret rfl
  · have h69 := s69n hcf b b.c b.m b.o 2 1 0 (Rw.refl b) hb.sm h
    have e : openW 2 1 0 b = _ := if_neg h
    rw [e]
    refine ⟨false, false, false, _, _, _, Rw.refl b, ?_⟩
    refine ev_ofC' hcf env47 ?_
    simp only [hB] at h69 ⊢
    conv => arg 2; simp only [ir47]
    conv => arg 3; simp only [ir47, Go.Proofs.YtcphpiboamlanaaEv.start, List.length, Nat.reduceAdd, Nat.reduceSub, List.reduceReplicate, List.append_eq, List.cons_append, List.nil_append]
    conv => arg 4; simp only [heapOf]
    try conv => arg 5; simp only [List.length, Nat.reduceAdd]
    try conv => arg 6; simp only [List.length, Nat.reduceAdd]
    refine EVgo9 trivial (h69) trivial trivial trivial trivial trivial trivial trivial trivial trivial trivial ?_
    exact WQ.ret rfl
theorem s50 : Sp1 cf 50 beginW := by
  intro b hb
  have h73 := s73 hcf b b.c b.m b.o 2 (b.c.length : Int) (Rw.refl b) hb.sm
  refine ⟨false, true, false, _, _, _, ⟨List.take_length, List.take_length, List.take_length⟩, ?_⟩
  refine ev_ofC' hcf env50 ?_
  simp only [hB] at h73 ⊢
  conv => arg 2; simp only [ir50]
  conv => arg 3; simp only [ir50, Go.Proofs.YtcphpiboamlanaaEv.start, List.length, Nat.reduceAdd, Nat.reduceSub, List.reduceReplicate, List.append_eq, List.cons_append, List.nil_append]
  conv => arg 4; simp only [heapOf]
  try conv => arg 5; simp only [List.length, Nat.reduceAdd]
  try conv => arg 6; simp only [List.length, Nat.reduceAdd]
  refine EVgo9 trivial (h73) trivial trivial trivial trivial trivial trivial trivial trivial trivial trivial ?_
  exact WQ.ret rfl
theorem s55 : Sp1 cf 55 (openW 5 3 1) := by
  intro b hb
  by_cases h : b.c.length + 1 ≤ 4096
  · have h69 := s69 hcf b b.c b.m b.o 5 3 1 (Rw.refl b) hb.sm h (by omega)
    have e : openW 5 3 1 b = _ := if_pos h
    rw [e]
    refine ⟨true, true, false, _, _, _, ⟨List.take_length, List.take_length, List.take_length⟩, ?_⟩
    refine ev_ofC' hcf env55 ?_
    simp only [hB] at h69 ⊢
    conv => arg 2; simp only [ir55]
    conv => arg 3; simp only [ir55, Go.Proofs.YtcphpiboamlanaaEv.start, List.length, Nat.reduceAdd, Nat.reduceSub, List.reduceReplicate, List.append_eq, List.cons_append, List.nil_append]
    conv => arg 4; simp only [heapOf]
    try conv => arg 5; simp only [List.length, Nat.reduceAdd]
    try conv => arg 6; simp only [List.length, Nat.reduceAdd]
    refine EVgo9 trivial (h69) trivial trivial trivial trivial trivial trivial trivial trivial trivial trivial ?_
    exact WQ.ret rfl
  · have h69 := s69n hcf b b.c b.m b.o 5 3 1 (Rw.refl b) hb.sm h
    have e : openW 5 3 1 b = _ := if_neg h
    rw [e]
    refine ⟨false, false, false, _, _, _, Rw.refl b, ?_⟩
    refine ev_ofC' hcf env55 ?_
    simp only [hB] at h69 ⊢
    conv => arg 2; simp only [ir55]
    conv => arg 3; simp only [ir55, Go.Proofs.YtcphpiboamlanaaEv.start, List.length, Nat.reduceAdd, Nat.reduceSub, List.reduceReplicate, List.append_eq, List.cons_append, List.nil_append]
    conv => arg 4; simp only [heapOf]
    try conv => arg 5; simp only [List.length, Nat.reduceAdd]
    try conv => arg 6; simp only [List.length, Nat.reduceAdd]
    refine EVgo9 trivial (h69) trivial trivial trivial trivial trivial trivial trivial trivial trivial trivial ?_
    exact WQ.ret rfl
theorem s56 : Sp1 cf 56 mayW := by
  intro b hb
  by_cases h : b.c.length + 1 ≤ 4096
  · have h69 := s69 hcf b b.c b.m b.o 6 3 1 (Rw.refl b) hb.sm h (by omega)
    have h75 := s75 hcf ⟨b.c ++ [(6, 0)], b.m ++ [(3, (b.c.length : Int) + 1)], b.o⟩ (b.c ++ [(6, 0)]) (b.m ++ [(3, (b.c.length : Int) + 1)]) b.o (b.c.length : Int) ⟨List.take_length, List.take_length, List.take_length⟩ ⟨by simp only [List.length_append, List.length_cons, List.length_nil]; omega, by have := hb.m1; simp only [List.length_append, List.length_cons, List.length_nil]; omega, hb.sm.o⟩
    have e : mayW b = _ := if_pos h
    rw [e]
    refine ⟨true, true, true, _, _, _, ⟨List.take_length, List.take_length, List.take_length⟩, ?_⟩
    refine ev_ofC' hcf env56 ?_
    simp only [hB] at h69 h75 ⊢
    conv => arg 2; simp only [ir56]
    conv => arg 3; simp only [ir56, Go.Proofs.YtcphpiboamlanaaEv.start, List.length, Nat.reduceAdd, Nat.reduceSub, List.reduceReplicate, List.append_eq, List.cons_append, List.nil_append]
    conv => arg 4; simp only [heapOf]
    try conv => arg 5; simp only [List.length, Nat.reduceAdd]
    try conv => arg 6; simp only [List.length, Nat.reduceAdd]
    refine EVgo9 trivial (h69) (h75) trivial trivial trivial trivial trivial trivial trivial trivial trivial ?_
    exact WQ.ret rfl
  · have h69 := s69n hcf b b.c b.m b.o 6 3 1 (Rw.refl b) hb.sm h
    have e : mayW b = _ := if_neg h
    rw [e]
    refine ⟨false, false, false, _, _, _, Rw.refl b, ?_⟩
    refine ev_ofC' hcf env56 ?_
    simp only [hB] at h69 ⊢
    conv => arg 2; simp only [ir56]
    conv => arg 3; simp only [ir56, Go.Proofs.YtcphpiboamlanaaEv.start, List.length, Nat.reduceAdd, Nat.reduceSub, List.reduceReplicate, List.append_eq, List.cons_append, List.nil_append]
    conv => arg 4; simp only [heapOf]
    try conv => arg 5; simp only [List.length, Nat.reduceAdd]
    try conv => arg 6; simp only [List.length, Nat.reduceAdd]
    refine EVgo9 trivial (h69) trivial trivial trivial trivial trivial trivial trivial trivial trivial trivial ?_
    exact WQ.ret rfl
omit hcf in
theorem backW_t {b : Bd} {o k : Int} (ht : (topP b.m 0 k).2 = true) (h : b.c.length + 1 ≤ 4096) : backW o k b = (0, ⟨b.c ++ [(o, (topP b.m 0 k).1)], b.m.take (b.m.length - 1), b.o⟩) := by simp only [backW, if_pos ht, if_pos h]
omit hcf in
theorem backW_n {b : Bd} {o k : Int} (ht : (topP b.m 0 k).2 = true) (h : ¬ b.c.length + 1 ≤ 4096) : backW o k b = (-8, b) := by simp only [backW, if_pos ht, if_neg h]
omit hcf in
theorem backW_c {b : Bd} {o k : Int} (ht : (topP b.m 0 k).2 = false) : backW o k b = (-22, b) := by simp only [backW, ht, Bool.false_eq_true, if_false]
theorem s51 : Sp1 cf 51 (backW 1 2) := by
  intro b hb
  cases ht : (topP b.m 0 2).2
  · have h74 := s74t hcf b b.c b.m b.o 1 2 (Rw.refl b) hb.sm ht
    rw [backW_c ht]
    refine ⟨false, false, false, _, _, _, Rw.refl b, ?_⟩
    refine ev_ofC' hcf env51 ?_
    simp only [hB] at h74 ⊢
    conv => arg 2; simp only [ir51]
    conv => arg 3; simp only [ir51, Go.Proofs.YtcphpiboamlanaaEv.start, List.length, Nat.reduceAdd, Nat.reduceSub, List.reduceReplicate, List.append_eq, List.cons_append, List.nil_append]
    conv => arg 4; simp only [heapOf]
    try conv => arg 5; simp only [List.length, Nat.reduceAdd]
    try conv => arg 6; simp only [List.length, Nat.reduceAdd]
    refine EVgo9 trivial (h74) trivial trivial trivial trivial trivial trivial trivial trivial trivial trivial ?_
    exact WQ.ret rfl
  · by_cases h : b.c.length + 1 ≤ 4096
    · have h74 := s74 hcf b b.c b.m b.o 1 2 (topP b.m 0 2).1 (Rw.refl b) hb.sm h (Prod.ext rfl ht)
      rw [backW_t ht h]
      refine ⟨true, false, false, _, b.m, _, ⟨List.take_length, take_pre b.m, List.take_length⟩, ?_⟩
      refine ev_ofC' hcf env51 ?_
      simp only [hB] at h74 ⊢
      conv => arg 2; simp only [ir51]
      conv => arg 3; simp only [ir51, Go.Proofs.YtcphpiboamlanaaEv.start, List.length, Nat.reduceAdd, Nat.reduceSub, List.reduceReplicate, List.append_eq, List.cons_append, List.nil_append]
      conv => arg 4; simp only [heapOf]
      try conv => arg 5; simp only [List.length, Nat.reduceAdd]
      try conv => arg 6; simp only [List.length, Nat.reduceAdd]
      refine EVgo9 trivial (h74) trivial trivial trivial trivial trivial trivial trivial trivial trivial trivial ?_
      simp only [hS, len_pre, cond_true, cond_false]
      exact WQ.ret rfl
    · have h74 := s74n hcf b b.c b.m b.o 1 2 (topP b.m 0 2).1 (Rw.refl b) hb.sm h (Prod.ext rfl ht)
      rw [backW_n ht h]
      refine ⟨false, false, false, _, _, _, Rw.refl b, ?_⟩
      refine ev_ofC' hcf env51 ?_
      simp only [hB] at h74 ⊢
      conv => arg 2; simp only [ir51]
      conv => arg 3; simp only [ir51, Go.Proofs.YtcphpiboamlanaaEv.start, List.length, Nat.reduceAdd, Nat.reduceSub, List.reduceReplicate, List.append_eq, List.cons_append, List.nil_append]
      conv => arg 4; simp only [heapOf]
      try conv => arg 5; simp only [List.length, Nat.reduceAdd]
      try conv => arg 6; simp only [List.length, Nat.reduceAdd]
      refine EVgo9 trivial (h74) trivial trivial trivial trivial trivial trivial trivial trivial trivial trivial ?_
      exact WQ.ret rfl
theorem s52 : Sp1 cf 52 (backW 2 2) := by
  intro b hb
  cases ht : (topP b.m 0 2).2
  · have h74 := s74t hcf b b.c b.m b.o 2 2 (Rw.refl b) hb.sm ht
    rw [backW_c ht]
    refine ⟨false, false, false, _, _, _, Rw.refl b, ?_⟩
    refine ev_ofC' hcf env52 ?_
    simp only [hB] at h74 ⊢
    conv => arg 2; simp only [ir52]
    conv => arg 3; simp only [ir52, Go.Proofs.YtcphpiboamlanaaEv.start, List.length, Nat.reduceAdd, Nat.reduceSub, List.reduceReplicate, List.append_eq, List.cons_append, List.nil_append]
    conv => arg 4; simp only [heapOf]
    try conv => arg 5; simp only [List.length, Nat.reduceAdd]
    try conv => arg 6; simp only [List.length, Nat.reduceAdd]
    refine EVgo9 trivial (h74) trivial trivial trivial trivial trivial trivial trivial trivial trivial trivial ?_
    exact WQ.ret rfl
  · by_cases h : b.c.length + 1 ≤ 4096
    · have h74 := s74 hcf b b.c b.m b.o 2 2 (topP b.m 0 2).1 (Rw.refl b) hb.sm h (Prod.ext rfl ht)
      rw [backW_t ht h]
      refine ⟨true, false, false, _, b.m, _, ⟨List.take_length, take_pre b.m, List.take_length⟩, ?_⟩
      refine ev_ofC' hcf env52 ?_
      simp only [hB] at h74 ⊢
      conv => arg 2; simp only [ir52]
      conv => arg 3; simp only [ir52, Go.Proofs.YtcphpiboamlanaaEv.start, List.length, Nat.reduceAdd, Nat.reduceSub, List.reduceReplicate, List.append_eq, List.cons_append, List.nil_append]
      conv => arg 4; simp only [heapOf]
      try conv => arg 5; simp only [List.length, Nat.reduceAdd]
      try conv => arg 6; simp only [List.length, Nat.reduceAdd]
      refine EVgo9 trivial (h74) trivial trivial trivial trivial trivial trivial trivial trivial trivial trivial ?_
      simp only [hS, len_pre, cond_true, cond_false]
      exact WQ.ret rfl
    · have h74 := s74n hcf b b.c b.m b.o 2 2 (topP b.m 0 2).1 (Rw.refl b) hb.sm h (Prod.ext rfl ht)
      rw [backW_n ht h]
      refine ⟨false, false, false, _, _, _, Rw.refl b, ?_⟩
      refine ev_ofC' hcf env52 ?_
      simp only [hB] at h74 ⊢
      conv => arg 2; simp only [ir52]
      conv => arg 3; simp only [ir52, Go.Proofs.YtcphpiboamlanaaEv.start, List.length, Nat.reduceAdd, Nat.reduceSub, List.reduceReplicate, List.append_eq, List.cons_append, List.nil_append]
      conv => arg 4; simp only [heapOf]
      try conv => arg 5; simp only [List.length, Nat.reduceAdd]
      try conv => arg 6; simp only [List.length, Nat.reduceAdd]
      refine EVgo9 trivial (h74) trivial trivial trivial trivial trivial trivial trivial trivial trivial trivial ?_
      exact WQ.ret rfl
end
end Go.Proofs.YtcphpiboamlanaaR
