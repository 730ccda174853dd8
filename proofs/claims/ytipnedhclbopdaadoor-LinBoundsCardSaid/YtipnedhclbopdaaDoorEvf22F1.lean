/- LinBounds. -/
import Derived.Test.YtipnedhclbopdaaDoorEvf22E2
open Go Go.Proofs.YtipnedhclbopdaaDoorEv Go.Proofs.YtipnedhclbopdaaDoorR Go.IntWalk Go.Proofs
set_option maxRecDepth 20000
set_option maxHeartbeats 8000000
set_option linter.unusedVariables false
set_option linter.unusedSimpArgs false
namespace Go.Proofs.YtipnedhclbopdaaDoorR
theorem add_shape (h : List Int) (o : Ot) (v n : Int) : (addT h o v (cI n)).1.length = h.length ∨ (addT h o v (cI n)).1.length = h.length + 1 ∧ ((addT h o v (cI n)).1.length : Int) ≤ (if 0 < n then n else 0) := by
  unfold addT
  split
  · exact .inl rfl
  · next q =>
    refine .inr ⟨by simp, ?_⟩
    have : cI n ≤ (if 0 < n then n else 0) := by unfold cI; split <;> split <;> (try split) <;> omega
    simp only [List.length_append, List.length_cons, List.length_nil]
    omega
theorem take_shape (h : List Int) (o : Ot) (b : Bool) : (takeT h o b).1.length = h.length ∨ (takeT h o b).1.length + 1 = h.length := by
  unfold takeT
  split
  · exact .inl rfl
  · split
    · refine .inr ?_; simp; omega
    · refine .inr ?_; simp; omega
section
variable {cf : CF} (hcf : cf = ev env)
include hcf
theorem s8 (h : List Int) (o : Ot) (n : Int) : Sp cf 8 [slI h, .agg (encT o), .int .i64 n] (.bool true) := by
  have h9 := s9 hcf
  have h11 := s11 hcf o
  refine sp_of hcf env8 ?_
  by_cases h60 : h.length > 60
  · have h60' : (60 : Int) < (h.length : Int) := by omega
    simp only [slI]
    conv => arg 2; simp only [ir8]
    conv => arg 3; simp only [ir8, Go.Proofs.YtipnedhclbopdaaDoorEv.start, List.length, Nat.reduceAdd, Nat.reduceSub, List.reduceReplicate, List.append_eq, List.cons_append, List.nil_append]
    conv => arg 4; simp only [heapOf]
    try conv => arg 5; simp only [List.length, Nat.reduceAdd]
    try conv => arg 6; simp only [List.length, Nat.reduceAdd]
    refine EVgo9 (h60') (h9) trivial trivial trivial trivial trivial trivial trivial trivial trivial trivial ?_
    exact EVret trivial
  have hn60 : ¬ (60 : Int) < (h.length : Int) := by omega
  have h10 := s10 hcf h o n (by omega)
  unfold applyT at h10
  by_cases k0 : kindT o = 0
  · rw [if_pos k0] at h10
    have hs := add_shape h o (argT o) n
    generalize addT h o (argT o) (cI n) = q at h10 hs
    obtain ⟨q1, q2⟩ := q
    obtain ⟨a, b, c, d, e, f, g⟩ := o
    obtain rfl : b = 0 := k0
    simp only [slI, encT] at *
    rcases hs with hs | ⟨hs, hle⟩
    · have hw : IntKind.i64.wrap ((q1.length : Int) - (h.length : Int)) = 0 := by rw [i64_in _ (by omega)]; omega
      conv => arg 2; simp only [ir8]
      conv => arg 3; simp only [ir8, Go.Proofs.YtipnedhclbopdaaDoorEv.start, List.length, Nat.reduceAdd, Nat.reduceSub, List.reduceReplicate, List.append_eq, List.cons_append, List.nil_append]
      conv => arg 4; simp only [heapOf]
      try conv => arg 5; simp only [List.length, Nat.reduceAdd]
      try conv => arg 6; simp only [List.length, Nat.reduceAdd]
      refine EVgo9 (And.intro (hn60) (hw)) (h9) (h11) (h10) trivial trivial trivial trivial trivial trivial trivial trivial ?_
      exact EVret trivial
    · have hw : IntKind.i64.wrap ((q1.length : Int) - (h.length : Int)) = 1 := by rw [i64_in _ (by omega)]; omega
      conv => arg 2; simp only [ir8]
      conv => arg 3; simp only [ir8, Go.Proofs.YtipnedhclbopdaaDoorEv.start, List.length, Nat.reduceAdd, Nat.reduceSub, List.reduceReplicate, List.append_eq, List.cons_append, List.nil_append]
      conv => arg 4; simp only [heapOf]
      try conv => arg 5; simp only [List.length, Nat.reduceAdd]
      try conv => arg 6; simp only [List.length, Nat.reduceAdd]
      refine EVgo9 (And.intro (hn60) ( And.intro (hw) (hle))) (h9) (h11) (h10) trivial trivial trivial trivial trivial trivial trivial trivial ?_
      exact EVret trivial
  rw [if_neg k0] at h10
  have k0' := beqf k0
  by_cases k2 : kindT o = 2
  · rw [if_pos k2] at h10
    have hs := add_shape h o (andI (argT o) 4294967295) n
    generalize addT h o (andI (argT o) 4294967295) (cI n) = q at h10 hs
    obtain ⟨q1, q2⟩ := q
    obtain ⟨a, b, c, d, e, f, g⟩ := o
    obtain rfl : b = 2 := k2
    simp only [slI, encT] at *
    rcases hs with hs | ⟨hs, hle⟩
    · have hw : IntKind.i64.wrap ((q1.length : Int) - (h.length : Int)) = 0 := by rw [i64_in _ (by omega)]; omega
      conv => arg 2; simp only [ir8]
      conv => arg 3; simp only [ir8, Go.Proofs.YtipnedhclbopdaaDoorEv.start, List.length, Nat.reduceAdd, Nat.reduceSub, List.reduceReplicate, List.append_eq, List.cons_append, List.nil_append]
      conv => arg 4; simp only [heapOf]
      try conv => arg 5; simp only [List.length, Nat.reduceAdd]
      try conv => arg 6; simp only [List.length, Nat.reduceAdd]
      refine EVgo9 (And.intro (hn60) (hw)) (h9) (h11) (h10) trivial trivial trivial trivial trivial trivial trivial trivial ?_
      exact EVret trivial
    · have hw : IntKind.i64.wrap ((q1.length : Int) - (h.length : Int)) = 1 := by rw [i64_in _ (by omega)]; omega
      conv => arg 2; simp only [ir8]
      conv => arg 3; simp only [ir8, Go.Proofs.YtipnedhclbopdaaDoorEv.start, List.length, Nat.reduceAdd, Nat.reduceSub, List.reduceReplicate, List.append_eq, List.cons_append, List.nil_append]
      conv => arg 4; simp only [heapOf]
      try conv => arg 5; simp only [List.length, Nat.reduceAdd]
      try conv => arg 6; simp only [List.length, Nat.reduceAdd]
      refine EVgo9 (And.intro (hn60) ( And.intro (hw) (hle))) (h9) (h11) (h10) trivial trivial trivial trivial trivial trivial trivial trivial ?_
      exact EVret trivial
  rw [if_neg k2] at h10
  have k2' := beqf k2
  by_cases k1 : kindT o = 1
  · rw [if_pos k1] at h10
    have hs := take_shape h o true
    generalize takeT h o true = q at h10 hs
    obtain ⟨q1, q2⟩ := q
    obtain ⟨a, b, c, d, e, f, g⟩ := o
    obtain rfl : b = 1 := k1
    simp only [slI, encT] at *
    rcases hs with hs | hs
    · have hw : IntKind.i64.wrap ((q1.length : Int) - (h.length : Int)) = 0 := by rw [i64_in _ (by omega)]; omega
      conv => arg 2; simp only [ir8]
      conv => arg 3; simp only [ir8, Go.Proofs.YtipnedhclbopdaaDoorEv.start, List.length, Nat.reduceAdd, Nat.reduceSub, List.reduceReplicate, List.append_eq, List.cons_append, List.nil_append]
      conv => arg 4; simp only [heapOf]
      try conv => arg 5; simp only [List.length, Nat.reduceAdd]
      try conv => arg 6; simp only [List.length, Nat.reduceAdd]
      refine EVgo9 (And.intro (hn60) (hw)) (h9) (h11) (h10) trivial trivial trivial trivial trivial trivial trivial trivial ?_
      exact EVret trivial
    · have hw : IntKind.i64.wrap ((q1.length : Int) - (h.length : Int)) = (-1) := by rw [i64_in _ (by omega)]; omega
      conv => arg 2; simp only [ir8]
      conv => arg 3; simp only [ir8, Go.Proofs.YtipnedhclbopdaaDoorEv.start, List.length, Nat.reduceAdd, Nat.reduceSub, List.reduceReplicate, List.append_eq, List.cons_append, List.nil_append]
      conv => arg 4; simp only [heapOf]
      try conv => arg 5; simp only [List.length, Nat.reduceAdd]
      try conv => arg 6; simp only [List.length, Nat.reduceAdd]
      refine EVgo9 (And.intro (hn60) (hw)) (h9) (h11) (h10) trivial trivial trivial trivial trivial trivial trivial trivial ?_
      exact EVret trivial
  rw [if_neg k1] at h10
  have k1' := beqf k1
  by_cases k3 : kindT o = 3
  · rw [if_pos k3] at h10
    have hs := take_shape h o false
    generalize takeT h o false = q at h10 hs
    obtain ⟨q1, q2⟩ := q
    obtain ⟨a, b, c, d, e, f, g⟩ := o
    obtain rfl : b = 3 := k3
    simp only [slI, encT] at *
    rcases hs with hs | hs
    · have hw : IntKind.i64.wrap ((q1.length : Int) - (h.length : Int)) = 0 := by rw [i64_in _ (by omega)]; omega
      conv => arg 2; simp only [ir8]
      conv => arg 3; simp only [ir8, Go.Proofs.YtipnedhclbopdaaDoorEv.start, List.length, Nat.reduceAdd, Nat.reduceSub, List.reduceReplicate, List.append_eq, List.cons_append, List.nil_append]
      conv => arg 4; simp only [heapOf]
      try conv => arg 5; simp only [List.length, Nat.reduceAdd]
      try conv => arg 6; simp only [List.length, Nat.reduceAdd]
      refine EVgo9 (And.intro (hn60) (hw)) (h9) (h11) (h10) trivial trivial trivial trivial trivial trivial trivial trivial ?_
      exact EVret trivial
    · have hw : IntKind.i64.wrap ((q1.length : Int) - (h.length : Int)) = (-1) := by rw [i64_in _ (by omega)]; omega
      conv => arg 2; simp only [ir8]
      conv => arg 3; simp only [ir8, Go.Proofs.YtipnedhclbopdaaDoorEv.start, List.length, Nat.reduceAdd, Nat.reduceSub, List.reduceReplicate, List.append_eq, List.cons_append, List.nil_append]
      conv => arg 4; simp only [heapOf]
      try conv => arg 5; simp only [List.length, Nat.reduceAdd]
      try conv => arg 6; simp only [List.length, Nat.reduceAdd]
      refine EVgo9 (And.intro (hn60) (hw)) (h9) (h11) (h10) trivial trivial trivial trivial trivial trivial trivial trivial ?_
      exact EVret trivial
  rw [if_neg k3] at h10
  have k3' := beqf k3
  obtain ⟨a, b, c, d, e, f, g⟩ := o
  simp only [slI, encT, kindT] at *
  have hw : IntKind.i64.wrap ((h.length : Int) - (h.length : Int)) = 0 := by rw [i64_in _ (by omega)]; omega
  conv => arg 2; simp only [ir8]
  conv => arg 3; simp only [ir8, Go.Proofs.YtipnedhclbopdaaDoorEv.start, List.length, Nat.reduceAdd, Nat.reduceSub, List.reduceReplicate, List.append_eq, List.cons_append, List.nil_append]
  conv => arg 4; simp only [heapOf]
  try conv => arg 5; simp only [List.length, Nat.reduceAdd]
  try conv => arg 6; simp only [List.length, Nat.reduceAdd]
  refine EVgo9 (And.intro (hn60) ( And.intro (hw) ( And.intro (k0') ( And.intro (k2') ( And.intro (k1') (k3')))))) (h9) (h11) (h10) trivial trivial trivial trivial trivial trivial trivial trivial ?_
  exact EVret trivial
end
end Go.Proofs.YtipnedhclbopdaaDoorR
