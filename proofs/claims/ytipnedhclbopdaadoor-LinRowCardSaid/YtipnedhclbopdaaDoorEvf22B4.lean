/- Apply. -/
import Derived.Test.YtipnedhclbopdaaDoorEvf22B3
open Go Go.Proofs.YtipnedhclbopdaaDoorEv Go.Proofs.YtipnedhclbopdaaDoorR Go.IntWalk Go.Proofs
set_option maxRecDepth 20000
set_option maxHeartbeats 8000000
set_option linter.unusedVariables false
set_option linter.unusedSimpArgs false
namespace Go.Proofs.YtipnedhclbopdaaDoorR
theorem beqf {a b : Int} (h : ¬ a = b) : (a == b) = false := beq_false_of_ne h
theorem beqt (a : Int) : (a == a) = true := beq_self_eq_true a
section
variable {cf : CF} (hcf : cf = ev env)
include hcf
theorem s10 (l : List Int) (o : Ot) (n : Int) (hl : l.length ≤ 100000) : Sp cf 10 [slI l, .agg (encT o), .int .i64 n] (.tup [slI (applyT l o n).1, .bool (applyT l o n).2]) := by
  have hc : (if 0 < (if 1000 < n then 1000 else n) then (if 1000 < n then 1000 else n) else 0) = cI n := rfl
  refine sp_of hcf env10 ?_
  unfold applyT
  by_cases k0 : kindT o = 0
  · rw [if_pos k0]
    have h := s19 hcf l o (argT o) (cI n) hl
    obtain ⟨a, b, c, d, e, f, g⟩ := o
    obtain rfl : b = 0 := k0
    generalize hp : addT l (a, 0, c, d, e, f, g) (argT (a, 0, c, d, e, f, g)) (cI n) = p at h ⊢
    obtain ⟨p1, p2⟩ := p
    simp only [encT, slI, argT] at *
    conv => arg 2; simp only [ir10]
    conv => arg 3; simp only [ir10, Go.Proofs.YtipnedhclbopdaaDoorEv.start, List.length, Nat.reduceAdd, Nat.reduceSub, List.reduceReplicate, List.append_eq, List.cons_append, List.nil_append]
    conv => arg 4; simp only [heapOf]
    try conv => arg 5; simp only [List.length, Nat.reduceAdd]
    try conv => arg 6; simp only [List.length, Nat.reduceAdd]
    refine EVgo9 (hc) (h) trivial trivial trivial trivial trivial trivial trivial trivial trivial trivial ?_
    exact EVret trivial
  · have k0' := beqf k0
    rw [if_neg k0]
    by_cases k2 : kindT o = 2
    · rw [if_pos k2]
      have h := s19 hcf l o (andI (argT o) 4294967295) (cI n) hl
      obtain ⟨a, b, c, d, e, f, g⟩ := o
      obtain rfl : b = 2 := k2
      have hA := andI_fold c 4294967295
      generalize hp : addT l (a, 2, c, d, e, f, g) (andI (argT (a, 2, c, d, e, f, g)) 4294967295) (cI n) = p at h ⊢
      obtain ⟨p1, p2⟩ := p
      simp only [encT, slI, argT] at *
      conv => arg 2; simp only [ir10]
      conv => arg 3; simp only [ir10, Go.Proofs.YtipnedhclbopdaaDoorEv.start, List.length, Nat.reduceAdd, Nat.reduceSub, List.reduceReplicate, List.append_eq, List.cons_append, List.nil_append]
      conv => arg 4; simp only [heapOf]
      try conv => arg 5; simp only [List.length, Nat.reduceAdd]
      try conv => arg 6; simp only [List.length, Nat.reduceAdd]
      refine EVgo9 (And.intro (hc) (hA)) (h) trivial trivial trivial trivial trivial trivial trivial trivial trivial trivial ?_
      exact EVret trivial
    · rw [if_neg k2]
      have k2' := beqf k2
      by_cases k1 : kindT o = 1
      · rw [if_pos k1]
        have h := s20 hcf l o true hl
        obtain ⟨a, b, c, d, e, f, g⟩ := o
        obtain rfl : b = 1 := k1
        generalize hp : takeT l (a, 1, c, d, e, f, g) true = p at h ⊢
        obtain ⟨p1, p2⟩ := p
        simp only [encT, slI, argT] at *
        conv => arg 2; simp only [ir10]
        conv => arg 3; simp only [ir10, Go.Proofs.YtipnedhclbopdaaDoorEv.start, List.length, Nat.reduceAdd, Nat.reduceSub, List.reduceReplicate, List.append_eq, List.cons_append, List.nil_append]
        conv => arg 4; simp only [heapOf]
        try conv => arg 5; simp only [List.length, Nat.reduceAdd]
        try conv => arg 6; simp only [List.length, Nat.reduceAdd]
        refine EVgo9 (hc) (h) trivial trivial trivial trivial trivial trivial trivial trivial trivial trivial ?_
        exact EVret trivial
      · rw [if_neg k1]
        have k1' := beqf k1
        by_cases k3 : kindT o = 3
        · rw [if_pos k3]
          have h := s20 hcf l o false hl
          obtain ⟨a, b, c, d, e, f, g⟩ := o
          obtain rfl : b = 3 := k3
          generalize hp : takeT l (a, 3, c, d, e, f, g) false = p at h ⊢
          obtain ⟨p1, p2⟩ := p
          simp only [encT, slI, argT] at *
          conv => arg 2; simp only [ir10]
          conv => arg 3; simp only [ir10, Go.Proofs.YtipnedhclbopdaaDoorEv.start, List.length, Nat.reduceAdd, Nat.reduceSub, List.reduceReplicate, List.append_eq, List.cons_append, List.nil_append]
          conv => arg 4; simp only [heapOf]
          try conv => arg 5; simp only [List.length, Nat.reduceAdd]
          try conv => arg 6; simp only [List.length, Nat.reduceAdd]
          refine EVgo9 (hc) (h) trivial trivial trivial trivial trivial trivial trivial trivial trivial trivial ?_
          exact EVret trivial
        · rw [if_neg k3]
          have k3' := beqf k3
          obtain ⟨a, b, c, d, e, f, g⟩ := o
          simp only [encT, slI, kindT] at *
          conv => arg 2; simp only [ir10]
          conv => arg 3; simp only [ir10, Go.Proofs.YtipnedhclbopdaaDoorEv.start, List.length, Nat.reduceAdd, Nat.reduceSub, List.reduceReplicate, List.append_eq, List.cons_append, List.nil_append]
          conv => arg 4; simp only [heapOf]
          try conv => arg 5; simp only [List.length, Nat.reduceAdd]
          try conv => arg 6; simp only [List.length, Nat.reduceAdd]
          refine EVgo9 (And.intro (hc) ( And.intro (k0') ( And.intro (k2') ( And.intro (k1') (k3'))))) trivial trivial trivial trivial trivial trivial trivial trivial trivial trivial trivial ?_
          exact EVret trivial
end
end Go.Proofs.YtipnedhclbopdaaDoorR
