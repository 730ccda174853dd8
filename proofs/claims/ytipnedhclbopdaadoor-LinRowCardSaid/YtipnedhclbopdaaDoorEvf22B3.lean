/- take, Apply. -/
import Derived.Test.YtipnedhclbopdaaDoorEvf22B2
open Go Go.Proofs.YtipnedhclbopdaaDoorEv Go.Proofs.YtipnedhclbopdaaDoorR Go.IntWalk Go.Proofs
set_option maxRecDepth 20000
set_option maxHeartbeats 8000000
set_option linter.unusedVariables false
set_option linter.unusedSimpArgs false
namespace Go.Proofs.YtipnedhclbopdaaDoorR
theorem dropI (l : List Int) (i : Nat) : (flat encI l).drop i = flat encI (l.drop i) := by
  have := flat_drop (enc := encI) (es := 1) (fun _ => rfl) l i
  rwa [Nat.mul_one] at this
theorem takeI (l : List Int) (i : Nat) : (flat encI l).take i = flat encI (l.take i) := by
  have := flat_take (enc := encI) (es := 1) (fun _ => rfl) l i
  rwa [Nat.mul_one] at this
section
variable {cf : CF} (hcf : cf = ev env)
include hcf
theorem s20 (l : List Int) (o : Ot) (b : Bool) (hl : l.length ≤ 100000) : Sp cf 20 [slI l, .agg (encT o), .bool b] (.tup [slI (takeT l o b).1, .bool (takeT l o b).2]) := by
  have h24 := s24 hcf o
  refine sp_of hcf env20 ?_
  unfold takeT
  by_cases h0 : l.length = 0
  · rw [if_pos h0]
    have h0' : (l.length : Int) = 0 := by omega
    obtain ⟨a, b, c, d, e, f, g⟩ := o
    simp only [encT, slI, okT] at *
    cases he : endT (a, b, c, d, e, f, g) <;> rw [he] at h24
    · conv => arg 2; simp only [ir20]
      conv => arg 3; simp only [ir20, Go.Proofs.YtipnedhclbopdaaDoorEv.start, List.length, Nat.reduceAdd, Nat.reduceSub, List.reduceReplicate, List.append_eq, List.cons_append, List.nil_append]
      conv => arg 4; simp only [heapOf]
      try conv => arg 5; simp only [List.length, Nat.reduceAdd]
      try conv => arg 6; simp only [List.length, Nat.reduceAdd]
      refine EVgo9 (h0') (h24) trivial trivial trivial trivial trivial trivial trivial trivial trivial trivial ?_
      exact EVret trivial
    · conv => arg 2; simp only [ir20]
      conv => arg 3; simp only [ir20, Go.Proofs.YtipnedhclbopdaaDoorEv.start, List.length, Nat.reduceAdd, Nat.reduceSub, List.reduceReplicate, List.append_eq, List.cons_append, List.nil_append]
      conv => arg 4; simp only [heapOf]
      try conv => arg 5; simp only [List.length, Nat.reduceAdd]
      try conv => arg 6; simp only [List.length, Nat.reduceAdd]
      refine EVgo9 (h0') (h24) trivial trivial trivial trivial trivial trivial trivial trivial trivial trivial ?_
      exact EVret trivial
  · rw [if_neg h0]
    have h0' : ¬ (l.length : Int) = 0 := by omega
    have hw : IntKind.i64.wrap ((l.length : Int) - 1) = ((l.length - 1 : Nat) : Int) := by rw [i64_in _ (by omega)]; omega
    have a0 : PV.rop (flat encI l) = PV.rop (PV.int .i64 (l.getD 0 0) :: flat encI (l.drop 1)) := by
      have := at_I (l := l) (i := 0) (by omega)
      rw [List.drop_zero] at this
      exact congrArg _ this
    have h0b : ((l.length : Int) == 0) = false := beq_false_of_ne h0'
    have a1 := at_I (l := l) (i := l.length - 1) (by omega)
    have hlt : ((l.length - 1 : Nat) : Int) < (l.length : Int) := by omega
    have h1 : (1 : Int) ≤ (l.length : Int) := by omega
    obtain ⟨a, b1, c, d, e, f, g⟩ := o
    cases b with
    | true =>
      have h26 := s26 hcf (l.take (l.length - 1)) (by simp; omega)
      have e3 := takeI l (l.length - 1)
      have e4 : (l.take (l.length - 1)).length = l.length - 1 := by simp
      rw [if_pos rfl]
      simp only [encT, slI, okT, resT] at *
      rw [e4] at h26 ⊢
      cases he : endT (a, b1, c, d, e, f, g) <;> rw [he] at h24
      · conv => arg 2; simp only [ir20]
        conv => arg 3; simp only [ir20, Go.Proofs.YtipnedhclbopdaaDoorEv.start, List.length, Nat.reduceAdd, Nat.reduceSub, List.reduceReplicate, List.append_eq, List.cons_append, List.nil_append]
        conv => arg 4; simp only [heapOf]
        try conv => arg 5; simp only [List.length, Nat.reduceAdd]
        try conv => arg 6; simp only [List.length, Nat.reduceAdd]
        refine EVgo9 (And.intro (h0b) ( And.intro (hw) ( And.intro (a0) ( And.intro (hlt) (h1))))) trivial trivial trivial trivial trivial trivial trivial trivial trivial trivial trivial ?_
        refine EVgo9 (And.intro (a1) ( And.intro (hw) (e3))) (h26) (h24) trivial trivial trivial trivial trivial trivial trivial trivial trivial ?_
        exact EVret trivial
      · cases e
        · conv => arg 2; simp only [ir20]
          conv => arg 3; simp only [ir20, Go.Proofs.YtipnedhclbopdaaDoorEv.start, List.length, Nat.reduceAdd, Nat.reduceSub, List.reduceReplicate, List.append_eq, List.cons_append, List.nil_append]
          conv => arg 4; simp only [heapOf]
          try conv => arg 5; simp only [List.length, Nat.reduceAdd]
          try conv => arg 6; simp only [List.length, Nat.reduceAdd]
          refine EVgo9 (And.intro (h0b) ( And.intro (hw) ( And.intro (a0) ( And.intro (hlt) (h1))))) trivial trivial trivial trivial trivial trivial trivial trivial trivial trivial trivial ?_
          refine EVgo9 (And.intro (a1) ( And.intro (hw) (e3))) (h26) (h24) trivial trivial trivial trivial trivial trivial trivial trivial trivial ?_
          exact EVret trivial
        · conv => arg 2; simp only [ir20]
          conv => arg 3; simp only [ir20, Go.Proofs.YtipnedhclbopdaaDoorEv.start, List.length, Nat.reduceAdd, Nat.reduceSub, List.reduceReplicate, List.append_eq, List.cons_append, List.nil_append]
          conv => arg 4; simp only [heapOf]
          try conv => arg 5; simp only [List.length, Nat.reduceAdd]
          try conv => arg 6; simp only [List.length, Nat.reduceAdd]
          refine EVgo9 (And.intro (h0b) ( And.intro (hw) ( And.intro (a0) ( And.intro (hlt) (h1))))) trivial trivial trivial trivial trivial trivial trivial trivial trivial trivial trivial ?_
          refine EVgo9 (And.intro (a1) ( And.intro (hw) (e3))) (h26) (h24) trivial trivial trivial trivial trivial trivial trivial trivial trivial ?_
          exact EVret trivial
    | false =>
      have h26 := s26 hcf (l.drop 1) (by simp; omega)
      have e4 : (l.drop 1).length = l.length - 1 := by simp
      have e3 : (List.drop 1 (flat encI l)).take (l.length - 1) = flat encI (l.drop 1) := by rw [dropI, ← e4, allI]
      rw [if_neg (by simp)]
      simp only [encT, slI, okT, resT] at *
      rw [e4] at h26 ⊢
      cases he : endT (a, b1, c, d, e, f, g) <;> rw [he] at h24
      · conv => arg 2; simp only [ir20]
        conv => arg 3; simp only [ir20, Go.Proofs.YtipnedhclbopdaaDoorEv.start, List.length, Nat.reduceAdd, Nat.reduceSub, List.reduceReplicate, List.append_eq, List.cons_append, List.nil_append]
        conv => arg 4; simp only [heapOf]
        try conv => arg 5; simp only [List.length, Nat.reduceAdd]
        try conv => arg 6; simp only [List.length, Nat.reduceAdd]
        refine EVgo9 (And.intro (h0b) ( And.intro (hw) ( And.intro (a0) ( And.intro (hlt) ( And.intro (h1) (e3)))))) (h26) (h24) trivial trivial trivial trivial trivial trivial trivial trivial trivial ?_
        exact EVret trivial
      · cases e
        · conv => arg 2; simp only [ir20]
          conv => arg 3; simp only [ir20, Go.Proofs.YtipnedhclbopdaaDoorEv.start, List.length, Nat.reduceAdd, Nat.reduceSub, List.reduceReplicate, List.append_eq, List.cons_append, List.nil_append]
          conv => arg 4; simp only [heapOf]
          try conv => arg 5; simp only [List.length, Nat.reduceAdd]
          try conv => arg 6; simp only [List.length, Nat.reduceAdd]
          refine EVgo9 (And.intro (h0b) ( And.intro (hw) ( And.intro (a0) ( And.intro (hlt) ( And.intro (h1) (e3)))))) (h26) (h24) trivial trivial trivial trivial trivial trivial trivial trivial trivial ?_
          exact EVret trivial
        · conv => arg 2; simp only [ir20]
          conv => arg 3; simp only [ir20, Go.Proofs.YtipnedhclbopdaaDoorEv.start, List.length, Nat.reduceAdd, Nat.reduceSub, List.reduceReplicate, List.append_eq, List.cons_append, List.nil_append]
          conv => arg 4; simp only [heapOf]
          try conv => arg 5; simp only [List.length, Nat.reduceAdd]
          try conv => arg 6; simp only [List.length, Nat.reduceAdd]
          refine EVgo9 (And.intro (h0b) ( And.intro (hw) ( And.intro (a0) ( And.intro (hlt) ( And.intro (h1) (e3)))))) (h26) (h24) trivial trivial trivial trivial trivial trivial trivial trivial trivial ?_
          exact EVret trivial
end
end Go.Proofs.YtipnedhclbopdaaDoorR
