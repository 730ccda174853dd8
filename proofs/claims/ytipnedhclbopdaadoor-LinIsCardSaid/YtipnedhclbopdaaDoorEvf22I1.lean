/- The document's Apply. -/
import Derived.Test.YtipnedhclbopdaaDoorEvf22G1
open Go Go.Proofs.YtipnedhclbopdaaDoorEv Go.Proofs.YtipnedhclbopdaaDoorR Go.IntWalk Go.Proofs
set_option maxRecDepth 20000
set_option maxHeartbeats 8000000
set_option linter.unusedVariables false
set_option linter.unusedSimpArgs false
namespace Go.Proofs.YtipnedhclbopdaaDoorR
section
variable {cf : CF} (hcf : cf = ev env)
include hcf
theorem s12a (l : List Int) (a c d : Int) (e : Bool) (f g n : Int) (hl : l.length ≤ 100000) : Sp cf 12 [slI l, .agg (encT (a, 0, c, d, e, f, g)), .int .i64 n] (.tup [slI (addT l (a, 0, c, d, e, f, g) c (cI n)).1, .bool (addT l (a, 0, c, d, e, f, g) c (cI n)).2]) := by
  have hc : (if 0 < (if 1000 < n then 1000 else n) then (if 1000 < n then 1000 else n) else 0) = cI n := rfl
  have hA := andI_fold c 4294967295
  have e1 := lenI l
  have e2 := allI l
  have e3 := snocI l c
  have e4 := snoc_len l c
  refine sp_of hcf env12 ?_
  unfold addT
  by_cases hm : cI n ≤ (l.length : Int)
  · rw [if_pos hm]
    simp only [encT, slI, okT] at *
    cases e with
    | false =>
      by_cases hg : 0 ≤ g
      · have he : endT (a, 0, c, d, false, f, g) = true := decide_eq_true hg
        rw [he]
        conv => arg 2; simp only [ir12]
        conv => arg 3; simp only [ir12, Go.Proofs.YtipnedhclbopdaaDoorEv.start, List.length, Nat.reduceAdd, Nat.reduceSub, List.reduceReplicate, List.append_eq, List.cons_append, List.nil_append]
        conv => arg 4; simp only [heapOf]
        try conv => arg 5; simp only [List.length, Nat.reduceAdd]
        try conv => arg 6; simp only [List.length, Nat.reduceAdd]
        refine EVgo9 (And.intro (hc) ( And.intro (e1) ( And.intro (e2) (hg)))) trivial trivial trivial trivial trivial trivial trivial trivial trivial trivial trivial ?_
        refine EVgo9 (And.intro (hm) ( And.intro (e1) (e2))) trivial trivial trivial trivial trivial trivial trivial trivial trivial trivial trivial ?_
        exact EVret (e2)
      · have he : endT (a, 0, c, d, false, f, g) = false := decide_eq_false hg
        rw [he]
        conv => arg 2; simp only [ir12]
        conv => arg 3; simp only [ir12, Go.Proofs.YtipnedhclbopdaaDoorEv.start, List.length, Nat.reduceAdd, Nat.reduceSub, List.reduceReplicate, List.append_eq, List.cons_append, List.nil_append]
        conv => arg 4; simp only [heapOf]
        try conv => arg 5; simp only [List.length, Nat.reduceAdd]
        try conv => arg 6; simp only [List.length, Nat.reduceAdd]
        refine EVgo9 (And.intro (hc) ( And.intro (e1) ( And.intro (e2) (hg)))) trivial trivial trivial trivial trivial trivial trivial trivial trivial trivial trivial ?_
        refine EVgo9 (And.intro (hm) ( And.intro (e1) (e2))) trivial trivial trivial trivial trivial trivial trivial trivial trivial trivial trivial ?_
        exact EVret (e2)
    | true =>
      by_cases hg : 0 ≤ g
      · have he : endT (a, 0, c, d, true, f, g) = true := decide_eq_true hg
        rw [he]
        conv => arg 2; simp only [ir12]
        conv => arg 3; simp only [ir12, Go.Proofs.YtipnedhclbopdaaDoorEv.start, List.length, Nat.reduceAdd, Nat.reduceSub, List.reduceReplicate, List.append_eq, List.cons_append, List.nil_append]
        conv => arg 4; simp only [heapOf]
        try conv => arg 5; simp only [List.length, Nat.reduceAdd]
        try conv => arg 6; simp only [List.length, Nat.reduceAdd]
        refine EVgo9 (And.intro (hc) ( And.intro (e1) ( And.intro (e2) (hg)))) trivial trivial trivial trivial trivial trivial trivial trivial trivial trivial trivial ?_
        refine EVgo9 (And.intro (hm) ( And.intro (e1) (e2))) trivial trivial trivial trivial trivial trivial trivial trivial trivial trivial trivial ?_
        exact EVret (e2)
      · have he : endT (a, 0, c, d, true, f, g) = false := decide_eq_false hg
        rw [he]
        conv => arg 2; simp only [ir12]
        conv => arg 3; simp only [ir12, Go.Proofs.YtipnedhclbopdaaDoorEv.start, List.length, Nat.reduceAdd, Nat.reduceSub, List.reduceReplicate, List.append_eq, List.cons_append, List.nil_append]
        conv => arg 4; simp only [heapOf]
        try conv => arg 5; simp only [List.length, Nat.reduceAdd]
        try conv => arg 6; simp only [List.length, Nat.reduceAdd]
        refine EVgo9 (And.intro (hc) ( And.intro (e1) ( And.intro (e2) (hg)))) trivial trivial trivial trivial trivial trivial trivial trivial trivial trivial trivial ?_
        refine EVgo9 (And.intro (hm) ( And.intro (e1) (e2))) trivial trivial trivial trivial trivial trivial trivial trivial trivial trivial trivial ?_
        exact EVret (e2)
  · rw [if_neg hm]
    simp only [encT, slI, okT] at *
    rw [e4]
    cases e with
    | false =>
      by_cases hg : 0 ≤ g
      · have he : endT (a, 0, c, d, false, f, g) = true := decide_eq_true hg
        rw [he]
        conv => arg 2; simp only [ir12]
        conv => arg 3; simp only [ir12, Go.Proofs.YtipnedhclbopdaaDoorEv.start, List.length, Nat.reduceAdd, Nat.reduceSub, List.reduceReplicate, List.append_eq, List.cons_append, List.nil_append]
        conv => arg 4; simp only [heapOf]
        try conv => arg 5; simp only [List.length, Nat.reduceAdd]
        try conv => arg 6; simp only [List.length, Nat.reduceAdd]
        refine EVgo9 (And.intro (hc) ( And.intro (e1) ( And.intro (e2) (hg)))) trivial trivial trivial trivial trivial trivial trivial trivial trivial trivial trivial ?_
        refine EVgo9 (And.intro (hm) ( And.intro (hA) ( And.intro (e1) ( And.intro (e2) (e3))))) trivial trivial trivial trivial trivial trivial trivial trivial trivial trivial trivial ?_
        exact EVret (e2)
      · have he : endT (a, 0, c, d, false, f, g) = false := decide_eq_false hg
        rw [he]
        conv => arg 2; simp only [ir12]
        conv => arg 3; simp only [ir12, Go.Proofs.YtipnedhclbopdaaDoorEv.start, List.length, Nat.reduceAdd, Nat.reduceSub, List.reduceReplicate, List.append_eq, List.cons_append, List.nil_append]
        conv => arg 4; simp only [heapOf]
        try conv => arg 5; simp only [List.length, Nat.reduceAdd]
        try conv => arg 6; simp only [List.length, Nat.reduceAdd]
        refine EVgo9 (And.intro (hc) ( And.intro (e1) ( And.intro (e2) (hg)))) trivial trivial trivial trivial trivial trivial trivial trivial trivial trivial trivial ?_
        refine EVgo9 (And.intro (hm) ( And.intro (hA) ( And.intro (e1) ( And.intro (e2) (e3))))) trivial trivial trivial trivial trivial trivial trivial trivial trivial trivial trivial ?_
        exact EVret (e2)
    | true =>
      by_cases hg : 0 ≤ g
      · have he : endT (a, 0, c, d, true, f, g) = true := decide_eq_true hg
        rw [he]
        conv => arg 2; simp only [ir12]
        conv => arg 3; simp only [ir12, Go.Proofs.YtipnedhclbopdaaDoorEv.start, List.length, Nat.reduceAdd, Nat.reduceSub, List.reduceReplicate, List.append_eq, List.cons_append, List.nil_append]
        conv => arg 4; simp only [heapOf]
        try conv => arg 5; simp only [List.length, Nat.reduceAdd]
        try conv => arg 6; simp only [List.length, Nat.reduceAdd]
        refine EVgo9 (And.intro (hc) ( And.intro (e1) ( And.intro (e2) (hg)))) trivial trivial trivial trivial trivial trivial trivial trivial trivial trivial trivial ?_
        refine EVgo9 (And.intro (hm) ( And.intro (hA) ( And.intro (e1) ( And.intro (e2) (e3))))) trivial trivial trivial trivial trivial trivial trivial trivial trivial trivial trivial ?_
        exact EVret (e2)
      · have he : endT (a, 0, c, d, true, f, g) = false := decide_eq_false hg
        rw [he]
        conv => arg 2; simp only [ir12]
        conv => arg 3; simp only [ir12, Go.Proofs.YtipnedhclbopdaaDoorEv.start, List.length, Nat.reduceAdd, Nat.reduceSub, List.reduceReplicate, List.append_eq, List.cons_append, List.nil_append]
        conv => arg 4; simp only [heapOf]
        try conv => arg 5; simp only [List.length, Nat.reduceAdd]
        try conv => arg 6; simp only [List.length, Nat.reduceAdd]
        refine EVgo9 (And.intro (hc) ( And.intro (e1) ( And.intro (e2) (hg)))) trivial trivial trivial trivial trivial trivial trivial trivial trivial trivial trivial ?_
        refine EVgo9 (And.intro (hm) ( And.intro (hA) ( And.intro (e1) ( And.intro (e2) (e3))))) trivial trivial trivial trivial trivial trivial trivial trivial trivial trivial trivial ?_
        exact EVret (e2)
theorem s12b (l : List Int) (a c d : Int) (e : Bool) (f g n : Int) (hl : l.length ≤ 100000) : Sp cf 12 [slI l, .agg (encT (a, 2, c, d, e, f, g)), .int .i64 n] (.tup [slI (addT l (a, 2, c, d, e, f, g) (andI c 4294967295) (cI n)).1, .bool (addT l (a, 2, c, d, e, f, g) (andI c 4294967295) (cI n)).2]) := by
  have hc : (if 0 < (if 1000 < n then 1000 else n) then (if 1000 < n then 1000 else n) else 0) = cI n := rfl
  have hA := andI_fold c 4294967295
  have e1 := lenI l
  have e2 := allI l
  have e3 := snocI l (andI c 4294967295)
  have e4 := snoc_len l (andI c 4294967295)
  refine sp_of hcf env12 ?_
  unfold addT
  by_cases hm : cI n ≤ (l.length : Int)
  · rw [if_pos hm]
    simp only [encT, slI, okT] at *
    cases e with
    | false =>
      by_cases hg : 0 ≤ g
      · have he : endT (a, 2, c, d, false, f, g) = true := decide_eq_true hg
        rw [he]
        conv => arg 2; simp only [ir12]
        conv => arg 3; simp only [ir12, Go.Proofs.YtipnedhclbopdaaDoorEv.start, List.length, Nat.reduceAdd, Nat.reduceSub, List.reduceReplicate, List.append_eq, List.cons_append, List.nil_append]
        conv => arg 4; simp only [heapOf]
        try conv => arg 5; simp only [List.length, Nat.reduceAdd]
        try conv => arg 6; simp only [List.length, Nat.reduceAdd]
        refine EVgo9 (And.intro (hc) ( And.intro (e1) ( And.intro (e2) (hg)))) trivial trivial trivial trivial trivial trivial trivial trivial trivial trivial trivial ?_
        refine EVgo9 (And.intro (hm) ( And.intro (e1) (e2))) trivial trivial trivial trivial trivial trivial trivial trivial trivial trivial trivial ?_
        exact EVret (e2)
      · have he : endT (a, 2, c, d, false, f, g) = false := decide_eq_false hg
        rw [he]
        conv => arg 2; simp only [ir12]
        conv => arg 3; simp only [ir12, Go.Proofs.YtipnedhclbopdaaDoorEv.start, List.length, Nat.reduceAdd, Nat.reduceSub, List.reduceReplicate, List.append_eq, List.cons_append, List.nil_append]
        conv => arg 4; simp only [heapOf]
        try conv => arg 5; simp only [List.length, Nat.reduceAdd]
        try conv => arg 6; simp only [List.length, Nat.reduceAdd]
        refine EVgo9 (And.intro (hc) ( And.intro (e1) ( And.intro (e2) (hg)))) trivial trivial trivial trivial trivial trivial trivial trivial trivial trivial trivial ?_
        refine EVgo9 (And.intro (hm) ( And.intro (e1) (e2))) trivial trivial trivial trivial trivial trivial trivial trivial trivial trivial trivial ?_
        exact EVret (e2)
    | true =>
      by_cases hg : 0 ≤ g
      · have he : endT (a, 2, c, d, true, f, g) = true := decide_eq_true hg
        rw [he]
        conv => arg 2; simp only [ir12]
        conv => arg 3; simp only [ir12, Go.Proofs.YtipnedhclbopdaaDoorEv.start, List.length, Nat.reduceAdd, Nat.reduceSub, List.reduceReplicate, List.append_eq, List.cons_append, List.nil_append]
        conv => arg 4; simp only [heapOf]
        try conv => arg 5; simp only [List.length, Nat.reduceAdd]
        try conv => arg 6; simp only [List.length, Nat.reduceAdd]
        refine EVgo9 (And.intro (hc) ( And.intro (e1) ( And.intro (e2) (hg)))) trivial trivial trivial trivial trivial trivial trivial trivial trivial trivial trivial ?_
        refine EVgo9 (And.intro (hm) ( And.intro (e1) (e2))) trivial trivial trivial trivial trivial trivial trivial trivial trivial trivial trivial ?_
        exact EVret (e2)
      · have he : endT (a, 2, c, d, true, f, g) = false := decide_eq_false hg
        rw [he]
        conv => arg 2; simp only [ir12]
        conv => arg 3; simp only [ir12, Go.Proofs.YtipnedhclbopdaaDoorEv.start, List.length, Nat.reduceAdd, Nat.reduceSub, List.reduceReplicate, List.append_eq, List.cons_append, List.nil_append]
        conv => arg 4; simp only [heapOf]
        try conv => arg 5; simp only [List.length, Nat.reduceAdd]
        try conv => arg 6; simp only [List.length, Nat.reduceAdd]
        refine EVgo9 (And.intro (hc) ( And.intro (e1) ( And.intro (e2) (hg)))) trivial trivial trivial trivial trivial trivial trivial trivial trivial trivial trivial ?_
        refine EVgo9 (And.intro (hm) ( And.intro (e1) (e2))) trivial trivial trivial trivial trivial trivial trivial trivial trivial trivial trivial ?_
        exact EVret (e2)
  · rw [if_neg hm]
    simp only [encT, slI, okT] at *
    rw [e4]
    cases e with
    | false =>
      by_cases hg : 0 ≤ g
      · have he : endT (a, 2, c, d, false, f, g) = true := decide_eq_true hg
        rw [he]
        conv => arg 2; simp only [ir12]
        conv => arg 3; simp only [ir12, Go.Proofs.YtipnedhclbopdaaDoorEv.start, List.length, Nat.reduceAdd, Nat.reduceSub, List.reduceReplicate, List.append_eq, List.cons_append, List.nil_append]
        conv => arg 4; simp only [heapOf]
        try conv => arg 5; simp only [List.length, Nat.reduceAdd]
        try conv => arg 6; simp only [List.length, Nat.reduceAdd]
        refine EVgo9 (And.intro (hc) ( And.intro (e1) ( And.intro (e2) (hg)))) trivial trivial trivial trivial trivial trivial trivial trivial trivial trivial trivial ?_
        refine EVgo9 (And.intro (hm) ( And.intro (hA) ( And.intro (e1) ( And.intro (e2) (e3))))) trivial trivial trivial trivial trivial trivial trivial trivial trivial trivial trivial ?_
        exact EVret (e2)
      · have he : endT (a, 2, c, d, false, f, g) = false := decide_eq_false hg
        rw [he]
        conv => arg 2; simp only [ir12]
        conv => arg 3; simp only [ir12, Go.Proofs.YtipnedhclbopdaaDoorEv.start, List.length, Nat.reduceAdd, Nat.reduceSub, List.reduceReplicate, List.append_eq, List.cons_append, List.nil_append]
        conv => arg 4; simp only [heapOf]
        try conv => arg 5; simp only [List.length, Nat.reduceAdd]
        try conv => arg 6; simp only [List.length, Nat.reduceAdd]
        refine EVgo9 (And.intro (hc) ( And.intro (e1) ( And.intro (e2) (hg)))) trivial trivial trivial trivial trivial trivial trivial trivial trivial trivial trivial ?_
        refine EVgo9 (And.intro (hm) ( And.intro (hA) ( And.intro (e1) ( And.intro (e2) (e3))))) trivial trivial trivial trivial trivial trivial trivial trivial trivial trivial trivial ?_
        exact EVret (e2)
    | true =>
      by_cases hg : 0 ≤ g
      · have he : endT (a, 2, c, d, true, f, g) = true := decide_eq_true hg
        rw [he]
        conv => arg 2; simp only [ir12]
        conv => arg 3; simp only [ir12, Go.Proofs.YtipnedhclbopdaaDoorEv.start, List.length, Nat.reduceAdd, Nat.reduceSub, List.reduceReplicate, List.append_eq, List.cons_append, List.nil_append]
        conv => arg 4; simp only [heapOf]
        try conv => arg 5; simp only [List.length, Nat.reduceAdd]
        try conv => arg 6; simp only [List.length, Nat.reduceAdd]
        refine EVgo9 (And.intro (hc) ( And.intro (e1) ( And.intro (e2) (hg)))) trivial trivial trivial trivial trivial trivial trivial trivial trivial trivial trivial ?_
        refine EVgo9 (And.intro (hm) ( And.intro (hA) ( And.intro (e1) ( And.intro (e2) (e3))))) trivial trivial trivial trivial trivial trivial trivial trivial trivial trivial trivial ?_
        exact EVret (e2)
      · have he : endT (a, 2, c, d, true, f, g) = false := decide_eq_false hg
        rw [he]
        conv => arg 2; simp only [ir12]
        conv => arg 3; simp only [ir12, Go.Proofs.YtipnedhclbopdaaDoorEv.start, List.length, Nat.reduceAdd, Nat.reduceSub, List.reduceReplicate, List.append_eq, List.cons_append, List.nil_append]
        conv => arg 4; simp only [heapOf]
        try conv => arg 5; simp only [List.length, Nat.reduceAdd]
        try conv => arg 6; simp only [List.length, Nat.reduceAdd]
        refine EVgo9 (And.intro (hc) ( And.intro (e1) ( And.intro (e2) (hg)))) trivial trivial trivial trivial trivial trivial trivial trivial trivial trivial trivial ?_
        refine EVgo9 (And.intro (hm) ( And.intro (hA) ( And.intro (e1) ( And.intro (e2) (e3))))) trivial trivial trivial trivial trivial trivial trivial trivial trivial trivial trivial ?_
        exact EVret (e2)
theorem s12c (l : List Int) (a c d : Int) (e : Bool) (f g n : Int) (hl : l.length ≤ 100000) : Sp cf 12 [slI l, .agg (encT (a, 1, c, d, e, f, g)), .int .i64 n] (.tup [slI (takeT l (a, 1, c, d, e, f, g) true).1, .bool (takeT l (a, 1, c, d, e, f, g) true).2]) := by
  have hc : (if 0 < (if 1000 < n then 1000 else n) then (if 1000 < n then 1000 else n) else 0) = cI n := rfl
  have e1 := lenI l
  have e2 := allI l
  refine sp_of hcf env12 ?_
  unfold takeT
  by_cases h0 : l.length = 0
  · rw [if_pos h0]
    have h0b : ((l.length : Int) == 0) = true := by rw [h0]; rfl
    simp only [encT, slI, okT] at *
    cases e with
    | false =>
      by_cases hg : 0 ≤ g
      · have he : endT (a, 1, c, d, false, f, g) = true := decide_eq_true hg
        rw [he]
        conv => arg 2; simp only [ir12]
        conv => arg 3; simp only [ir12, Go.Proofs.YtipnedhclbopdaaDoorEv.start, List.length, Nat.reduceAdd, Nat.reduceSub, List.reduceReplicate, List.append_eq, List.cons_append, List.nil_append]
        conv => arg 4; simp only [heapOf]
        try conv => arg 5; simp only [List.length, Nat.reduceAdd]
        try conv => arg 6; simp only [List.length, Nat.reduceAdd]
        refine EVgo9 (And.intro (hc) ( And.intro (e1) ( And.intro (e2) (hg)))) trivial trivial trivial trivial trivial trivial trivial trivial trivial trivial trivial ?_
        refine EVgo9 (And.intro (h0b) ( And.intro (e1) (e2))) trivial trivial trivial trivial trivial trivial trivial trivial trivial trivial trivial ?_
        exact EVret (e2)
      · have he : endT (a, 1, c, d, false, f, g) = false := decide_eq_false hg
        rw [he]
        conv => arg 2; simp only [ir12]
        conv => arg 3; simp only [ir12, Go.Proofs.YtipnedhclbopdaaDoorEv.start, List.length, Nat.reduceAdd, Nat.reduceSub, List.reduceReplicate, List.append_eq, List.cons_append, List.nil_append]
        conv => arg 4; simp only [heapOf]
        try conv => arg 5; simp only [List.length, Nat.reduceAdd]
        try conv => arg 6; simp only [List.length, Nat.reduceAdd]
        refine EVgo9 (And.intro (hc) ( And.intro (e1) ( And.intro (e2) (hg)))) trivial trivial trivial trivial trivial trivial trivial trivial trivial trivial trivial ?_
        refine EVgo9 (And.intro (h0b) ( And.intro (e1) (e2))) trivial trivial trivial trivial trivial trivial trivial trivial trivial trivial trivial ?_
        exact EVret (e2)
    | true =>
      by_cases hg : 0 ≤ g
      · have he : endT (a, 1, c, d, true, f, g) = true := decide_eq_true hg
        rw [he]
        conv => arg 2; simp only [ir12]
        conv => arg 3; simp only [ir12, Go.Proofs.YtipnedhclbopdaaDoorEv.start, List.length, Nat.reduceAdd, Nat.reduceSub, List.reduceReplicate, List.append_eq, List.cons_append, List.nil_append]
        conv => arg 4; simp only [heapOf]
        try conv => arg 5; simp only [List.length, Nat.reduceAdd]
        try conv => arg 6; simp only [List.length, Nat.reduceAdd]
        refine EVgo9 (And.intro (hc) ( And.intro (e1) ( And.intro (e2) (hg)))) trivial trivial trivial trivial trivial trivial trivial trivial trivial trivial trivial ?_
        refine EVgo9 (And.intro (h0b) ( And.intro (e1) (e2))) trivial trivial trivial trivial trivial trivial trivial trivial trivial trivial trivial ?_
        exact EVret (e2)
      · have he : endT (a, 1, c, d, true, f, g) = false := decide_eq_false hg
        rw [he]
        conv => arg 2; simp only [ir12]
        conv => arg 3; simp only [ir12, Go.Proofs.YtipnedhclbopdaaDoorEv.start, List.length, Nat.reduceAdd, Nat.reduceSub, List.reduceReplicate, List.append_eq, List.cons_append, List.nil_append]
        conv => arg 4; simp only [heapOf]
        try conv => arg 5; simp only [List.length, Nat.reduceAdd]
        try conv => arg 6; simp only [List.length, Nat.reduceAdd]
        refine EVgo9 (And.intro (hc) ( And.intro (e1) ( And.intro (e2) (hg)))) trivial trivial trivial trivial trivial trivial trivial trivial trivial trivial trivial ?_
        refine EVgo9 (And.intro (h0b) ( And.intro (e1) (e2))) trivial trivial trivial trivial trivial trivial trivial trivial trivial trivial trivial ?_
        exact EVret (e2)
  · rw [if_neg h0]
    have h0' : ¬ (l.length : Int) = 0 := by omega
    have h0b : ((l.length : Int) == 0) = false := beqf h0'
    have hw : IntKind.i64.wrap ((l.length : Int) - 1) = ((l.length - 1 : Nat) : Int) := by rw [i64_in _ (by omega)]; omega
    have a0 : PV.rop (flat encI l) = PV.rop (PV.int .i64 (l.getD 0 0) :: flat encI (l.drop 1)) := by
      have := at_I (l := l) (i := 0) (by omega)
      rw [List.drop_zero] at this
      exact congrArg _ this
    have a1 := at_I (l := l) (i := l.length - 1) (by omega)
    have hlt : ((l.length - 1 : Nat) : Int) < (l.length : Int) := by omega
    have h1 : (1 : Int) ≤ (l.length : Int) := by omega
    have hle : ((l.length - 1 : Nat) : Int) ≤ (l.length : Int) := by omega
    have hlt0 : (0 : Int) < (l.length : Int) := by omega
    have d4 : (l.drop 1).length = l.length - 1 := by simp
    have d3 : (List.drop 1 (flat encI l)).take (l.length - 1) = flat encI (l.drop 1) := by rw [dropI, ← d4, allI]
    have d5 : (flat encI (l.drop 1)).length = l.length - 1 := by rw [lenI, d4]
    have t3 := takeI l (l.length - 1)
    have t4 : (l.take (l.length - 1)).length = l.length - 1 := by simp
    have t5 : (flat encI (l.take (l.length - 1))).length = l.length - 1 := by rw [lenI, t4]
    have r1 := allI (l.drop 1)
    rw [d4] at r1
    have r2 := allI (l.take (l.length - 1))
    rw [t4] at r2
    rw [if_pos rfl]
    simp only [encT, slI, okT, resT] at *
    rw [t4]
    cases e with
    | false =>
      by_cases hg : 0 ≤ g
      · have he : endT (a, 1, c, d, false, f, g) = true := decide_eq_true hg
        rw [he]
        conv => arg 2; simp only [ir12]
        conv => arg 3; simp only [ir12, Go.Proofs.YtipnedhclbopdaaDoorEv.start, List.length, Nat.reduceAdd, Nat.reduceSub, List.reduceReplicate, List.append_eq, List.cons_append, List.nil_append]
        conv => arg 4; simp only [heapOf]
        try conv => arg 5; simp only [List.length, Nat.reduceAdd]
        try conv => arg 6; simp only [List.length, Nat.reduceAdd]
        refine EVgo9 (And.intro (hc) ( And.intro (e1) ( And.intro (e2) (hg)))) trivial trivial trivial trivial trivial trivial trivial trivial trivial trivial trivial ?_
        refine EVgo9 (And.intro (h0b) ( And.intro (hlt0) ( And.intro (h1) ( And.intro (a0) ( And.intro (d3) ( And.intro (d5) ( And.intro (r1) (hw)))))))) trivial trivial trivial trivial trivial trivial trivial trivial trivial trivial trivial ?_
        refine EVgo9 (And.intro (hw) ( And.intro (hlt) (a1))) trivial trivial trivial trivial trivial trivial trivial trivial trivial trivial trivial ?_
        refine EVgo9 (And.intro (hw) ( And.intro (hle) ( And.intro (t3) ( And.intro (t5) (r2))))) trivial trivial trivial trivial trivial trivial trivial trivial trivial trivial trivial ?_
        exact EVret (r2)
      · have he : endT (a, 1, c, d, false, f, g) = false := decide_eq_false hg
        rw [he]
        conv => arg 2; simp only [ir12]
        conv => arg 3; simp only [ir12, Go.Proofs.YtipnedhclbopdaaDoorEv.start, List.length, Nat.reduceAdd, Nat.reduceSub, List.reduceReplicate, List.append_eq, List.cons_append, List.nil_append]
        conv => arg 4; simp only [heapOf]
        try conv => arg 5; simp only [List.length, Nat.reduceAdd]
        try conv => arg 6; simp only [List.length, Nat.reduceAdd]
        refine EVgo9 (And.intro (hc) ( And.intro (e1) ( And.intro (e2) (hg)))) trivial trivial trivial trivial trivial trivial trivial trivial trivial trivial trivial ?_
        refine EVgo9 (And.intro (h0b) ( And.intro (hlt0) ( And.intro (h1) ( And.intro (a0) ( And.intro (d3) ( And.intro (d5) ( And.intro (r1) (hw)))))))) trivial trivial trivial trivial trivial trivial trivial trivial trivial trivial trivial ?_
        refine EVgo9 (And.intro (hw) ( And.intro (hlt) (a1))) trivial trivial trivial trivial trivial trivial trivial trivial trivial trivial trivial ?_
        refine EVgo9 (And.intro (hw) ( And.intro (hle) ( And.intro (t3) ( And.intro (t5) (r2))))) trivial trivial trivial trivial trivial trivial trivial trivial trivial trivial trivial ?_
        exact EVret (r2)
    | true =>
      by_cases hg : 0 ≤ g
      · have he : endT (a, 1, c, d, true, f, g) = true := decide_eq_true hg
        rw [he]
        conv => arg 2; simp only [ir12]
        conv => arg 3; simp only [ir12, Go.Proofs.YtipnedhclbopdaaDoorEv.start, List.length, Nat.reduceAdd, Nat.reduceSub, List.reduceReplicate, List.append_eq, List.cons_append, List.nil_append]
        conv => arg 4; simp only [heapOf]
        try conv => arg 5; simp only [List.length, Nat.reduceAdd]
        try conv => arg 6; simp only [List.length, Nat.reduceAdd]
        refine EVgo9 (And.intro (hc) ( And.intro (e1) ( And.intro (e2) (hg)))) trivial trivial trivial trivial trivial trivial trivial trivial trivial trivial trivial ?_
        refine EVgo9 (And.intro (h0b) ( And.intro (hlt0) ( And.intro (h1) ( And.intro (a0) ( And.intro (d3) ( And.intro (d5) ( And.intro (r1) (hw)))))))) trivial trivial trivial trivial trivial trivial trivial trivial trivial trivial trivial ?_
        refine EVgo9 (And.intro (hw) ( And.intro (hlt) (a1))) trivial trivial trivial trivial trivial trivial trivial trivial trivial trivial trivial ?_
        refine EVgo9 (And.intro (hw) ( And.intro (hle) ( And.intro (t3) ( And.intro (t5) (r2))))) trivial trivial trivial trivial trivial trivial trivial trivial trivial trivial trivial ?_
        exact EVret (r2)
      · have he : endT (a, 1, c, d, true, f, g) = false := decide_eq_false hg
        rw [he]
        conv => arg 2; simp only [ir12]
        conv => arg 3; simp only [ir12, Go.Proofs.YtipnedhclbopdaaDoorEv.start, List.length, Nat.reduceAdd, Nat.reduceSub, List.reduceReplicate, List.append_eq, List.cons_append, List.nil_append]
        conv => arg 4; simp only [heapOf]
        try conv => arg 5; simp only [List.length, Nat.reduceAdd]
        try conv => arg 6; simp only [List.length, Nat.reduceAdd]
        refine EVgo9 (And.intro (hc) ( And.intro (e1) ( And.intro (e2) (hg)))) trivial trivial trivial trivial trivial trivial trivial trivial trivial trivial trivial ?_
        refine EVgo9 (And.intro (h0b) ( And.intro (hlt0) ( And.intro (h1) ( And.intro (a0) ( And.intro (d3) ( And.intro (d5) ( And.intro (r1) (hw)))))))) trivial trivial trivial trivial trivial trivial trivial trivial trivial trivial trivial ?_
        refine EVgo9 (And.intro (hw) ( And.intro (hlt) (a1))) trivial trivial trivial trivial trivial trivial trivial trivial trivial trivial trivial ?_
        refine EVgo9 (And.intro (hw) ( And.intro (hle) ( And.intro (t3) ( And.intro (t5) (r2))))) trivial trivial trivial trivial trivial trivial trivial trivial trivial trivial trivial ?_
        exact EVret (r2)
theorem s12d (l : List Int) (a c d : Int) (e : Bool) (f g n : Int) (hl : l.length ≤ 100000) : Sp cf 12 [slI l, .agg (encT (a, 3, c, d, e, f, g)), .int .i64 n] (.tup [slI (takeT l (a, 3, c, d, e, f, g) false).1, .bool (takeT l (a, 3, c, d, e, f, g) false).2]) := by
  have hc : (if 0 < (if 1000 < n then 1000 else n) then (if 1000 < n then 1000 else n) else 0) = cI n := rfl
  have e1 := lenI l
  have e2 := allI l
  refine sp_of hcf env12 ?_
  unfold takeT
  by_cases h0 : l.length = 0
  · rw [if_pos h0]
    have h0b : ((l.length : Int) == 0) = true := by rw [h0]; rfl
    simp only [encT, slI, okT] at *
    cases e with
    | false =>
      by_cases hg : 0 ≤ g
      · have he : endT (a, 3, c, d, false, f, g) = true := decide_eq_true hg
        rw [he]
        conv => arg 2; simp only [ir12]
        conv => arg 3; simp only [ir12, Go.Proofs.YtipnedhclbopdaaDoorEv.start, List.length, Nat.reduceAdd, Nat.reduceSub, List.reduceReplicate, List.append_eq, List.cons_append, List.nil_append]
        conv => arg 4; simp only [heapOf]
        try conv => arg 5; simp only [List.length, Nat.reduceAdd]
        try conv => arg 6; simp only [List.length, Nat.reduceAdd]
        refine EVgo9 (And.intro (hc) ( And.intro (e1) ( And.intro (e2) (hg)))) trivial trivial trivial trivial trivial trivial trivial trivial trivial trivial trivial ?_
        refine EVgo9 (And.intro (h0b) ( And.intro (e1) (e2))) trivial trivial trivial trivial trivial trivial trivial trivial trivial trivial trivial ?_
        exact EVret (e2)
      · have he : endT (a, 3, c, d, false, f, g) = false := decide_eq_false hg
        rw [he]
        conv => arg 2; simp only [ir12]
        conv => arg 3; simp only [ir12, Go.Proofs.YtipnedhclbopdaaDoorEv.start, List.length, Nat.reduceAdd, Nat.reduceSub, List.reduceReplicate, List.append_eq, List.cons_append, List.nil_append]
        conv => arg 4; simp only [heapOf]
        try conv => arg 5; simp only [List.length, Nat.reduceAdd]
        try conv => arg 6; simp only [List.length, Nat.reduceAdd]
        refine EVgo9 (And.intro (hc) ( And.intro (e1) ( And.intro (e2) (hg)))) trivial trivial trivial trivial trivial trivial trivial trivial trivial trivial trivial ?_
        refine EVgo9 (And.intro (h0b) ( And.intro (e1) (e2))) trivial trivial trivial trivial trivial trivial trivial trivial trivial trivial trivial ?_
        exact EVret (e2)
    | true =>
      by_cases hg : 0 ≤ g
      · have he : endT (a, 3, c, d, true, f, g) = true := decide_eq_true hg
        rw [he]
        conv => arg 2; simp only [ir12]
        conv => arg 3; simp only [ir12, Go.Proofs.YtipnedhclbopdaaDoorEv.start, List.length, Nat.reduceAdd, Nat.reduceSub, List.reduceReplicate, List.append_eq, List.cons_append, List.nil_append]
        conv => arg 4; simp only [heapOf]
        try conv => arg 5; simp only [List.length, Nat.reduceAdd]
        try conv => arg 6; simp only [List.length, Nat.reduceAdd]
        refine EVgo9 (And.intro (hc) ( And.intro (e1) ( And.intro (e2) (hg)))) trivial trivial trivial trivial trivial trivial trivial trivial trivial trivial trivial ?_
        refine EVgo9 (And.intro (h0b) ( And.intro (e1) (e2))) trivial trivial trivial trivial trivial trivial trivial trivial trivial trivial trivial ?_
        exact EVret (e2)
      · have he : endT (a, 3, c, d, true, f, g) = false := decide_eq_false hg
        rw [he]
        conv => arg 2; simp only [ir12]
        conv => arg 3; simp only [ir12, Go.Proofs.YtipnedhclbopdaaDoorEv.start, List.length, Nat.reduceAdd, Nat.reduceSub, List.reduceReplicate, List.append_eq, List.cons_append, List.nil_append]
        conv => arg 4; simp only [heapOf]
        try conv => arg 5; simp only [List.length, Nat.reduceAdd]
        try conv => arg 6; simp only [List.length, Nat.reduceAdd]
        refine EVgo9 (And.intro (hc) ( And.intro (e1) ( And.intro (e2) (hg)))) trivial trivial trivial trivial trivial trivial trivial trivial trivial trivial trivial ?_
        refine EVgo9 (And.intro (h0b) ( And.intro (e1) (e2))) trivial trivial trivial trivial trivial trivial trivial trivial trivial trivial trivial ?_
        exact EVret (e2)
  · rw [if_neg h0]
    have h0' : ¬ (l.length : Int) = 0 := by omega
    have h0b : ((l.length : Int) == 0) = false := beqf h0'
    have hw : IntKind.i64.wrap ((l.length : Int) - 1) = ((l.length - 1 : Nat) : Int) := by rw [i64_in _ (by omega)]; omega
    have a0 : PV.rop (flat encI l) = PV.rop (PV.int .i64 (l.getD 0 0) :: flat encI (l.drop 1)) := by
      have := at_I (l := l) (i := 0) (by omega)
      rw [List.drop_zero] at this
      exact congrArg _ this
    have a1 := at_I (l := l) (i := l.length - 1) (by omega)
    have hlt : ((l.length - 1 : Nat) : Int) < (l.length : Int) := by omega
    have h1 : (1 : Int) ≤ (l.length : Int) := by omega
    have hle : ((l.length - 1 : Nat) : Int) ≤ (l.length : Int) := by omega
    have hlt0 : (0 : Int) < (l.length : Int) := by omega
    have d4 : (l.drop 1).length = l.length - 1 := by simp
    have d3 : (List.drop 1 (flat encI l)).take (l.length - 1) = flat encI (l.drop 1) := by rw [dropI, ← d4, allI]
    have d5 : (flat encI (l.drop 1)).length = l.length - 1 := by rw [lenI, d4]
    have t3 := takeI l (l.length - 1)
    have t4 : (l.take (l.length - 1)).length = l.length - 1 := by simp
    have t5 : (flat encI (l.take (l.length - 1))).length = l.length - 1 := by rw [lenI, t4]
    have r1 := allI (l.drop 1)
    rw [d4] at r1
    have r2 := allI (l.take (l.length - 1))
    rw [t4] at r2
    rw [if_neg (by simp)]
    simp only [encT, slI, okT, resT] at *
    rw [d4]
    cases e with
    | false =>
      by_cases hg : 0 ≤ g
      · have he : endT (a, 3, c, d, false, f, g) = true := decide_eq_true hg
        rw [he]
        conv => arg 2; simp only [ir12]
        conv => arg 3; simp only [ir12, Go.Proofs.YtipnedhclbopdaaDoorEv.start, List.length, Nat.reduceAdd, Nat.reduceSub, List.reduceReplicate, List.append_eq, List.cons_append, List.nil_append]
        conv => arg 4; simp only [heapOf]
        try conv => arg 5; simp only [List.length, Nat.reduceAdd]
        try conv => arg 6; simp only [List.length, Nat.reduceAdd]
        refine EVgo9 (And.intro (hc) ( And.intro (e1) ( And.intro (e2) (hg)))) trivial trivial trivial trivial trivial trivial trivial trivial trivial trivial trivial ?_
        refine EVgo9 (And.intro (h0b) ( And.intro (hlt0) ( And.intro (h1) ( And.intro (a0) ( And.intro (d3) ( And.intro (d5) (r1))))))) trivial trivial trivial trivial trivial trivial trivial trivial trivial trivial trivial ?_
        refine EVgo9 trivial trivial trivial trivial trivial trivial trivial trivial trivial trivial trivial trivial ?_
        exact EVret (r1)
      · have he : endT (a, 3, c, d, false, f, g) = false := decide_eq_false hg
        rw [he]
        conv => arg 2; simp only [ir12]
        conv => arg 3; simp only [ir12, Go.Proofs.YtipnedhclbopdaaDoorEv.start, List.length, Nat.reduceAdd, Nat.reduceSub, List.reduceReplicate, List.append_eq, List.cons_append, List.nil_append]
        conv => arg 4; simp only [heapOf]
        try conv => arg 5; simp only [List.length, Nat.reduceAdd]
        try conv => arg 6; simp only [List.length, Nat.reduceAdd]
        refine EVgo9 (And.intro (hc) ( And.intro (e1) ( And.intro (e2) (hg)))) trivial trivial trivial trivial trivial trivial trivial trivial trivial trivial trivial ?_
        refine EVgo9 (And.intro (h0b) ( And.intro (hlt0) ( And.intro (h1) ( And.intro (a0) ( And.intro (d3) ( And.intro (d5) (r1))))))) trivial trivial trivial trivial trivial trivial trivial trivial trivial trivial trivial ?_
        refine EVgo9 trivial trivial trivial trivial trivial trivial trivial trivial trivial trivial trivial trivial ?_
        exact EVret (r1)
    | true =>
      by_cases hg : 0 ≤ g
      · have he : endT (a, 3, c, d, true, f, g) = true := decide_eq_true hg
        rw [he]
        conv => arg 2; simp only [ir12]
        conv => arg 3; simp only [ir12, Go.Proofs.YtipnedhclbopdaaDoorEv.start, List.length, Nat.reduceAdd, Nat.reduceSub, List.reduceReplicate, List.append_eq, List.cons_append, List.nil_append]
        conv => arg 4; simp only [heapOf]
        try conv => arg 5; simp only [List.length, Nat.reduceAdd]
        try conv => arg 6; simp only [List.length, Nat.reduceAdd]
        refine EVgo9 (And.intro (hc) ( And.intro (e1) ( And.intro (e2) (hg)))) trivial trivial trivial trivial trivial trivial trivial trivial trivial trivial trivial ?_
        refine EVgo9 (And.intro (h0b) ( And.intro (hlt0) ( And.intro (h1) ( And.intro (a0) ( And.intro (d3) ( And.intro (d5) (r1))))))) trivial trivial trivial trivial trivial trivial trivial trivial trivial trivial trivial ?_
        refine EVgo9 trivial trivial trivial trivial trivial trivial trivial trivial trivial trivial trivial trivial ?_
        exact EVret (r1)
      · have he : endT (a, 3, c, d, true, f, g) = false := decide_eq_false hg
        rw [he]
        conv => arg 2; simp only [ir12]
        conv => arg 3; simp only [ir12, Go.Proofs.YtipnedhclbopdaaDoorEv.start, List.length, Nat.reduceAdd, Nat.reduceSub, List.reduceReplicate, List.append_eq, List.cons_append, List.nil_append]
        conv => arg 4; simp only [heapOf]
        try conv => arg 5; simp only [List.length, Nat.reduceAdd]
        try conv => arg 6; simp only [List.length, Nat.reduceAdd]
        refine EVgo9 (And.intro (hc) ( And.intro (e1) ( And.intro (e2) (hg)))) trivial trivial trivial trivial trivial trivial trivial trivial trivial trivial trivial ?_
        refine EVgo9 (And.intro (h0b) ( And.intro (hlt0) ( And.intro (h1) ( And.intro (a0) ( And.intro (d3) ( And.intro (d5) (r1))))))) trivial trivial trivial trivial trivial trivial trivial trivial trivial trivial trivial ?_
        refine EVgo9 trivial trivial trivial trivial trivial trivial trivial trivial trivial trivial trivial trivial ?_
        exact EVret (r1)
theorem s12 (l : List Int) (o : Ot) (n : Int) (hl : l.length ≤ 100000) : Sp cf 12 [slI l, .agg (encT o), .int .i64 n] (.tup [slI (applyT l o n).1, .bool (applyT l o n).2]) := by
  obtain ⟨a, b, c, d, e, f, g⟩ := o
  unfold applyT
  by_cases k0 : kindT (a, b, c, d, e, f, g) = 0
  · rw [if_pos k0]
    obtain rfl : b = 0 := k0
    exact s12a hcf l a c d e f g n hl
  by_cases k2 : kindT (a, b, c, d, e, f, g) = 2
  · rw [if_neg k0, if_pos k2]
    obtain rfl : b = 2 := k2
    exact s12b hcf l a c d e f g n hl
  by_cases k1 : kindT (a, b, c, d, e, f, g) = 1
  · rw [if_neg k0, if_neg k2, if_pos k1]
    obtain rfl : b = 1 := k1
    exact s12c hcf l a c d e f g n hl
  by_cases k3 : kindT (a, b, c, d, e, f, g) = 3
  · rw [if_neg k0, if_neg k2, if_neg k1, if_pos k3]
    obtain rfl : b = 3 := k3
    exact s12d hcf l a c d e f g n hl
  rw [if_neg k0, if_neg k2, if_neg k1, if_neg k3]
  have k0' := beqf k0
  have k1' := beqf k1
  have k2' := beqf k2
  have k3' := beqf k3
  have hc : (if 0 < (if 1000 < n then 1000 else n) then (if 1000 < n then 1000 else n) else 0) = cI n := rfl
  have e1 := lenI l
  have e2 := allI l
  refine sp_of hcf env12 ?_
  simp only [encT, slI, kindT] at *
  conv => arg 2; simp only [ir12]
  conv => arg 3; simp only [ir12, Go.Proofs.YtipnedhclbopdaaDoorEv.start, List.length, Nat.reduceAdd, Nat.reduceSub, List.reduceReplicate, List.append_eq, List.cons_append, List.nil_append]
  conv => arg 4; simp only [heapOf]
  try conv => arg 5; simp only [List.length, Nat.reduceAdd]
  try conv => arg 6; simp only [List.length, Nat.reduceAdd]
  refine EVgo9 (And.intro (hc) ( And.intro (e1) (e2))) trivial trivial trivial trivial trivial trivial trivial trivial trivial trivial trivial ?_
  refine EVgo9 (And.intro (k0') ( And.intro (k2') ( And.intro (k1') (k3')))) trivial trivial trivial trivial trivial trivial trivial trivial trivial trivial trivial ?_
  exact EVret (e2)
end
end Go.Proofs.YtipnedhclbopdaaDoorR
