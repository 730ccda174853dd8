/- Clone, put, take, Apply. -/
import Derived.Test.YtipnedhclbopdaaDoorEvf22B1
open Go Go.Proofs.YtipnedhclbopdaaDoorEv Go.Proofs.YtipnedhclbopdaaDoorR Go.IntWalk Go.Proofs
set_option maxRecDepth 20000
set_option maxHeartbeats 8000000
set_option linter.unusedVariables false
set_option linter.unusedSimpArgs false
namespace Go.Proofs.YtipnedhclbopdaaDoorR
def addT (h : List Int) (o : Ot) (v m : Int) : List Int × Bool := if m ≤ (h.length : Int) then (h, !endT o || !(okT o == true)) else (h ++ [v], !endT o || !(okT o == false))
def takeT (h : List Int) (o : Ot) (last : Bool) : List Int × Bool :=
  if h.length = 0 then (h, !endT o || !okT o)
  else if last = true then (h.take (h.length - 1), !endT o || (okT o && (resT o == h.getD (h.length - 1) 0)))
  else (h.drop 1, !endT o || (okT o && (resT o == h.getD 0 0)))
def cI (n : Int) : Int := if 0 < (if 1000 < n then 1000 else n) then (if 1000 < n then 1000 else n) else 0
theorem cI_le (n : Int) : 0 ≤ cI n ∧ cI n ≤ 1000 := by unfold cI; split <;> split <;> omega
def applyT (h : List Int) (o : Ot) (n : Int) : List Int × Bool :=
  if kindT o = 0 then addT h o (argT o) (cI n)
  else if kindT o = 2 then addT h o (andI (argT o) 4294967295) (cI n)
  else if kindT o = 1 then takeT h o true
  else if kindT o = 3 then takeT h o false
  else (h, false)
theorem clone0_26 (l : List Int) (h : l.length ≤ 1000000) (hp : 0 < l.length) : ev env0 26 [slI l] [] = some (.own 0 1 0 l.length, [some (.row (flat encI l))]) := by
  refine ev_ofC envZ26 ?_
  have hne : l.length ≠ 0 := by omega
  have e1 := lenI l
  have e2 := allI l
  simp only [slI]
  conv => arg 2; simp only [ir26]
  conv => arg 3; simp only [ir26, Go.Proofs.YtipnedhclbopdaaDoorEv.start, List.length, Nat.reduceAdd, Nat.reduceSub, List.reduceReplicate, List.append_eq, List.cons_append, List.nil_append]
  conv => arg 4; simp only [heapOf]
  try conv => arg 5; simp only [List.length, Nat.reduceAdd]
  try conv => arg 6; simp only [List.length, Nat.reduceAdd]
  refine EVgo9 trivial trivial trivial trivial trivial trivial trivial trivial trivial trivial (k_eqNil_sl rfl hne) trivial ?_
  refine EVgo9 (And.intro (e1) (e2)) trivial trivial trivial trivial trivial trivial trivial trivial trivial trivial trivial ?_
  exact WQ.ret rfl
theorem clone0_29 (l : List Bool) (h : l.length ≤ 1000000) (hp : 0 < l.length) : ev env0 29 [slB l] [] = some (.own 0 1 0 l.length, [some (.row (flat encB l))]) := by
  refine ev_ofC envZ29 ?_
  have hne : l.length ≠ 0 := by omega
  have e1 := lenB l
  have e2 := allB l
  simp only [slB]
  conv => arg 2; simp only [ir29]
  conv => arg 3; simp only [ir29, Go.Proofs.YtipnedhclbopdaaDoorEv.start, List.length, Nat.reduceAdd, Nat.reduceSub, List.reduceReplicate, List.append_eq, List.cons_append, List.nil_append]
  conv => arg 4; simp only [heapOf]
  try conv => arg 5; simp only [List.length, Nat.reduceAdd]
  try conv => arg 6; simp only [List.length, Nat.reduceAdd]
  refine EVgo9 trivial trivial trivial trivial trivial trivial trivial trivial trivial trivial (k_eqNil_sl rfl hne) trivial ?_
  refine EVgo9 (And.intro (e1) (e2)) trivial trivial trivial trivial trivial trivial trivial trivial trivial trivial trivial ?_
  exact WQ.ret rfl
section
variable {cf : CF} (hcf : cf = ev env)
include hcf
theorem s26 (l : List Int) (h : l.length ≤ 1000000) : cf 26 [slI l] [] = some (.own 0 1 0 l.length, [some (.row (flat encI l))]) := by
  subst hcf
  cases l with
  | nil => exact ev_prim envP26 _ _ rfl
  | cons x l => exact ev_prim envP26 _ _ (clone0_26 (x :: l) h (by simp))
theorem s29 (l : List Bool) (h : l.length ≤ 1000000) : cf 29 [slB l] [] = some (.own 0 1 0 l.length, [some (.row (flat encB l))]) := by
  subst hcf
  cases l with
  | nil => exact ev_prim envP29 _ _ rfl
  | cons x l => exact ev_prim envP29 _ _ (clone0_29 (x :: l) h (by simp))
theorem s19 (l : List Int) (o : Ot) (v m : Int) (hl : l.length ≤ 100000) : Sp cf 19 [slI l, .agg (encT o), .int .i64 v, .int .i64 m] (.tup [slI (addT l o v m).1, .bool (addT l o v m).2]) := by
  have h24 := s24 hcf o
  have h26 := s26 hcf l (by omega)
  have e1 := lenI l
  have e2 := allI l
  refine sp_of hcf env19 ?_
  unfold addT
  by_cases hm : m ≤ (l.length : Int)
  · rw [if_pos hm]
    obtain ⟨a, b, c, d, e, f, g⟩ := o
    simp only [encT, slI, okT] at *
    cases he : endT (a, b, c, d, e, f, g) <;> rw [he] at h24
    · conv => arg 2; simp only [ir19]
      conv => arg 3; simp only [ir19, Go.Proofs.YtipnedhclbopdaaDoorEv.start, List.length, Nat.reduceAdd, Nat.reduceSub, List.reduceReplicate, List.append_eq, List.cons_append, List.nil_append]
      conv => arg 4; simp only [heapOf]
      try conv => arg 5; simp only [List.length, Nat.reduceAdd]
      try conv => arg 6; simp only [List.length, Nat.reduceAdd]
      refine EVgo9 (hm) (h24) trivial trivial trivial trivial trivial trivial trivial trivial trivial trivial ?_
      exact EVret trivial
    · conv => arg 2; simp only [ir19]
      conv => arg 3; simp only [ir19, Go.Proofs.YtipnedhclbopdaaDoorEv.start, List.length, Nat.reduceAdd, Nat.reduceSub, List.reduceReplicate, List.append_eq, List.cons_append, List.nil_append]
      conv => arg 4; simp only [heapOf]
      try conv => arg 5; simp only [List.length, Nat.reduceAdd]
      try conv => arg 6; simp only [List.length, Nat.reduceAdd]
      refine EVgo9 (hm) (h24) trivial trivial trivial trivial trivial trivial trivial trivial trivial trivial ?_
      exact EVret trivial
  · rw [if_neg hm]
    have e3 := snocI l v
    have e4 := snoc_len l v
    obtain ⟨a, b, c, d, e, f, g⟩ := o
    simp only [encT, slI, okT] at *
    rw [e4]
    cases he : endT (a, b, c, d, e, f, g) <;> rw [he] at h24
    · conv => arg 2; simp only [ir19]
      conv => arg 3; simp only [ir19, Go.Proofs.YtipnedhclbopdaaDoorEv.start, List.length, Nat.reduceAdd, Nat.reduceSub, List.reduceReplicate, List.append_eq, List.cons_append, List.nil_append]
      conv => arg 4; simp only [heapOf]
      try conv => arg 5; simp only [List.length, Nat.reduceAdd]
      try conv => arg 6; simp only [List.length, Nat.reduceAdd]
      refine EVgo9 (And.intro (hm) ( And.intro (e2) (e3))) (h26) (h24) trivial trivial trivial trivial trivial trivial trivial trivial trivial ?_
      exact EVret trivial
    · conv => arg 2; simp only [ir19]
      conv => arg 3; simp only [ir19, Go.Proofs.YtipnedhclbopdaaDoorEv.start, List.length, Nat.reduceAdd, Nat.reduceSub, List.reduceReplicate, List.append_eq, List.cons_append, List.nil_append]
      conv => arg 4; simp only [heapOf]
      try conv => arg 5; simp only [List.length, Nat.reduceAdd]
      try conv => arg 6; simp only [List.length, Nat.reduceAdd]
      refine EVgo9 (And.intro (hm) ( And.intro (e2) (e3))) (h26) (h24) trivial trivial trivial trivial trivial trivial trivial trivial trivial ?_
      exact EVret trivial
end
end Go.Proofs.YtipnedhclbopdaaDoorR
