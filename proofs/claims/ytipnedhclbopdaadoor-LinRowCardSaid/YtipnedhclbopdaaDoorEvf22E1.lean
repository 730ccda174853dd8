/- search, Lin. -/
import Derived.Test.YtipnedhclbopdaaDoorEvf22D3
open Go Go.Proofs.YtipnedhclbopdaaDoorEv Go.Proofs.YtipnedhclbopdaaDoorR Go.IntWalk Go.Proofs
set_option maxRecDepth 20000
set_option maxHeartbeats 8000000
set_option linter.unusedVariables false
set_option linter.unusedSimpArgs false
namespace Go.Proofs.YtipnedhclbopdaaDoorR
def fresh (l : List Ot) : List Bool := List.replicate l.length false
theorem fresh_in (l : List Ot) (h8 : l.length ≤ 8) : In l (fresh l) [] :=
  ⟨by simp [fresh], by simp [fresh, cntF]; omega, rfl⟩
theorem fresh_cnt (l : List Ot) : cntF (fresh l) = l.length := by simp [fresh, cntF]
def searchT (l : List Ot) (n : Int) : Bool := (memo l n (l.length + 1) (fresh l) [] []).1
def linT (l : List Ot) (n : Int) : Int := if l.length > 8 then 2 else if searchT l n = true then 1 else 0
section
variable {cf : CF} (hcf : cf = ev env)
include hcf
theorem s21 (l : List Ot) (n : Int) (h8 : l.length ≤ 8) (hl : ∀ x ∈ l, inI (argT x) = true) : Sp cf 21 [slT l, .int .i64 n] (.bool (searchT l n)) := by
  have h27 := s27n hcf l n h8 hl l.length (fresh l) [] (fresh_in l h8) (by rw [fresh_cnt]; omega)
  have e0 : (((List.replicate l.length [PV.bool false]).flatten).drop 0).take (l.length * 1) = flat encB (fresh l) := by
    have e1 : flat encB (fresh l) = (List.replicate l.length [PV.bool false]).flatten := by simp [flat, fresh, encB]
    have e2 := allB (fresh l)
    rw [← e1, List.drop_zero, Nat.mul_one]
    rwa [show (fresh l).length = l.length by simp [fresh]] at e2
  have e3 : (fresh l).length = l.length := by simp [fresh]
  refine sp_of hcf env21 ?_
  unfold searchT
  generalize memo l n (l.length + 1) (fresh l) [] [] = z at h27 ⊢
  obtain ⟨z1, z2⟩ := z
  simp only [H5, capF, slB, slT, mOf, List.map] at h27 ⊢
  rw [e3, ← e0] at h27
  have g1 : l.length ≤ 16777216 := by omega
  have g2 : l.length * 1 ≤ 16777216 := by omega
  conv => arg 2; simp only [ir21]
  conv => arg 3; simp only [ir21, Go.Proofs.YtipnedhclbopdaaDoorEv.start, List.length, Nat.reduceAdd, Nat.reduceSub, List.reduceReplicate, List.append_eq, List.cons_append, List.nil_append]
  conv => arg 4; simp only [heapOf]
  try conv => arg 5; simp only [List.length, Nat.reduceAdd]
  try conv => arg 6; simp only [List.length, Nat.reduceAdd]
  refine EVgo9 trivial (h27) trivial trivial trivial trivial trivial trivial trivial trivial (k_mkslice rfl rfl g1 g2) trivial ?_
  exact EVret trivial
theorem s13 (l : List Ot) (n : Int) (hl : ∀ x ∈ l, inI (argT x) = true) : Sp cf 13 [slT l, .int .i64 n] (.int .i64 (linT l n)) := by
  refine sp_of hcf env13 ?_
  unfold linT
  by_cases h8 : l.length > 8
  · rw [if_pos h8]
    have h8' : (8 : Int) < (l.length : Int) := by omega
    simp only [slT]
    conv => arg 2; simp only [ir13]
    conv => arg 3; simp only [ir13, Go.Proofs.YtipnedhclbopdaaDoorEv.start, List.length, Nat.reduceAdd, Nat.reduceSub, List.reduceReplicate, List.append_eq, List.cons_append, List.nil_append]
    conv => arg 4; simp only [heapOf]
    try conv => arg 5; simp only [List.length, Nat.reduceAdd]
    try conv => arg 6; simp only [List.length, Nat.reduceAdd]
    refine EVgo9 (h8') trivial trivial trivial trivial trivial trivial trivial trivial trivial trivial trivial ?_
    exact EVret trivial
  · rw [if_neg h8]
    have h8' : ¬ (8 : Int) < (l.length : Int) := by omega
    have h21 := s21 hcf l n (by omega) hl
    simp only [slT] at h21 ⊢
    cases hs : searchT l n with
    | true =>
      rw [hs] at h21
      rw [if_pos rfl]
      conv => arg 2; simp only [ir13]
      conv => arg 3; simp only [ir13, Go.Proofs.YtipnedhclbopdaaDoorEv.start, List.length, Nat.reduceAdd, Nat.reduceSub, List.reduceReplicate, List.append_eq, List.cons_append, List.nil_append]
      conv => arg 4; simp only [heapOf]
      try conv => arg 5; simp only [List.length, Nat.reduceAdd]
      try conv => arg 6; simp only [List.length, Nat.reduceAdd]
      refine EVgo9 (h8') (h21) trivial trivial trivial trivial trivial trivial trivial trivial trivial trivial ?_
      exact EVret trivial
    | false =>
      rw [hs] at h21
      rw [if_neg (by simp)]
      conv => arg 2; simp only [ir13]
      conv => arg 3; simp only [ir13, Go.Proofs.YtipnedhclbopdaaDoorEv.start, List.length, Nat.reduceAdd, Nat.reduceSub, List.reduceReplicate, List.append_eq, List.cons_append, List.nil_append]
      conv => arg 4; simp only [heapOf]
      try conv => arg 5; simp only [List.length, Nat.reduceAdd]
      try conv => arg 6; simp only [List.length, Nat.reduceAdd]
      refine EVgo9 (h8') (h21) trivial trivial trivial trivial trivial trivial trivial trivial trivial trivial ?_
      exact EVret trivial
end
end Go.Proofs.YtipnedhclbopdaaDoorR
