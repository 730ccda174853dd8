/- Lin tells whether there is an order; the document's example. -/
import Derived.Test.YtipnedhclbopdaaDoorEvf22E1
import Derived.Test.YtipnedhclbopdaaDoorEvf22P2
open Go Go.Proofs.YtipnedhclbopdaaDoorEv Go.Proofs.YtipnedhclbopdaaDoorR Go.IntWalk Go.Proofs
set_option maxRecDepth 20000
set_option maxHeartbeats 8000000
set_option linter.unusedVariables false
set_option linter.unusedSimpArgs false
namespace Go.Proofs.YtipnedhclbopdaaDoorR
/-- there is an order -/
def HasO (l : List Ot) (n : Int) : Prop := Ord l n (fresh l) []
theorem search_iff (l : List Ot) (n : Int) : searchT l n = true ↔ HasO l n := by
  have := memo_spec l n (l.length + 1) (fresh l) [] [] (by simp [fresh]) (by rw [fresh_cnt]; omega) (fun d h _ hm => by simp at hm)
  exact this.1
theorem lin_iff {l : List Ot} {n : Int} (h8 : l.length ≤ 8) : linT l n = 1 ↔ HasO l n := by
  unfold linT
  rw [if_neg (by omega), ← search_iff]
  cases searchT l n <;> simp
theorem lin_not {l : List Ot} {n : Int} (h8 : l.length ≤ 8) : linT l n = 0 ↔ ¬ HasO l n := by
  unfold linT
  rw [if_neg (by omega), ← search_iff]
  cases searchT l n <;> simp
def exPush : Ot := (0, 0, 5, 0, true, 0, 3)
def exPop : Ot := (1, 1, 0, 5, true, 1, 2)
def exLate : Ot := (0, 0, 5, 0, true, 3, 4)
theorem ex_yes : HasO [exPush, exPop] 3 := by
  refine .step 0 (by decide) (by decide) (by decide) (.step 1 (by decide) (by decide) (by decide) (.stop (by decide)))
theorem ex_no : ¬ HasO [exPop, exLate] 3 := by
  intro h
  cases h with
  | stop e => exact absurd e (by decide)
  | step k hk ha hb t =>
    match k, hk, ha, hb with
    | 0, _, _, hb => exact absurd hb (by decide)
    | 1, _, ha, _ => exact absurd ha (by decide)
theorem ex_lin1 : linT [exPush, exPop] 3 = 1 := (lin_iff (by decide)).2 ex_yes
theorem ex_lin0 : linT [exPop, exLate] 3 = 0 := (lin_not (by decide)).2 ex_no
section
variable {cf : CF} (hcf : cf = ev env)
include hcf
theorem s9 : Sp cf 9 [] (.bool true) := by
  have h1 := s13 hcf [exPush, exPop] 3 (by decide)
  have h2 := s13 hcf [exPop, exLate] 3 (by decide)
  rw [ex_lin1] at h1
  rw [ex_lin0] at h2
  refine sp_of hcf env9 ?_
  simp only [exPush, exPop, exLate, slT, List.length, flat, encT, List.map, List.flatten, List.append, Nat.reduceAdd, List.cons_append, List.nil_append, List.append_eq] at h1 h2
  conv => arg 2; simp only [ir9]
  conv => arg 3; simp only [ir9, Go.Proofs.YtipnedhclbopdaaDoorEv.start, List.length, Nat.reduceAdd, Nat.reduceSub, List.reduceReplicate, List.append_eq, List.cons_append, List.nil_append]
  conv => arg 4; simp only [heapOf]
  try conv => arg 5; simp only [List.length, Nat.reduceAdd]
  try conv => arg 6; simp only [List.length, Nat.reduceAdd]
  refine EVgo9 trivial (h1) (h2) trivial trivial trivial trivial trivial trivial trivial trivial trivial ?_
  exact EVret trivial
end
end Go.Proofs.YtipnedhclbopdaaDoorR
