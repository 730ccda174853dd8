/- LinSwaps: where an operation stands does not matter. -/
import Derived.Test.YtipnedhclbopdaaDoorEvf22G2
import Derived.Test.YtipnedhclbopdaaDoorEvf22P3
open Go Go.Proofs.YtipnedhclbopdaaDoorEv Go.Proofs.YtipnedhclbopdaaDoorR Go.IntWalk Go.Proofs
set_option maxRecDepth 20000
set_option linter.unusedVariables false
set_option linter.unusedSimpArgs false
namespace Go.Proofs.YtipnedhclbopdaaDoorR
theorem getD_set {l : List Ot} {i j : Nat} {v : Ot} (hi : i < l.length) : (l.set i v).getD j nilT = if j = i then v else l.getD j nilT := by
  rw [List.getD_eq_getElem?_getD, List.getElem?_set, List.getD_eq_getElem?_getD]
  by_cases h : i = j
  · subst h; rw [if_pos rfl, if_pos rfl, if_pos hi]; rfl
  · rw [if_neg h, if_neg (Ne.symm h)]
theorem swapT_at {l : List Ot} {a b : Nat} (ha : a < l.length) (hb : b < l.length) (k : Nat) : (swapT l a b).getD k nilT = l.getD (swp a b k) nilT := by
  unfold swapT swp
  rw [getD_set (by simpa using hb), getD_set ha]
  (repeat' split) <;> first | rfl | omega
theorem swp_swp (a b k : Nat) : swp a b (swp a b k) = k := by
  unfold swp
  (repeat' split) <;> omega
theorem has_swap {l : List Ot} {n : Int} {a b : Nat} (ha : a < l.length) (hb : b < l.length) : HasO (swapT l a b) n ↔ HasO l n := by
  have hl : (swapT l a b).length = l.length := by simp [swapT]
  constructor
  · intro h
    exact wide_has (swap_wide (l := swapT l a b) (l' := l) hl.symm (by rw [hl]; exact ha) (by rw [hl]; exact hb) fun k _ => (swapT_at ha hb k).symm) h
  · intro h
    exact wide_has (swap_wide (l := l) (l' := swapT l a b) hl ha hb fun k _ => by rw [swapT_at ha hb, swp_swp]) h
theorem lin_swap {l : List Ot} {n : Int} {a b : Nat} (ha : a < l.length) (hb : b < l.length) (h8 : l.length ≤ 8) : linT (swapT l a b) n = linT l n := by
  have hl : (swapT l a b).length = l.length := by simp [swapT]
  have h1 := search_iff (swapT l a b) n
  have h2 := search_iff l n
  rw [has_swap ha hb, ← h2] at h1
  have e : searchT (swapT l a b) n = searchT l n := Bool.eq_iff_iff.2 h1
  unfold linT
  rw [hl, e]
theorem inI_wf {n : Int} (h : (Lit.int .i64 n).wf = true) : inI n = true := decide_eq_true (wf_i64 h)
end Go.Proofs.YtipnedhclbopdaaDoorR
