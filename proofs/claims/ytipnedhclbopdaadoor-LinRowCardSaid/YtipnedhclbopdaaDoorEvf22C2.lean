/- The document's After. -/
import Derived.Test.YtipnedhclbopdaaDoorEvf22C1
open Go Go.Proofs.YtipnedhclbopdaaDoorEv Go.Proofs.YtipnedhclbopdaaDoorR Go.IntWalk Go.Proofs
set_option maxRecDepth 20000
set_option maxHeartbeats 8000000
set_option linter.unusedVariables false
set_option linter.unusedSimpArgs false
namespace Go.Proofs.YtipnedhclbopdaaDoorR
section
variable {cf : CF} (hcf : cf = ev env)
include hcf
theorem s18 (l : List Ot) (d : List Bool) (i : Int) (hl : l.length ≤ 1000) (hd : d.length ≤ 1000) : Sp cf 18 [slT l, slB d, .int .i64 i] (.bool (afterI l d i)) := by
  refine sp_of hcf env18 ?_
  unfold afterI
  by_cases hi : i < 0
  · rw [if_neg (by omega)]
    simp only [slT, slB]
    conv => arg 2; simp only [ir18]
    conv => arg 3; simp only [ir18, Go.Proofs.YtipnedhclbopdaaDoorEv.start, List.length, Nat.reduceAdd, Nat.reduceSub, List.reduceReplicate, List.append_eq, List.cons_append, List.nil_append]
    conv => arg 4; simp only [heapOf]
    try conv => arg 5; simp only [List.length, Nat.reduceAdd]
    try conv => arg 6; simp only [List.length, Nat.reduceAdd]
    refine EVgo9 (hi) trivial trivial trivial trivial trivial trivial trivial trivial trivial trivial trivial ?_
    exact EVret trivial
  by_cases hi2 : (l.length : Int) ≤ i
  · rw [if_neg (by omega)]
    simp only [slT, slB]
    conv => arg 2; simp only [ir18]
    conv => arg 3; simp only [ir18, Go.Proofs.YtipnedhclbopdaaDoorEv.start, List.length, Nat.reduceAdd, Nat.reduceSub, List.reduceReplicate, List.append_eq, List.cons_append, List.nil_append]
    conv => arg 4; simp only [heapOf]
    try conv => arg 5; simp only [List.length, Nat.reduceAdd]
    try conv => arg 6; simp only [List.length, Nat.reduceAdd]
    refine EVgo9 (And.intro (hi) (hi2)) trivial trivial trivial trivial trivial trivial trivial trivial trivial trivial trivial ?_
    exact EVret trivial
  rw [if_pos (by omega)]
  obtain ⟨n, rfl⟩ : ∃ n : Nat, i = n := ⟨i.toNat, by omega⟩
  have hnl : n < l.length := by omega
  rw [Int.toNat_natCast]
  have h23n := s25 hcf d n (by omega) (by omega)
  unfold afterN
  simp only [slT, slB] at *
  cases hb : isB d n <;> rw [hb] at h23n
  · rw [Bool.not_false, Bool.true_and]
    have an := at_T hnl
    have hnl' : (n : Int) < (l.length : Int) := by omega
    generalize l.getD n nilT = y at an ⊢
    obtain ⟨y1, y2, y3, y4, y5, fr, y7⟩ := y
    have hA0 : fromT (y1, y2, y3, y4, y5, fr, y7) = fr := rfl
    rw [hA0]
    clear hA0
    simp only at an
    generalize hA : freeL d fr 0 l = A
    conv => arg 2; simp only [ir18]
    conv => arg 3; simp only [ir18, Go.Proofs.YtipnedhclbopdaaDoorEv.start, List.length, Nat.reduceAdd, Nat.reduceSub, List.reduceReplicate, List.append_eq, List.cons_append, List.nil_append]
    conv => arg 4; simp only [heapOf]
    try conv => arg 5; simp only [List.length, Nat.reduceAdd]
    try conv => arg 6; simp only [List.length, Nat.reduceAdd]
    refine EVgo9 (And.intro (hi) (hi2)) (h23n) trivial trivial trivial trivial trivial trivial trivial trivial trivial trivial ?_
    refine WC.loop (T' := _) (H' := _) (n' := _) rfl ((?_ : ∀ (r p : List Ot), p ++ r = l → freeL d fr p.length r = A →
      WC cf _ (mkT 52 [(0, .sl l.length false (flat encT l)), (1, .sl d.length false (flat encB d)), (2, .int .i64 (n : Nat)), (7, .int .i64 (p.length : Nat))]) [] 0 0 _) l [] rfl hA)
    intro r
    induction r with
    | nil =>
      intro p hp hA2
      rw [List.append_nil] at hp
      subst hp
      obtain rfl : A = true := hA2.symm
      conv => arg 3; simp only [mkT, putT, List.reduceReplicate, List.set]
      refine EVgl9 trivial trivial trivial trivial trivial trivial trivial trivial trivial trivial trivial trivial ?_
      exact EVret trivial
    | cons x r ih =>
      intro p hp hA
      obtain ⟨a, b, c, e, f, g, h⟩ := x
      have hlen : l.length = p.length + (r.length + 1) := by rw [← hp]; simp
      have hlt : (p.length : Int) < (l.length : Int) := by omega
      have hw : IntKind.i64.wrap ((p.length : Int) + 1) = ((p.length + 1 : Nat) : Int) := by rw [i64_in _ (by omega)]; simp
      have eK := mid_T hp
      have h23 := s25 hcf d p.length (by omega) (by omega)
      have hih := ih (p ++ [(a, b, c, e, f, g, h)]) (by rw [List.append_assoc]; exact hp)
      rw [snoc_len] at hih
      simp only [slB] at h23
      rw [freeL] at hA
      cases hq : isB d p.length <;> rw [hq] at h23
      · cases he : endT (a, b, c, e, f, g, h) 
        · have hz : blkB d fr p.length (a, b, c, e, f, g, h) = false := by unfold blkB; rw [he]; simp
          have he' : ¬ 0 ≤ h := of_decide_eq_false he
          rw [hz, Bool.not_false, Bool.true_and] at hA
          have hih' := hih hA
          conv => arg 3; simp only [mkT, putT, List.reduceReplicate, List.set]
          refine EVgo9 (And.intro (hlt) ( And.intro (hw) ( And.intro (eK) (he')))) (h23) trivial trivial trivial trivial trivial trivial trivial trivial trivial trivial ?_
          exact WC.loop rfl hih'
        · have he' : 0 ≤ h := of_decide_eq_true he
          by_cases ht : h < fr
          · have hz : blkB d fr p.length (a, b, c, e, f, g, h) = true := by unfold blkB; rw [he, hq, decide_eq_true (show toT (a, b, c, e, f, g, h) < fr from ht)]; rfl
            rw [hz, Bool.not_true, Bool.false_and] at hA
            cases hA
            --C2
            conv => arg 3; simp only [mkT, putT, List.reduceReplicate, List.set]
            refine EVgo9 (And.intro (hlt) ( And.intro (hw) ( And.intro (eK) ( And.intro (hnl') ( And.intro (an) ( And.intro (he') (ht))))))) (h23) trivial trivial trivial trivial trivial trivial trivial trivial trivial trivial ?_
            exact EVret trivial
          · have hz : blkB d fr p.length (a, b, c, e, f, g, h) = false := by unfold blkB; rw [he, hq, decide_eq_false (show ¬ toT (a, b, c, e, f, g, h) < fr from ht)]; rfl
            rw [hz, Bool.not_false, Bool.true_and] at hA
            have hih' := hih hA
            --C3
            conv => arg 3; simp only [mkT, putT, List.reduceReplicate, List.set]
            refine EVgo9 (And.intro (hlt) ( And.intro (hw) ( And.intro (eK) ( And.intro (hnl') ( And.intro (an) ( And.intro (he') (ht))))))) (h23) trivial trivial trivial trivial trivial trivial trivial trivial trivial trivial ?_
            exact WC.loop rfl hih'
      · have hz : blkB d fr p.length (a, b, c, e, f, g, h) = false := by unfold blkB; rw [hq]; rfl
        rw [hz, Bool.not_false, Bool.true_and] at hA
        have hih' := hih hA
        --C4
        conv => arg 3; simp only [mkT, putT, List.reduceReplicate, List.set]
        refine EVgo9 (And.intro (hlt) ( And.intro (hw) (eK))) (h23) trivial trivial trivial trivial trivial trivial trivial trivial trivial trivial ?_
        exact WC.loop rfl hih'
  · rw [Bool.not_true, Bool.false_and]
    conv => arg 2; simp only [ir18]
    conv => arg 3; simp only [ir18, Go.Proofs.YtipnedhclbopdaaDoorEv.start, List.length, Nat.reduceAdd, Nat.reduceSub, List.reduceReplicate, List.append_eq, List.cons_append, List.nil_append]
    conv => arg 4; simp only [heapOf]
    try conv => arg 5; simp only [List.length, Nat.reduceAdd]
    try conv => arg 6; simp only [List.length, Nat.reduceAdd]
    refine EVgo9 (And.intro (hi) (hi2)) (h23n) trivial trivial trivial trivial trivial trivial trivial trivial trivial trivial ?_
    exact EVret trivial
end
end Go.Proofs.YtipnedhclbopdaaDoorR
