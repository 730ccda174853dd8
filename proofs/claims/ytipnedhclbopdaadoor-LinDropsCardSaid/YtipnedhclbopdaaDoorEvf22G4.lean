/- LinDrops, walked. -/
import Derived.Test.YtipnedhclbopdaaDoorEvf22G2
open Go Go.Proofs.YtipnedhclbopdaaDoorEv Go.Proofs.YtipnedhclbopdaaDoorR Go.IntWalk Go.Proofs
set_option maxRecDepth 20000
set_option maxHeartbeats 8000000
set_option linter.unusedVariables false
set_option linter.unusedSimpArgs false
namespace Go.Proofs.YtipnedhclbopdaaDoorR
def unend (x : Ot) : Ot := (x.1, x.2.1, x.2.2.1, x.2.2.2.1, x.2.2.2.2.1, x.2.2.2.2.2.1, -1)
/-- what the loop asks of an operation ahead of the last -/
def behind (y x : Ot) : Prop := toT x < fromT y ∧ 0 ≤ toT x ∧ ¬ (0 ≤ toT y ∧ toT y < fromT x)
section
variable {cf : CF} (hcf : cf = ev env)
include hcf
theorem s5 (l : List Ot) (n : Int) (o : Ot) (hin : ∀ x ∈ l, inI (argT x) = true) (hio : inI (argT o) = true)
    (hadd : l.length ≤ 7 → linT l n = 1 → linT (l ++ [unend o]) n = 1)
    (hdrop : l.length ≤ 7 → 0 < l.length → linT l n = 1 → (∀ x ∈ l.take (l.length - 1), behind (l.getD (l.length - 1) nilT) x) → linT (l.take (l.length - 1)) n = 1) : Sp cf 5 [slT l, .int .i64 n, .agg (encT o)] (.bool true) := by
  have h9 := s9 hcf
  refine sp_of hcf env5 ?_
  by_cases h7 : l.length > 7
  · have h7' : (7 : Int) < (l.length : Int) := by omega
    simp only [slT]
    conv => arg 2; simp only [ir5]
    conv => arg 3; simp only [ir5, Go.Proofs.YtipnedhclbopdaaDoorEv.start, List.length, Nat.reduceAdd, Nat.reduceSub, List.reduceReplicate, List.append_eq, List.cons_append, List.nil_append]
    conv => arg 4; simp only [heapOf]
    try conv => arg 5; simp only [List.length, Nat.reduceAdd]
    try conv => arg 6; simp only [List.length, Nat.reduceAdd]
    refine EVgo9 (h7') (h9) trivial trivial trivial trivial trivial trivial trivial trivial trivial trivial ?_
    exact EVret trivial
  have h7' : ¬ (7 : Int) < (l.length : Int) := by omega
  have h14l := s14 hcf l (by omega)
  have h13l := s13 hcf l n hin
  by_cases h1 : ¬ linT l n = 1
  · have h1' : (linT l n != 1) = true := by simpa using h1
    simp only [slT] at h14l h13l ⊢
    conv => arg 2; simp only [ir5]
    conv => arg 3; simp only [ir5, Go.Proofs.YtipnedhclbopdaaDoorEv.start, List.length, Nat.reduceAdd, Nat.reduceSub, List.reduceReplicate, List.append_eq, List.cons_append, List.nil_append]
    conv => arg 4; simp only [heapOf]
    try conv => arg 5; simp only [List.length, Nat.reduceAdd]
    try conv => arg 6; simp only [List.length, Nat.reduceAdd]
    refine EVgo9 (And.intro (h7') (h1')) (h9) (h14l) (h13l) trivial trivial trivial trivial trivial trivial trivial trivial ?_
    exact EVret trivial
  have h1 := Decidable.not_not.1 h1
  rw [h1] at h13l
  have hmin : ∀ x ∈ l ++ [unend o], inI (argT x) = true := fun x hx => by
    rcases List.mem_append.1 hx with q | q
    · exact hin x q
    · rw [List.mem_singleton.1 q]; exact hio
  have h14m := s14 hcf (l ++ [unend o]) (by simp; omega)
  have h13m := s13 hcf (l ++ [unend o]) n hmin
  rw [hadd (by omega) h1] at h13m
  have e1 := lenT l
  have e2 := allT l
  simp only [slT] at h14m h13m h14l h13l ⊢
  rw [snoc_len] at h14m h13m
  have hraw : ((flat encT (l ++ [unend o])).drop 0).take ((l.length + 1) * 7) = flat encT (l ++ [unend o]) := by
    have := allT (l ++ [unend o])
    rwa [snoc_len] at this
  have h14r : Sp cf 14 [.sl (l.length + 1) false (((flat encT (l ++ [unend o])).drop 0).take ((l.length + 1) * 7))] (.sl (l.length + 1) false (flat encT (l ++ [unend o]))) := by rw [hraw]; exact h14m
  obtain ⟨o1, o2, o3, o4, o5, o6, o7⟩ := o
  have e3 := snocT l o1 o2 o3 o4 o5 o6 (-1)
  have e4 : l ++ [(o1, o2, o3, o4, o5, o6, (-1 : Int))] = l ++ [unend (o1, o2, o3, o4, o5, o6, o7)] := rfl
  rw [e4] at e3
  simp only [encT]
  by_cases h0 : l.length = 0
  · have h0' : ((l.length : Int) == 0) = true := by rw [h0]; rfl
    conv => arg 2; simp only [ir5]
    conv => arg 3; simp only [ir5, Go.Proofs.YtipnedhclbopdaaDoorEv.start, List.length, Nat.reduceAdd, Nat.reduceSub, List.reduceReplicate, List.append_eq, List.cons_append, List.nil_append]
    conv => arg 4; simp only [heapOf]
    try conv => arg 5; simp only [List.length, Nat.reduceAdd]
    try conv => arg 6; simp only [List.length, Nat.reduceAdd]
    refine EVgo9 (h7') (h9) (h14l) (h13l) trivial trivial trivial trivial trivial trivial trivial trivial ?_
    refine EVgo9 (And.intro (e1) ( And.intro (e2) (e3))) (h14r) (h13m) trivial trivial trivial trivial trivial trivial trivial trivial trivial ?_
    refine EVgo9 (h0') trivial trivial trivial trivial trivial trivial trivial trivial trivial trivial trivial ?_
    exact EVret trivial
  have h0' : ((l.length : Int) == 0) = false := beqf (by omega)
  have hp := hdrop (by omega) (by omega) h1
  have hw1 : IntKind.i64.wrap ((l.length : Int) - 1) = ((l.length - 1 : Nat) : Int) := by rw [i64_in _ (by omega)]; omega
  have hll : ((l.length - 1 : Nat) : Int) < (l.length : Int) := by omega
  have eL := at_T (l := l) (i := l.length - 1) (by omega)
  have h14t := s14 hcf (l.take (l.length - 1)) (by simp; omega)
  have h13t := s13 hcf (l.take (l.length - 1)) n (fun x hx => hin x (List.mem_of_mem_take hx))
  have ht1 : (l.take (l.length - 1)).length = l.length - 1 := by simp
  have ht2 := takeT7 l (l.length - 1)
  simp only [slT] at h14t h13t
  rw [ht1] at h14t h13t
  generalize hy : l.getD (l.length - 1) nilT = y at eL hp
  obtain ⟨y1, y2, y3, y4, y5, y6, y7⟩ := y
  simp only at eL
  conv => arg 2; simp only [ir5]
  conv => arg 3; simp only [ir5, Go.Proofs.YtipnedhclbopdaaDoorEv.start, List.length, Nat.reduceAdd, Nat.reduceSub, List.reduceReplicate, List.append_eq, List.cons_append, List.nil_append]
  conv => arg 4; simp only [heapOf]
  try conv => arg 5; simp only [List.length, Nat.reduceAdd]
  try conv => arg 6; simp only [List.length, Nat.reduceAdd]
  refine EVgo9 (h7') (h9) (h14l) (h13l) trivial trivial trivial trivial trivial trivial trivial trivial ?_
  refine EVgo9 (And.intro (e1) ( And.intro (e2) (e3))) (h14r) (h13m) trivial trivial trivial trivial trivial trivial trivial trivial trivial ?_
  refine EVgo9 (And.intro (h0') ( And.intro (hw1) ( And.intro (hll) (eL)))) trivial trivial trivial trivial trivial trivial trivial trivial trivial trivial trivial ?_
  have hsplit : l.take (l.length - 1) ++ l.drop (l.length - 1) = l := List.take_append_drop _ _
  refine WC.loop (T' := _) (H' := _) (n' := _) rfl ((?_ : ∀ (r p : List Ot), p ++ r = l.take (l.length - 1) → (∀ x ∈ p, behind (y1, y2, y3, y4, y5, y6, y7) x) →
    WC cf _ (mkT 99 [(0, .sl l.length false (flat encT l)), (1, .int .i64 n), (7, .bool true), (10, .ptr 0 0), (11, .int .i64 (p.length : Nat))]) [(0, .box [.int .i64 y1, .int .i64 y2, .int .i64 y3, .int .i64 y4, .bool y5, .int .i64 y6, .int .i64 y7])] 0 1 _) (l.take (l.length - 1)) [] rfl (fun x hx => by cases hx))
  intro r
  induction r with
  | nil =>
    intro p hp2 hb
    rw [List.append_nil] at hp2
    have hlp : p.length = l.length - 1 := by rw [hp2, ht1]
    rw [hp (fun x hx => hb x (by rw [hp2]; exact hx))] at h13t
    rw [hlp]
    have hni : ¬ ((l.length - 1 : Nat) : Int) < ((l.length - 1 : Nat) : Int) := by omega
    have hle : ((l.length - 1 : Nat) : Int) ≤ (l.length : Int) := by omega
    conv => arg 3; simp only [mkT, putT, List.reduceReplicate, List.set]
    refine EVgo9 (And.intro (hw1) (hni)) trivial trivial trivial trivial trivial trivial trivial trivial trivial trivial trivial ?_
    refine EVgo9 (And.intro (hw1) ( And.intro (hle) (ht2))) (h14t) (h13t) trivial trivial trivial trivial trivial trivial trivial trivial trivial ?_
    exact EVret trivial
  | cons x r ih =>
    intro p hp2 hb
    obtain ⟨a, b, c, e, f, g, h⟩ := x
    have hlen : l.length - 1 = p.length + (r.length + 1) := by rw [← ht1, ← hp2]; simp
    have hlt1 : (p.length : Int) < ((l.length - 1 : Nat) : Int) := by omega
    have hlt : (p.length : Int) < (l.length : Int) := by omega
    have hw : IntKind.i64.wrap ((p.length : Int) + 1) = ((p.length + 1 : Nat) : Int) := by rw [i64_in _ (by omega)]; simp
    have hpl : p ++ (a, b, c, e, f, g, h) :: (r ++ l.drop (l.length - 1)) = l := by
      rw [← List.cons_append, ← List.append_assoc, hp2]; exact hsplit
    have eK := mid_T hpl
    by_cases c1 : y6 ≤ h
    · conv => arg 3; simp only [mkT, putT, List.reduceReplicate, List.set]
      refine EVgo9 (And.intro (hw1) ( And.intro (hlt1) ( And.intro (hlt) ( And.intro (eK) (c1))))) trivial trivial trivial trivial trivial trivial trivial trivial trivial trivial trivial ?_
      exact EVret trivial
    by_cases c2 : h < 0
    · conv => arg 3; simp only [mkT, putT, List.reduceReplicate, List.set]
      refine EVgo9 (And.intro (hw1) ( And.intro (hlt1) ( And.intro (hlt) ( And.intro (eK) ( And.intro (c1) (c2)))))) trivial trivial trivial trivial trivial trivial trivial trivial trivial trivial trivial ?_
      exact EVret trivial
    by_cases c3 : 0 ≤ y7
    · by_cases c4 : y7 < g
      · conv => arg 3; simp only [mkT, putT, List.reduceReplicate, List.set]
        refine EVgo9 (And.intro (hw1) ( And.intro (hlt1) ( And.intro (hlt) ( And.intro (eK) ( And.intro (c1) ( And.intro (c2) ( And.intro (c3) (c4)))))))) trivial trivial trivial trivial trivial trivial trivial trivial trivial trivial trivial ?_
        exact EVret trivial
      · have hih := ih (p ++ [(a, b, c, e, f, g, h)]) (by rw [List.append_assoc]; exact hp2) (fun x hx => by
          rcases List.mem_append.1 hx with q | q
          · exact hb x q
          · rw [List.mem_singleton.1 q]
            refine ⟨?_, ?_, fun q => c4 q.2⟩
            · show h < y6; omega
            · show 0 ≤ h; omega)
        rw [snoc_len] at hih
        conv => arg 3; simp only [mkT, putT, List.reduceReplicate, List.set]
        refine EVgo9 (And.intro (hw1) ( And.intro (hlt1) ( And.intro (hlt) ( And.intro (eK) ( And.intro (c1) ( And.intro (c2) ( And.intro (c3) ( And.intro (c4) (hw))))))))) trivial trivial trivial trivial trivial trivial trivial trivial trivial trivial trivial ?_
        exact WC.loop rfl hih
    · have hih := ih (p ++ [(a, b, c, e, f, g, h)]) (by rw [List.append_assoc]; exact hp2) (fun x hx => by
        rcases List.mem_append.1 hx with q | q
        · exact hb x q
        · rw [List.mem_singleton.1 q]
          refine ⟨?_, ?_, fun q => c3 q.1⟩
          · show h < y6; omega
          · show 0 ≤ h; omega)
      rw [snoc_len] at hih
      conv => arg 3; simp only [mkT, putT, List.reduceReplicate, List.set]
      refine EVgo9 (And.intro (hw1) ( And.intro (hlt1) ( And.intro (hlt) ( And.intro (eK) ( And.intro (c1) ( And.intro (c2) ( And.intro (c3) (hw)))))))) trivial trivial trivial trivial trivial trivial trivial trivial trivial trivial trivial ?_
      exact WC.loop rfl hih
end
end Go.Proofs.YtipnedhclbopdaaDoorR
