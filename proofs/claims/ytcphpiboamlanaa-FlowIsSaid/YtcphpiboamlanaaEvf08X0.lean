/- Evf08X0: a part of the proof. -/
import Derived.Test.YtcphpiboamlanaaEvf08T
import Derived.Test.YtcphpiboamlanaaEvf08R
open Go Go.Proofs.YtcphpiboamlanaaEv Go.Proofs.YtcphpiboamlanaaR Go.IntWalk
set_option maxRecDepth 20000
set_option maxHeartbeats 16000000
set_option linter.unusedVariables false
set_option linter.unusedSimpArgs false
namespace Go.Proofs.YtcphpiboamlanaaR
theorem few_of {b : Bd} (h : fewB b = true) : b.c.length ≤ 200 ∧ b.m.length ≤ 50 ∧ b.o.length ≤ 50 := by
  unfold fewB at h
  simpa using h
theorem few_few {b : Bd} (h : fewB b = true) : Few b := by
  have := few_of h
  exact ⟨by omega, by omega, by omega⟩
theorem ownB_le (b : Bd) : (ownB b).c.length ≤ b.c.length ∧ (ownB b).m.length ≤ b.m.length ∧ (ownB b).o.length ≤ b.o.length := by
  unfold ownB
  split
  · exact ⟨Nat.le_refl _, Nat.le_refl _, Nat.le_refl _⟩
  · exact ⟨Nat.zero_le _, Nat.zero_le _, Nat.zero_le _⟩
theorem few_emit {b : Bd} {l : List Pr} (hb : b.m.length ≤ 1000 ∧ b.o.length ≤ 1000) : Few (emitB b l).1 := by
  have h := ownB_le b
  have hc := (ok_ownB b).c
  unfold emitB
  split
  · next q => exact ⟨by show ((ownB b).c ++ l).length ≤ _; rw [List.length_append]; omega, by show (ownB b).m.length ≤ _; omega, by show (ownB b).o.length ≤ _; omega⟩
  · exact ⟨by show (ownB b).c.length ≤ _; omega, by show (ownB b).m.length ≤ _; omega, by show (ownB b).o.length ≤ _; omega⟩
theorem wordB_cases (b : Bd) (s : ByteArray) : wordB b s = (ownB b, false, 0) ∨ (∃ k, k < 13 ∧ wordK s = ((k : Nat) : Int) ∧ (wordF k (ownB b)).1 = 0 ∧ wordB b s = ((wordF k (ownB b)).2, true, 0) ∧ Step (ownB b) (wordF k (ownB b)).2) ∨ (∃ k, k < 13 ∧ wordK s = ((k : Nat) : Int) ∧ ((wordF k (ownB b)).1 = -8 ∨ (wordF k (ownB b)).1 = -22) ∧ wordB b s = (ownB b, true, (wordF k (ownB b)).1)) := by
  rcases idxS_lt (upL s.toList) theWords 0 with h | ⟨k, hk, h⟩
  · exact .inl (if_pos h)
  · have h' : wordK s = ((k : Nat) : Int) := by rw [Nat.zero_add] at h; exact h
    have e : wordB b s = if (wordF k (ownB b)).1 = 0 then ((wordF k (ownB b)).2, true, 0) else (ownB b, true, (wordF k (ownB b)).1) := by
      unfold wordB
      rw [if_neg (by omega), h', Int.toNat_natCast]
    refine .inr ?_
    have hk' : k < 13 := hk
    rcases lead_k hk' (ownB b) with q | q
    · exact .inl ⟨k, hk', h', q, by rw [e, if_pos q], step_word hk' (ok_ownB b) q⟩
    · exact .inr ⟨k, hk', h', q.1, by rw [e, if_neg (by omega)]⟩
theorem few_word {b : Bd} (s : ByteArray) (hb : b.m.length ≤ 1000 ∧ b.o.length ≤ 1000) : Few (wordB b s).1 := by
  have h := ownB_le b
  have hc := (ok_ownB b).c
  rcases wordB_cases b s with e | ⟨k, hk, hw, h0, e, st⟩ | ⟨k, hk, hw, h0, e⟩
  · rw [e]
    exact ⟨by show (ownB b).c.length ≤ _; omega, by show (ownB b).m.length ≤ _; omega, by show (ownB b).o.length ≤ _; omega⟩
  · rw [e]
    have h1 := st.m1
    have h2 := st.o1
    have h3 := st.ok.c
    exact ⟨by show (wordF k (ownB b)).2.c.length ≤ _; omega, by show (wordF k (ownB b)).2.m.length ≤ _; omega, by show (wordF k (ownB b)).2.o.length ≤ _; omega⟩
  · rw [e]
    exact ⟨by show (ownB b).c.length ≤ _; omega, by show (ownB b).m.length ≤ _; omega, by show (ownB b).o.length ≤ _; omega⟩
theorem end_len (b : Bd) : (endB b).1.length ≤ 1000000 := by
  have hc := (ok_ownB b).c
  unfold endB
  (repeat' split)
  · show ((ownB b).c ++ [_]).length ≤ _
    rw [List.length_append, List.length_singleton]; omega
  · exact Nat.zero_le _
  · exact Nat.zero_le _
section
variable {cf : CF} (hcf : cf = ev env)
include hcf
theorem s9 : Sp cf 9 [] (.bool true) := by
  have w1 : wordB emp ⟨[105, 102].toArray⟩ = (⟨[(2, 0)], [(1, 0)], []⟩, true, 0) := wordB_take (k := 0) (by decide) (wk _) ok_emp rfl
  have o1 : Ok ⟨[(2, 0)], [(1, 0)], []⟩ := (step_word (k := 0) (by decide) ok_emp rfl).ok
  have w2 : wordB ⟨[(2, 0)], [(1, 0)], []⟩ ⟨[116, 104, 101, 110].toArray⟩ = (⟨[(2, 1)], [], []⟩, true, 0) := wordB_take (k := 2) (by decide) (wk _) o1 rfl
  have o2 : Ok ⟨[(2, 1)], [], []⟩ := (step_word (k := 2) (by decide) o1 rfl).ok
  have w3 : endB ⟨[(2, 1)], [], []⟩ = ([(2, 1), (4, 0)], 0) := by
    unfold endB
    rw [ownB_ok o2]
    rfl
  have w4 : wholeB [(2, 1), (4, 0)] = true := by decide
  have f1 : Few emp := ⟨by decide, by decide, by decide⟩
  have h1 := s10 hcf emp ⟨[105, 102].toArray⟩ f1 (by decide)
  have h2 := s10 hcf ⟨[(2, 0)], [(1, 0)], []⟩ ⟨[116, 104, 101, 110].toArray⟩ ⟨by decide, by decide, by decide⟩ (by decide)
  have h3 := s11 hcf ⟨[(2, 1)], [], []⟩ ⟨by decide, by decide, by decide⟩
  have h4 := s12 hcf [(2, 1), (4, 0)] (by decide)
  rw [w1] at h1
  rw [w2] at h2
  rw [w3] at h3
  rw [w4] at h4
  refine sp_of hcf env9 ?_
  simp only [encWord, encEnd, bE, slP, emp, List.length, flat, encP, List.map, List.flatten, List.flatMap, List.append, Nat.reduceAdd] at h1 h2 h3 h4 ⊢
  conv => arg 2; simp only [ir9]
  conv => arg 3; simp only [ir9, Go.Proofs.YtcphpiboamlanaaEv.start, List.length, Nat.reduceAdd, Nat.reduceSub, List.reduceReplicate, List.append_eq, List.cons_append, List.nil_append]
  conv => arg 4; simp only [heapOf]
  try conv => arg 5; simp only [List.length, Nat.reduceAdd]
  try conv => arg 6; simp only [List.length, Nat.reduceAdd]
  refine EVgo9 trivial (h1) (h2) (h3) (h4) trivial trivial trivial trivial trivial trivial trivial ?_
  exact EVret trivial
end
end Go.Proofs.YtcphpiboamlanaaR
