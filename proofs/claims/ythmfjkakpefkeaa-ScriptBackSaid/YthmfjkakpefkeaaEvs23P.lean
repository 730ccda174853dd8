/- Evs23P: a part of the proof. -/
import Derived.Test.YthmfjkakpefkeaaEvs23H
import Derived.Test.YthmfjkakpefkeaaEvs23M
import Derived.Test.YthmfjkakpefkeaaEvs23N
open Go Go.Proofs.YthmfjkakpefkeaaEv Go.Proofs.YthmfjkakpefkeaaR Go.IntWalk
set_option maxRecDepth 20000
set_option maxHeartbeats 8000000
set_option linter.unusedVariables false
set_option linter.unusedSimpArgs false
namespace Go.Proofs.YthmfjkakpefkeaaR
theorem slice_iff (n : Int) (h : -9223372036854775808 ≤ n ∧ n ≤ 9223372036854775807) : (0 ≤ IntKind.i64.wrap (n - 1) ∧ IntKind.i64.wrap (n - 1) ≤ 255) ↔ (1 ≤ n ∧ n ≤ 256) := by
  rw [IntKind.wrap_i64]
  omega
theorem putB_len (m : Scr) : 5 ≤ (putB m).length := by
  simp only [putB, List.length_cons, List.length_append]
  omega
theorem few_len {m : Scr} (h : few m = true) : m.objs.length ≤ 10 ∧ m.tasks.length ≤ 10 ∧ m.choices.length ≤ 300 := by
  simp only [few, Bool.and_eq_true, decide_eq_true_eq] at h
  obtain ⟨_, ⟨⟨_, h1⟩, h2⟩, h3⟩ := h
  omega
section
variable {cf : CF} (hcf : cf = ev env)
include hcf
omit hcf in
theorem b2sO {T : List PV} {H : Heap} {new : Nat} {x : X} {id : Nat} {l : List UInt8} (hx : valT T x = .own id 1 0 l.length) (hc : hget H id = some (.row (flat encB l))) : EK cf (.b2s x) new T H (.str ⟨l.toArray⟩) [] := by
  have hq : (List.drop 0 (flat encB l)).take (l.length * 1) = flat encB l := by rw [List.drop_zero, List.take_of_length_le (by rw [lenB]; omega)]
  refine k_b2s (n := l.length) (cs := flat encB l) hx (by intro s h; cases h) ?_ (lenB l) (bytesOf_flat l)
  simp only [srcOf, hc, hq]
theorem s4 (m : Scr) (hn : -9223372036854775808 ≤ m.slice ∧ m.slice ≤ 9223372036854775807) (hk : m.tasks.length < 9223372036854775808) : cf 4 [inS false false false m] [] = some (.bool true, []) := by
  have h7 := s7 hcf false false false m hk
  have hw0 := slice_iff m.slice hn
  refine ev_ofC' hcf env4 ?_
  simp only [inS] at h7 ⊢
  conv => arg 2; simp only [ir4]
  conv => arg 3; simp only [ir4, Go.Proofs.YthmfjkakpefkeaaEv.start, List.length, Nat.reduceAdd, Nat.reduceSub, List.reduceReplicate, List.append_eq, List.cons_append, List.nil_append]
  conv => arg 4; simp only [heapOf]
  try conv => arg 5; simp only [List.length, Nat.reduceAdd]
  try conv => arg 6; simp only [List.length, Nat.reduceAdd]
  cases hf : few m with
  | false =>
    rw [hf] at h7
    refine EVgo2 trivial (s6 hcf) (h7) trivial trivial ?_
    exact WQ.ret rfl
  | true =>
    rw [hf] at h7
    have hl := few_len hf
    have h9 := s9 hcf false false false m (by omega) (by omega) (by omega)
    have h8 := s8 hcf false false false m
    have hi := own_in m
    simp only [inS] at h9
    cases hs : sane m with
    | false =>
      rw [hs] at h8
      have h11 := s11n hcf false false false m hs
      rw [own_in] at h8 h11
      refine EVgo9 trivial (s6 hcf) (h7) (h9) (h11) (h8) trivial trivial trivial trivial trivial trivial ?_
      exact WQ.ret rfl
    | true =>
      rw [hs] at h8
      have hS := (sane_iff m).1 hs
      have hsl := hw0.1 hS.slice
      have h11 := s11 hcf false false false m hs
      have h15 := s15 hcf (putB m) false
      have hg := get_put m [] hs hsl
      have hS3 := hS.choices
      rw [List.append_nil, List.map_nil, List.append_nil, List.take_of_length_le (by omega)] at hg
      rw [hg] at h15
      have h14 := s14 hcf false false false m (by omega) (by omega) (by omega)
      have h13 := s13 hcf false false false false false false m (by omega) (by omega) (by omega)
      have hp5 := putB_len m
      have hpl : (4 : Int) < ((putB m).length : Int) := by omega
      rw [own_in] at h8 h11 h14
      have h13' : cf 13 [ownS m, inS false false false m] [] = some (.bool true, []) := by rw [← own_in]; exact h13
      rw [ownB_in] at h15
      simp only [inS] at h13'
      refine EVgo9 (hpl) (s6 hcf) (h7) (h9) (h11) (h8) (h15) (h14) (h13') trivial trivial trivial ?_
      exact WQ.ret rfl
theorem s3 (m : Scr) (l : List UInt8) (t : Bool) (hn : -9223372036854775808 ≤ m.slice ∧ m.slice ≤ 9223372036854775807) (hk : m.tasks.length < 9223372036854775808) : cf 3 [inS false false false m, .sl l.length t (flat encB l)] [] = some (.bool true, []) := by
  have h7 := s7 hcf false false false m hk
  have hw0 := slice_iff m.slice hn
  refine ev_ofC' hcf env3 ?_
  simp only [inS] at h7 ⊢
  conv => arg 2; simp only [ir3]
  conv => arg 3; simp only [ir3, Go.Proofs.YthmfjkakpefkeaaEv.start, List.length, Nat.reduceAdd, Nat.reduceSub, List.reduceReplicate, List.append_eq, List.cons_append, List.nil_append]
  conv => arg 4; simp only [heapOf]
  try conv => arg 5; simp only [List.length, Nat.reduceAdd]
  try conv => arg 6; simp only [List.length, Nat.reduceAdd]
  cases hf : few m with
  | false =>
    rw [hf] at h7
    refine EVgo2 trivial (s6 hcf) (h7) trivial trivial ?_
    exact WQ.ret rfl
  | true =>
    rw [hf] at h7
    by_cases hll : (l.length : Int) > 5000
    · refine EVgo2 (hll) (s6 hcf) (h7) trivial trivial ?_
      exact WQ.ret rfl
    have hl := few_len hf
    have h9 := s9 hcf false false false m (by omega) (by omega) (by omega)
    have h8 := s8 hcf false false false m
    have h10 := s10 hcf false false false m hw0
    have hG := get_sane l
    have hGS := (sane_iff _).1 hG
    have hG1 := hGS.objs
    have hG2 := hGS.tasks
    have hG3 := hGS.choices
    have h15 := s15 hcf l t
    have h16 := s16 hcf l t
    have h14 := s14 hcf false false false (get l) (by omega) (by omega) (by omega)
    have h13 := s13 hcf false false false false false false (get l) (by omega) (by omega) (by omega)
    rw [own_in] at h8 h14 h13
    simp only [inS] at h9 h10
    cases hs : sane m with
    | false =>
      rw [hs] at h8 h10
      have h11 := s11n hcf false false false m hs
      have h12 := s12n hcf false false false m hs hw0
      rw [own_in] at h11
      simp only [inS] at h12
      refine EVgl9 (hll) (s6 hcf) (h7) (h9) (h8) (h10) (h11) (h12) trivial trivial (@b2sO cf) trivial ?_
      refine EVgl9 trivial (h15) (h14) (h16) (h13) trivial trivial trivial trivial trivial trivial trivial ?_
      exact WQ.ret rfl
    | true =>
      rw [hs] at h8 h10
      have h11 := s11 hcf false false false m hs
      have h12 := s12 hcf false false false m hs hw0
      rw [own_in] at h11
      simp only [inS] at h12
      refine EVgl9 (hll) (s6 hcf) (h7) (h9) (h8) (h10) (h11) (h12) trivial trivial (@b2sO cf) trivial ?_
      refine EVgl9 trivial (h15) (h14) (h16) (h13) trivial trivial trivial trivial trivial trivial trivial ?_
      exact WQ.ret rfl
end
end Go.Proofs.YthmfjkakpefkeaaR
