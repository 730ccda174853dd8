/- Evs13H: a part of the proof. -/
import Derived.Test.YtklanpanmndakaaEvs13F
import Derived.Test.YtklanpanmndakaaEvs13G
open Go Go.Proofs.YtklanpanmndakaaEv Go.Proofs.YtklanpanmndakaaR Go.IntWalk
set_option maxRecDepth 20000
set_option maxHeartbeats 8000000
set_option linter.unusedVariables false
set_option linter.unusedSimpArgs false
namespace Go.Proofs.YtklanpanmndakaaR
section
variable {cf : CF} (hcf : cf = ev env)
include hcf
theorem s4 (m : Tk) (to x y : Int) (hto : -9223372036854775808 ≤ to ∧ to ≤ 9223372036854775807) : cf 4 [tk false false m, .int .i64 to, .int .i64 x, .int .i64 y] [] = some (.bool true, []) := by
  rcases (show m.r.length ≤ 62 ∨ m.r.length = 63 ∨ m.r.length = 64 ∨ 64 < m.r.length by omega) with h | h | h | h
  · exact s4a hcf m to x y hto h
  · exact s4b hcf m to x y hto h
  · exact s4c hcf m to x y hto h
  · have h11 := s11 hcf false false m
    have h13 := s13 hcf false false m
    have h12 := s12 hcf false false m
    have hs : saneB m = false := by
      rw [Bool.eq_false_iff]
      intro q
      have := ((sane_iff m).1 q).r
      omega
    rw [hs] at h12
    refine ev_ofC' hcf env4 ?_
    cases hf : (decide ((m.d.length : Int) ≤ 100) && decide ((m.r.length : Int) ≤ 100)) with
    | false =>
      rw [hf] at h11
      simp only [tk] at h11 ⊢
      conv => arg 2; simp only [ir4]
      conv => arg 3; simp only [ir4, Go.Proofs.YtklanpanmndakaaEv.start, List.length, Nat.reduceAdd, Nat.reduceSub, List.reduceReplicate, List.append_eq, List.cons_append, List.nil_append]
      conv => arg 4; simp only [heapOf]
      try conv => arg 5; simp only [List.length, Nat.reduceAdd]
      try conv => arg 6; simp only [List.length, Nat.reduceAdd]
      refine EVgo2 trivial (s10 hcf) (h11) trivial trivial ?_
      exact WQ.ret rfl
    | true =>
      rw [hf] at h11
      simp only [tk] at h11 h12 h13 ⊢
      conv => arg 2; simp only [ir4]
      conv => arg 3; simp only [ir4, Go.Proofs.YtklanpanmndakaaEv.start, List.length, Nat.reduceAdd, Nat.reduceSub, List.reduceReplicate, List.append_eq, List.cons_append, List.nil_append]
      conv => arg 4; simp only [heapOf]
      try conv => arg 5; simp only [List.length, Nat.reduceAdd]
      try conv => arg 6; simp only [List.length, Nat.reduceAdd]
      refine EVgo9 trivial (s10 hcf) (h11) (h13) (h12) trivial trivial trivial trivial trivial trivial trivial ?_
      exact WQ.ret rfl
end
end Go.Proofs.YtklanpanmndakaaR
