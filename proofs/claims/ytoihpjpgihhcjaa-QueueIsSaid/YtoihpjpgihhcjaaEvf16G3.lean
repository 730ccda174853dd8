/- QueueIs. -/
import Derived.Test.YtoihpjpgihhcjaaEvf16G2
open Go Go.Proofs.YtoihpjpgihhcjaaEv Go.Proofs.YtoihpjpgihhcjaaR Go.IntWalk Go.Proofs
set_option maxRecDepth 20000
set_option maxHeartbeats 16000000
set_option linter.unusedVariables false
set_option linter.unusedSimpArgs false
namespace Go.Proofs.YtoihpjpgihhcjaaR
theorem putQ_len (q : Qu) (id prio : Int) : (putQ q id prio).1.2.length ≤ 9 := by
  have hf := (saneQ_fit q).len
  unfold putQ
  split
  · simp only; rw [insX_len]; omega
  · simp only; omega
theorem nthQ_len (q : Qu) (n : Int) : (nthQ q n).1.2.length ≤ 8 := by
  have hf := (saneQ_fit q).len
  unfold nthQ
  split
  · exact hf
  · exact Nat.le_trans (delK_sub _ _).length_le hf
section
variable {cf : CF} (hcf : cf = ev env)
include hcf
theorem s6 (q : Qu) (id prio : Int) : Sp cf 6 [encQ q, .int .i64 id, .int .i64 prio] (.bool true) := by
  have h8 := s8 hcf
  refine sp_of hcf env6 ?_
  by_cases hl : q.2.length ≤ 30
  rotate_left
  · obtain ⟨nx, l⟩ := q
    have hl' : (l.length : Int) > 30 := by simp only at hl; omega
    simp only [encQ, slX]
    conv => arg 2; simp only [ir6]
    conv => arg 3; simp only [ir6, Go.Proofs.YtoihpjpgihhcjaaEv.start, List.length, Nat.reduceAdd, Nat.reduceSub, List.reduceReplicate, List.append_eq, List.cons_append, List.nil_append]
    conv => arg 4; simp only [heapOf]
    try conv => arg 5; simp only [List.length, Nat.reduceAdd]
    try conv => arg 6; simp only [List.length, Nat.reduceAdd]
    refine EVgo9 (hl') (h8) trivial trivial trivial trivial trivial trivial trivial trivial trivial trivial ?_
    exact EVret trivial
  have hl' : ¬ (q.2.length : Int) > 30 := by omega
  have h10 := s10 hcf q (by omega)
  have h13 := s13 hcf q id prio (by omega)
  have h18 := s18 hcf q id prio (by omega)
  have h17 := s17 hcf q prio (by omega)
  have h19 := s19 hcf q prio (by omega)
  have h11 := s11 hcf q (by omega)
  have h20 := s20 hcf q (by omega)
  have h15 := s15 hcf q id (by omega)
  have h21 := s21 hcf q id (by omega)
  have h14 := s14 hcf q (by omega)
  have h23 := s23 hcf q (by omega)
  have h9 := s9 hcf q (by omega)
  have h24 := s24 hcf q (by omega)
  have lA := putQ_len q id prio
  have lC := nthQ_len q prio
  have lE := nthQ_len q 0
  have lI := dropQ_len q id
  have lS := (saneQ_fit q).len
  generalize putQ q id prio = A at *
  generalize nthQ q prio = C at *
  generalize nthQ q 0 = E at *
  generalize dropQ q id = I at *
  generalize saneQ q = S at *
  generalize saneB q.1 q.2 = sb at *
  obtain ⟨A, ab⟩ := A
  obtain ⟨C, cn, cb⟩ := C
  obtain ⟨E, en, eb⟩ := E
  obtain ⟨I, ib⟩ := I
  simp only at lA lC lE lI
  have h12a := s12 hcf A (by omega)
  have h22a := s22 hcf A (by omega)
  have h12c := s12 hcf C (by omega)
  have h22c := s22 hcf C (by omega)
  have h12e := s12 hcf E (by omega)
  have h22e := s22 hcf E (by omega)
  have h12i := s12 hcf I (by omega)
  have h22i := s22 hcf I (by omega)
  have h16 := s16 hcf S.2 (by omega)
  have q1 : (ab == ab) = true := beq_self_eq_true _
  have q2 : (cb == cb) = true := beq_self_eq_true _
  have q3 : (eb == eb) = true := beq_self_eq_true _
  have q4 : (ib == ib) = true := beq_self_eq_true _
  have q5 : (sb == sb) = true := beq_self_eq_true _
  have q6 : (cn != cn) = false := bne_self_eq_false _
  have q7 : (en != en) = false := bne_self_eq_false _
  obtain ⟨nx, l⟩ := q
  obtain ⟨A1, A2⟩ := A
  obtain ⟨C1, C2⟩ := C
  obtain ⟨E1, E2⟩ := E
  obtain ⟨I1, I2⟩ := I
  obtain ⟨S1, S2⟩ := S
  simp only [encB, encN, encQ, slX] at *
  conv => arg 2; simp only [ir6]
  conv => arg 3; simp only [ir6, Go.Proofs.YtoihpjpgihhcjaaEv.start, List.length, Nat.reduceAdd, Nat.reduceSub, List.reduceReplicate, List.append_eq, List.cons_append, List.nil_append]
  conv => arg 4; simp only [heapOf]
  try conv => arg 5; simp only [List.length, Nat.reduceAdd]
  try conv => arg 6; simp only [List.length, Nat.reduceAdd]
  refine EVgo9 (hl') (h8) (h10) (h13) (h18) (h17) (h19) (h11) (h20) (h15) trivial trivial ?_
  refine EVgo9 (And.intro (q1) ( And.intro (q2) ( And.intro (q3) ( And.intro (q4) ( And.intro (q6) (q7)))))) (h21) (h12a) (h22a) (h12c) (h22c) (h12e) (h22e) (h12i) (h22i) trivial trivial ?_
  refine EVgo9 (And.intro (q1) ( And.intro (q2) ( And.intro (q3) ( And.intro (q4) (q5))))) (h10) (h14) (h23) (h16) (h9) (h24) (h12i) (h22i) trivial trivial trivial ?_
  exact EVret trivial
end
end Go.Proofs.YtoihpjpgihhcjaaR
