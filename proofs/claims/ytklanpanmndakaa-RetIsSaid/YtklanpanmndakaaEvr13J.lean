/- Evr13J: a part of the proof. -/
import Derived.Test.YtklanpanmndakaaEvr13I
open Go Go.Proofs.YtklanpanmndakaaEv Go.Proofs.YtklanpanmndakaaR Go.IntWalk
set_option maxRecDepth 20000
set_option maxHeartbeats 16000000
set_option linter.unusedVariables false
set_option linter.unusedSimpArgs false
namespace Go.Proofs.YtklanpanmndakaaR
section
variable {cf : CF} (hcf : cf = ev env)
include hcf
theorem s36 (m : Tk) (a : Int) (ha : a ≤ 9223372036854775807) (hv : ∀ x ∈ (saneT m).r, x ≤ maxI) : Sp cf 36 [tkE m, .int .i64 a] (.bool true) := by
  have hs := sn_sane m
  have h13 := s13 hcf m
  have h25 := s25 hcf m a
  have h57 := s57 hcf m a
  have h21 := s21 hcf m a
  have h58 := s58 hcf m a
  have h22 := s22 hcf m
  have h59 := s59 hcf m
  have h29 := s29 hcf m a ha
  have h60 := s60 hcf m a ha
  have h26 := s26 hcf m a hv
  have h61 := s61 hcf m a hv
  have b1 := bd_lay hs [a]
  have b2 := bd_back hs
  have b3 := bd_ctch hs a
  have b4 := bd_throw hs a
  generalize saneT m = t at *
  have t1 := s19 hcf (lay t [a]).1
  have t2 := s19 hcf (back t).1
  have t3 := s19 hcf (ctch t a).1
  have t4 := s19 hcf (throw t a).1
  have c1 := s18 hcf _ b1
  have c2 := s18 hcf _ b2
  have c3 := s18 hcf _ b3
  have c4 := s18 hcf _ b4
  generalize lay t [a] = L at *
  generalize back t = B at *
  generalize ctch t a = C at *
  generalize throw t a = U at *
  generalize index t a = X at *
  obtain ⟨L1, L2⟩ := L
  obtain ⟨B1, B2, B3⟩ := B
  obtain ⟨C1, C2⟩ := C
  obtain ⟨U1, U2⟩ := U
  obtain ⟨X1, X2⟩ := X
  simp only at *
  have q1 : ∀ x : Int, (x != x) = false := fun x => by simp
  have q2 : ∀ x : Int, (x == x) = true := fun x => by simp
  have q3 : ∀ x : Bool, (x == x) = true := fun x => by simp
  refine sp_of hcf env36 ?_
  conv => arg 2; simp only [ir36]
  conv => arg 3; simp only [ir36, Go.Proofs.YtklanpanmndakaaEv.start, List.length, Nat.reduceAdd, Nat.reduceSub, List.reduceReplicate, List.append_eq, List.cons_append, List.nil_append]
  conv => arg 4; simp only [heapOf]
  try conv => arg 5; simp only [List.length, Nat.reduceAdd]
  try conv => arg 6; simp only [List.length, Nat.reduceAdd]
  refine EVgo9 (And.intro (@tkE.eq_1) ( And.intro (q1) ( And.intro (q2) (q3)))) (h13) (h25) (h57) (h21) (h58) (t1) (c1) (h22) (h59) trivial trivial ?_
  refine EVgo9 (And.intro (@tkE.eq_1) ( And.intro (q1) ( And.intro (q2) (q3)))) (h22) (h59) (t2) (c2) (h29) (h60) (h26) (h61) (t3) trivial trivial ?_
  refine EVgo9 (And.intro (@tkE.eq_1) ( And.intro (q1) ( And.intro (q2) (q3)))) (t3) (c3) (t4) (c4) trivial trivial trivial trivial trivial trivial trivial ?_
  exact EVret trivial
theorem s9 (m : Tk) (a b : Int) (ha : -9223372036854775808 ≤ a ∧ a ≤ 9223372036854775807) (hv : ∀ x ∈ (saneT m).r, x ≤ maxI) : Sp cf 9 [tkE m, .int .i64 a, .int .i64 b] (.bool true) := by
  have hs := sn_sane m
  have h10 := s10 hcf
  have h11 := s11 hcf m
  cases hf : few m with
  | false =>
    refine sp_of hcf env9 ?_
    conv => arg 2; simp only [ir9]
    conv => arg 3; simp only [ir9, Go.Proofs.YtklanpanmndakaaEv.start, List.length, Nat.reduceAdd, Nat.reduceSub, List.reduceReplicate, List.append_eq, List.cons_append, List.nil_append]
    conv => arg 4; simp only [heapOf]
    try conv => arg 5; simp only [List.length, Nat.reduceAdd]
    try conv => arg 6; simp only [List.length, Nat.reduceAdd]
    refine EVgo2 (hf) (h10) (h11) trivial trivial ?_
    exact EVret trivial
  | true =>
    have h36 := s36 hcf m a ha.2 hv
    have h13 := s13 hcf m
    have h14 := s14 hcf m a ha.2
    have h30 := s30 hcf m a ha.2
    have h12 := s12 hcf m
    have h31 := s31 hcf m
    have h17 := s17 hcf m hv
    have h32 := s32 hcf m hv
    have h23 := s23 hcf m a b
    have h33 := s33 hcf m a b
    have h28 := s28 hcf m a ha
    have h34 := s34 hcf m a ha
    have h24 := s24 hcf m
    have h35 := s35 hcf m
    have b1 := bd_enter hs a
    have b2 := bd_leave hs
    have b3 := bd_lay hs [a, b]
    have b4 := bd_next hs a
    have b5 := bd_tak hs 2
    generalize saneT m = t at *
    have t1 := s19 hcf (enter t a).1
    have t2 := s19 hcf (leave t).1
    have t3 := s19 hcf (lay t [a, b]).1
    have t4 := s19 hcf (next t a).1
    have t5 := s19 hcf (tak t 2).1
    have c1 := s18 hcf _ b1
    have c2 := s18 hcf _ b2
    have c3 := s18 hcf _ b3
    have c4 := s18 hcf _ b4
    have c5 := s18 hcf _ b5
    generalize enter t a = E at *
    generalize leave t = V at *
    generalize lay t [a, b] = L at *
    generalize next t a = N at *
    generalize tak t 2 = D at *
    obtain ⟨E1, E2⟩ := E
    obtain ⟨V1, V2, V3⟩ := V
    obtain ⟨L1, L2⟩ := L
    obtain ⟨N1, N2, N3⟩ := N
    obtain ⟨D1, D2, D3⟩ := D
    simp only at *
    generalize saneB m = sb at *
    have q1 : ∀ x : Int, (x != x) = false := fun x => by simp
    have q2 : ∀ x : Int, (x == x) = true := fun x => by simp
    have q3 : ∀ x : Bool, (x == x) = true := fun x => by simp
    refine sp_of hcf env9 ?_
    conv => arg 2; simp only [ir9]
    conv => arg 3; simp only [ir9, Go.Proofs.YtklanpanmndakaaEv.start, List.length, Nat.reduceAdd, Nat.reduceSub, List.reduceReplicate, List.append_eq, List.cons_append, List.nil_append]
    conv => arg 4; simp only [heapOf]
    try conv => arg 5; simp only [List.length, Nat.reduceAdd]
    try conv => arg 6; simp only [List.length, Nat.reduceAdd]
    refine EVgo9 (And.intro (hf) ( And.intro (@tkE.eq_1) ( And.intro (q1) ( And.intro (q2) (q3))))) (h10) (h11) (h13) (h14) (h30) (t1) (c1) (h12) (h31) trivial trivial ?_
    refine EVgo9 (And.intro (@tkE.eq_1) ( And.intro (q1) ( And.intro (q2) (q3)))) (h17) (h32) (t2) (c2) (h23) (h33) (t3) (c3) (h28) trivial trivial ?_
    refine EVgo9 (And.intro (@tkE.eq_1) ( And.intro (q1) ( And.intro (q2) (q3)))) (h28) (h34) (t4) (c4) (h24) (h35) (t5) (c5) (h36) trivial trivial ?_
    exact EVret trivial
end
end Go.Proofs.YtklanpanmndakaaR
