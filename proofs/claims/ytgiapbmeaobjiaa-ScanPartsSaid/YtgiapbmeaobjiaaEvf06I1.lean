/- Evf06I1: a part of the proof. -/
import Derived.Test.YtgiapbmeaobjiaaEvf06H1
open Go Go.Proofs.YtgiapbmeaobjiaaEv Go.Proofs.YtgiapbmeaobjiaaR Go.IntWalk
set_option maxRecDepth 20000
set_option maxHeartbeats 8000000
set_option linter.unusedVariables false
set_option linter.unusedSimpArgs false
namespace Go.Proofs.YtgiapbmeaobjiaaR
theorem upto_next (p : UInt8 → Bool) : ∀ l : Bs, l.drop (upto p l).length = [] ∨ ∃ b r, l.drop (upto p l).length = b :: r ∧ p b = true
  | [] => .inl rfl
  | b :: l => by
    cases hb : p b with
    | true =>
      have e : upto p (b :: l) = [] := upto_at (q := []) (fun c hc => absurd hc List.not_mem_nil) hb
      rw [e]
      exact .inr ⟨b, l, rfl, hb⟩
    | false =>
      have e : upto p (b :: l) = b :: upto p l := by unfold upto; rw [List.takeWhile_cons_of_pos (by simp [hb])]
      rw [e]
      exact upto_next p l
theorem upto_nil {p : UInt8 → Bool} {b : UInt8} {r : Bs} (h : p b = true) : upto p (b :: r) = [] := upto_at (q := []) (fun c hc => absurd hc List.not_mem_nil) h
/-- behind blanks there is a word, or the end -/
theorem skip_next (L : Bs) (i : Int) : L.drop (skipN L i) = [] ∨ ∃ b r, L.drop (skipN L i) = b :: r ∧ fullP b = true := by
  unfold skipN
  rw [← List.drop_drop]
  exact upto_next _ _
theorem skip_idem (L : Bs) (i : Int) : skipN L ((skipN L i : Nat) : Int) = skipN L i := by
  have h := skip_next L i
  have hs := skipN_le L i
  generalize skipN L i = a at *
  unfold skipN
  rw [inN_nat hs]
  rcases h with h | ⟨b, r, h, hb⟩
  · rw [h]; rfl
  · rw [h, upto_nil hb]; rfl
section
variable {cf : CF} (hcf : cf = ev env)
include hcf
theorem s9 : Sp cf 9 [] (.bool true) := by
  have h1 := s10 hcf [32, 97, 98, 32, 99] 0 (by decide)
  have h2 := s10 hcf [32, 97, 98, 32, 99] 4 (by decide)
  have h3 := s10 hcf [32, 97, 98, 32, 99] 5 (by decide)
  rw [show wordP [32, 97, 98, 32, 99] 0 = ([97, 98], 4) by decide] at h1
  rw [show wordP [32, 97, 98, 32, 99] 4 = ([99], 5) by decide] at h2
  rw [show wordP [32, 97, 98, 32, 99] 5 = ([], 5) by decide] at h3
  have h12 := s12 hcf ⟨[97].toArray⟩ (by decide)
  rw [show upL (⟨[97].toArray⟩ : ByteArray).toList = [65] by rw [toL]; decide] at h12
  have h11 := s11 hcf [] (by decide)
  rw [show linesL [] = [[]] by decide] at h11
  have q1 : ((⟨[97, 98].toArray⟩ : ByteArray).toList == (⟨#[97, 98]⟩ : ByteArray).toList) = true := (cmpB [97, 98] [97, 98]).trans (by decide)
  have q2 : ((⟨[99].toArray⟩ : ByteArray).toList == (⟨#[99]⟩ : ByteArray).toList) = true := (cmpB [99] [99]).trans (by decide)
  have q3 : ((⟨[].toArray⟩ : ByteArray).toList == (⟨#[]⟩ : ByteArray).toList) = true := (cmpB [] []).trans (by decide)
  have q4 : ((⟨[65].toArray⟩ : ByteArray).toList == (⟨#[65]⟩ : ByteArray).toList) = true := (cmpB [65] [65]).trans (by decide)
  refine sp_of hcf env9 ?_
  simp only [encC, srcE, sB, slS, List.length, Nat.reduceAdd, Int.cast_ofNat_Int] at h1 h2 h3 h11 ⊢
  conv => arg 2; simp only [ir9]
  conv => arg 3; simp only [ir9, Go.Proofs.YtgiapbmeaobjiaaEv.start, List.length, Nat.reduceAdd, Nat.reduceSub, List.reduceReplicate, List.append_eq, List.cons_append, List.nil_append]
  conv => arg 4; simp only [heapOf]
  try conv => arg 5; simp only [List.length, Nat.reduceAdd]
  try conv => arg 6; simp only [List.length, Nat.reduceAdd]
  refine EVgo9 (And.intro (q1) ( And.intro (q2) ( And.intro (q3) (q4)))) (h1) (h2) (h3) (h12) (h11) trivial trivial trivial trivial trivial trivial ?_
  exact EVret trivial
theorem s6 (L : Bs) (i d : Int) : Sp cf 6 [srcE L i, .int .i64 d] (.bool true) := by
  have h9 := s9 hcf
  refine sp_of hcf env6 ?_
  by_cases hl : L.length ≤ 1000
  · have hl' : ¬ (L.length : Int) > 1000 := by omega
    have h14 := s14 hcf L i
    have h10 := s10 hcf L i (by omega)
    have h15 := s15 hcf L i (by omega)
    have h16 := s16 hcf L i d (by omega)
    have h17 := s17 hcf L i d (by omega)
    have h18 := s18 hcf L i (by omega)
    have h19 := s19 hcf L i (by omega)
    have h13 := s13 hcf L i (by omega)
    have h20 := s20 hcf L i (by omega)
    have h12 := s12 hcf ⟨L.toArray⟩ (by rw [szB]; omega)
    have h21 := s21 hcf ⟨L.toArray⟩ (by rw [szB]; omega)
    have h11 := s11 hcf L (by omega)
    have h23 := s23 hcf L (by omega)
    have hll : (linesL L).length ≤ 1000000 := by
      have := pieces_len L.length ⟨L.toArray⟩
      rw [pieces_lines _ _ (Nat.le_refl _), List.length_map] at this
      omega
    have h22 := s22 hcf (linesL L) hll
    generalize wordP L i = x at *
    generalize parseP L i d = y at *
    generalize skipN L i = z at *
    generalize L.drop (inN L.length i) = u at *
    generalize linesL L = v at *
    have h14x := s14 hcf L (x.2 : Nat)
    have h14y := s14 hcf L (y.2 : Nat)
    have h14z := s14 hcf L (z : Nat)
    have e1 : ∀ a : ByteArray, (a.toList == a.toList) = true := fun a => beq_self_eq_true _
    have e2 : ∀ a : Int, (a == a) = true := fun a => beq_self_eq_true _
    simp only [encC, srcE, sB, slS] at h14 h10 h15 h16 h17 h18 h19 h13 h20 h11 h23 h22 h14x h14y h14z ⊢
    conv => arg 2; simp only [ir6]
    conv => arg 3; simp only [ir6, Go.Proofs.YtgiapbmeaobjiaaEv.start, List.length, Nat.reduceAdd, Nat.reduceSub, List.reduceReplicate, List.append_eq, List.cons_append, List.nil_append]
    conv => arg 4; simp only [heapOf]
    try conv => arg 5; simp only [List.length, Nat.reduceAdd]
    try conv => arg 6; simp only [List.length, Nat.reduceAdd]
    refine EVgo9 (And.intro (szB) (hl')) (h9) (h14) (h10) (h15) (h16) (h17) trivial trivial trivial trivial trivial ?_
    refine EVgo9 (And.intro (e1) (e2)) (h14x) (h14y) (h14) (h18) (h19) (h14z) (h13) (h20) trivial trivial trivial ?_
    refine EVgo9 (And.intro (e1) (e2)) (h14) (h13) (h20) (h12) (h21) (h11) (h23) (h22) trivial trivial trivial ?_
    exact EVret trivial
  · have hl' : (L.length : Int) > 1000 := by omega
    simp only [srcE, sB]
    conv => arg 2; simp only [ir6]
    conv => arg 3; simp only [ir6, Go.Proofs.YtgiapbmeaobjiaaEv.start, List.length, Nat.reduceAdd, Nat.reduceSub, List.reduceReplicate, List.append_eq, List.cons_append, List.nil_append]
    conv => arg 4; simp only [heapOf]
    try conv => arg 5; simp only [List.length, Nat.reduceAdd]
    try conv => arg 6; simp only [List.length, Nat.reduceAdd]
    refine EVgo9 (And.intro (szB) (hl')) (h9) trivial trivial trivial trivial trivial trivial trivial trivial trivial trivial ?_
    exact EVret trivial
theorem s8 (L : Bs) (i : Int) : Sp cf 8 [sB L, .int .i64 i] (.bool true) := by
  have h9 := s9 hcf
  refine sp_of hcf env8 ?_
  by_cases hl : L.length ≤ 500
  · have hl' : ¬ (L.length : Int) > 500 := by omega
    have hs := skipN_le L i
    have hn := skip_next L i
    have h18 := s18 hcf L i (by omega)
    have h18z := s18 hcf L (skipN L i : Nat) (by omega)
    rw [skip_idem] at h18z
    have h13 := s13 hcf L (skipN L i : Nat) (by omega)
    rw [inN_nat hs] at h13
    have h10 := s10 hcf L i (by omega)
    have h16 := s16 hcf L (skipN L i : Nat) 32 (by omega)
    unfold parseP at h16
    rw [if_pos rfl, inN_nat hs] at h16
    unfold wordP at h10
    generalize skipN L i = z at *
    generalize cutP emptyP L z = x at *
    have e1 : ∀ a : ByteArray, (a.toList == a.toList) = true := fun a => beq_self_eq_true _
    have e2 : ∀ a : Int, (a == a) = true := fun a => beq_self_eq_true _
    simp only [encC, srcE, sB] at h18 h18z h13 h10 h16 ⊢
    rcases hn with hn | ⟨b, r, hn, hb⟩
    · rw [hn] at h13
      have q3 : ((⟨[].toArray⟩ : ByteArray).toList == (⟨#[]⟩ : ByteArray).toList) = true := (cmpB [] []).trans (by decide)
      conv => arg 2; simp only [ir8]
      conv => arg 3; simp only [ir8, Go.Proofs.YtgiapbmeaobjiaaEv.start, List.length, Nat.reduceAdd, Nat.reduceSub, List.reduceReplicate, List.append_eq, List.cons_append, List.nil_append]
      conv => arg 4; simp only [heapOf]
      try conv => arg 5; simp only [List.length, Nat.reduceAdd]
      try conv => arg 6; simp only [List.length, Nat.reduceAdd]
      refine EVgo9 (And.intro (szB) ( And.intro (hl') (q3))) (h9) (h18) (h13) (h10) (h16) trivial trivial trivial trivial trivial trivial ?_
      refine EVgo9 (And.intro (e1) ( And.intro (e2) (q3))) (h18z) trivial trivial trivial trivial trivial trivial trivial trivial trivial trivial ?_
      exact EVret trivial
    · rw [hn] at h13
      have q3 : ((⟨(b :: r).toArray⟩ : ByteArray).toList == (⟨#[]⟩ : ByteArray).toList) = false := (cmpB (b :: r) []).trans (by simp)
      have hb' : (b.toNat : Int) > 32 := by unfold fullP at hb; have := of_decide_eq_true hb; omega
      have hi : ∀ h : 0 < (⟨(b :: r).toArray⟩ : ByteArray).size, (⟨(b :: r).toArray⟩ : ByteArray)[0]'h = b := fun _ => rfl
      conv => arg 2; simp only [ir8]
      conv => arg 3; simp only [ir8, Go.Proofs.YtgiapbmeaobjiaaEv.start, List.length, Nat.reduceAdd, Nat.reduceSub, List.reduceReplicate, List.append_eq, List.cons_append, List.nil_append]
      conv => arg 4; simp only [heapOf]
      try conv => arg 5; simp only [List.length, Nat.reduceAdd]
      try conv => arg 6; simp only [List.length, Nat.reduceAdd]
      refine EVgo9 (And.intro (szB) ( And.intro (hl') (q3))) (h9) (h18) (h13) (h10) (h16) trivial trivial trivial trivial trivial trivial ?_
      refine EVgo9 (And.intro (e1) ( And.intro (e2) ( And.intro (q3) ( And.intro (hi) (hb'))))) (h18z) trivial trivial trivial trivial trivial trivial trivial trivial trivial trivial ?_
      exact EVret trivial
  · have hl' : (L.length : Int) > 500 := by omega
    simp only [sB]
    conv => arg 2; simp only [ir8]
    conv => arg 3; simp only [ir8, Go.Proofs.YtgiapbmeaobjiaaEv.start, List.length, Nat.reduceAdd, Nat.reduceSub, List.reduceReplicate, List.append_eq, List.cons_append, List.nil_append]
    conv => arg 4; simp only [heapOf]
    try conv => arg 5; simp only [List.length, Nat.reduceAdd]
    try conv => arg 6; simp only [List.length, Nat.reduceAdd]
    refine EVgo9 (And.intro (szB) (hl')) (h9) trivial trivial trivial trivial trivial trivial trivial trivial trivial trivial ?_
    exact EVret trivial
end
end Go.Proofs.YtgiapbmeaobjiaaR
