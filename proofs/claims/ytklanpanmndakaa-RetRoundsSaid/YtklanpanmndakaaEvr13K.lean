/- Evr13K: a part of the proof. -/
import Derived.Test.YtklanpanmndakaaEvr13I
open Go Go.Proofs.YtklanpanmndakaaEv Go.Proofs.YtklanpanmndakaaR Go.IntWalk
set_option maxRecDepth 20000
set_option maxHeartbeats 16000000
set_option linter.unusedVariables false
set_option linter.unusedSimpArgs false
namespace Go.Proofs.YtklanpanmndakaaR
def andI (a b : Int) : Int := IntKind.i64.wrap ((BitVec.ofInt 64 a &&& BitVec.ofInt 64 b).toNat : Int)
theorem andI_le (a : Int) (b : Nat) (hb : b < 1000) : ∃ k : Nat, andI a b = k ∧ k ≤ b := by
  refine ⟨(BitVec.ofInt 64 a &&& BitVec.ofInt 64 b).toNat, ?_, ?_⟩
  · have h : (BitVec.ofInt 64 a &&& BitVec.ofInt 64 (b : Int)).toNat ≤ b := by
      rw [BitVec.toNat_and, BitVec.ofInt_natCast, BitVec.toNat_ofNat, Nat.mod_eq_of_lt (by omega)]
      exact Nat.and_le_right
    unfold andI
    rw [i64_in _ (by omega)]
  · rw [BitVec.toNat_and, BitVec.ofInt_natCast, BitVec.toNat_ofNat, Nat.mod_eq_of_lt (by omega)]
    exact Nat.and_le_right
theorem w64_mod (n : Int) : w64 n = (n + 9223372036854775808) % 18446744073709551616 - 9223372036854775808 := by unfold w64; rw [IntKind.wrap_i64]
theorem w64_congr {a b : Int} (h : ∃ k : Int, a = b + k * 18446744073709551616) : w64 a = w64 b := by
  obtain ⟨k, rfl⟩ := h
  rw [w64_mod, w64_mod, show b + k * 18446744073709551616 + 9223372036854775808 = b + 9223372036854775808 + k * 18446744073709551616 by omega, Int.add_mul_emod_self_right]
theorem w64_ex (a : Int) : ∃ k : Int, w64 a = a + k * 18446744073709551616 := ⟨-((a + 9223372036854775808) / 18446744073709551616), by rw [w64_mod]; omega⟩
theorem w64_addl (a b : Int) : w64 (w64 a + b) = w64 (a + b) := by
  obtain ⟨k, hk⟩ := w64_ex a
  exact w64_congr ⟨k, by rw [hk]; omega⟩
theorem w64_subl (a b : Int) : w64 (w64 a - b) = w64 (a - b) := by
  obtain ⟨k, hk⟩ := w64_ex a
  exact w64_congr ⟨k, by rw [hk]; omega⟩
theorem w64_small {a : Int} (h : -9223372036854775808 ≤ a ∧ a ≤ 9223372036854775807) : w64 a = a := i64_in a h
theorem sane2 (L x : Int) : saneT ⟨[], [-2, L, x], 0, 0, 0⟩ = ⟨[], [-2, L, x], 0, 0, 0⟩ := if_pos ((sane_iff _).2 ⟨by simp, by simp, by simp, by simp, by simp⟩)
theorem next2 (L x n : Int) : next ⟨[], [-2, L, x], 0, 0, 0⟩ n = if nxE (w64 (x - L)) n = true then (⟨[], [-2], 0, 0, 0⟩, true, 0) else (⟨[], [-2, L, w64 (x + n)], 0, 0, 0⟩, false, 0) := by
  have h : cutH 0 ((1 : Nat) : Int) = 0 := by unfold cutH; split <;> rfl
  unfold next tak
  simp only [List.length_cons, List.length_nil, Nat.zero_add, Nat.reduceAdd, Nat.reduceLeDiff, if_true, nxA, Nat.add_one_sub_one, Nat.reduceSub, List.getD_cons_succ, List.getD_cons_zero, List.take_succ_cons, List.take_zero, h, List.cons_append, List.nil_append]
theorem mslI (l : List Int) (σ : Nat → Option Nat) : (slI l).mapId σ = slI l := rfl
section
variable {cf : CF} (hcf : cf = ev env)
include hcf
theorem i25 (L x : Int) : Sp cf 25 [tkE ⟨[], [-2, L, x], 0, 0, 0⟩, .int .i64 0] (.tup [.int .i64 x, .int .i64 0]) := by
  have h := s25 hcf ⟨[], [-2, L, x], 0, 0, 0⟩ 0
  rw [sane2] at h
  have e : index ⟨[], [-2, L, x], 0, 0, 0⟩ 0 = (x, 0) := by simp [index, pick]
  rw [e] at h
  exact h
theorem n28e (L x n : Int) (hn : -9223372036854775808 ≤ n ∧ n ≤ 9223372036854775807) (h : nxE (w64 (x - L)) n = true) : Sp cf 28 [tkE ⟨[], [-2, L, x], 0, 0, 0⟩, .int .i64 n] (.tup [tkE ⟨[], [-2], 0, 0, 0⟩, .bool true, .int .i64 0]) := by
  have h28 := s28 hcf ⟨[], [-2, L, x], 0, 0, 0⟩ n hn
  rw [sane2, next2, if_pos h] at h28
  exact h28
theorem n28g (L x n : Int) (hn : -9223372036854775808 ≤ n ∧ n ≤ 9223372036854775807) (h : nxE (w64 (x - L)) n = false) : Sp cf 28 [tkE ⟨[], [-2, L, x], 0, 0, 0⟩, .int .i64 n] (.tup [tkE ⟨[], [-2, L, w64 (x + n)], 0, 0, 0⟩, .bool false, .int .i64 0]) := by
  have h28 := s28 hcf ⟨[], [-2, L, x], 0, 0, 0⟩ n hn
  rw [sane2, next2, if_neg (by rw [h]; simp)] at h28
  exact h28
theorem b23 (L x : Int) : Sp cf 23 [tkE ⟨[], [-2], 0, 0, 0⟩, .int .i64 L, .int .i64 x] (.tup [tkE ⟨[], [-2, L, x], 0, 0, 0⟩, .int .i64 0]) := by
  have h := s23 hcf ⟨[], [-2], 0, 0, 0⟩ L x
  have e : saneT ⟨[], [-2], 0, 0, 0⟩ = ⟨[], [-2], 0, 0, 0⟩ := if_pos ((sane_iff _).2 sn_new)
  rw [e] at h
  exact h
theorem s6 (L n st : Int) (hL : -9223372036854775808 ≤ L ∧ L ≤ 9223372036854775807) : Sp cf 6 [.int .i64 L, .int .i64 n, .int .i64 st] (.bool true) := by
  have h10 := s10 hcf
  have h27 := s27 hcf 0 0
  obtain ⟨k0, hk0, hk1⟩ := andI_le n 31 (by omega)
  obtain ⟨s0, hs0, hs1⟩ := andI_le st 7 (by omega)
  have f1 : ∀ a b : Int, IntKind.i64.wrap ((BitVec.ofInt IntKind.i64.bits a &&& BitVec.ofInt IntKind.i64.bits b).toNat : Int) = andI a b := fun _ _ => rfl
  have f2 : ∀ a : Int, IntKind.i64.wrap a = w64 a := fun _ => rfl
  have g1 : andI n 31 = (k0 : Int) := hk0
  have g2 : andI st 7 = (s0 : Int) := hs0
  have w1 : w64 (1 + (k0 : Int)) = ((k0 + 1 : Nat) : Int) := by rw [w64_small (by omega)]; omega
  have w2 : w64 (1 + (s0 : Int)) = ((s0 + 1 : Nat) : Int) := by rw [w64_small (by omega)]; omega
  generalize hK : k0 + 1 = K at *
  generalize hS : s0 + 1 = S at *
  have hKS : K * S ≤ 256 := by
    calc K * S ≤ 32 * 8 := Nat.mul_le_mul (by omega) (by omega)
      _ = 256 := rfl
  have w3 : w64 ((K : Int) * (S : Int)) = ((K * S : Nat) : Int) := by rw [Int.natCast_mul, w64_small (by rw [← Int.natCast_mul]; omega)]
  have hb1 := b23 hcf L (w64 (L - ((K * S : Nat) : Int)))
  have hb2 := b23 hcf L (w64 (L + (K : Int)))
  have hX : ∀ i : Nat, w64 (w64 (L - ((K * S : Nat) : Int)) + ((i * S : Nat) : Int)) = w64 (L - ((K * S : Nat) : Int) + ((i * S : Nat) : Int)) := fun i => w64_addl _ _
  refine sp_of hcf env6 ?_
  conv => arg 2; simp only [ir6]
  conv => arg 3; simp only [ir6, Go.Proofs.YtklanpanmndakaaEv.start, List.length, Nat.reduceAdd, Nat.reduceSub, List.reduceReplicate, List.append_eq, List.cons_append, List.nil_append]
  conv => arg 4; simp only [heapOf]
  try conv => arg 5; simp only [List.length, Nat.reduceAdd]
  try conv => arg 6; simp only [List.length, Nat.reduceAdd]
  refine EVgo9 (And.intro (f1) ( And.intro (g1) ( And.intro (g2) ( And.intro (f2) ( And.intro (w1) ( And.intro (w2) ( And.intro (w3) (mslI)))))))) (h10) (h27) (hb1) trivial trivial trivial trivial trivial trivial trivial trivial ?_
  refine WC.loop (T' := _) (H' := _) (n' := _) rfl ((?_ : ∀ (m i : Nat) (D : PV), i + m = K → D = (if i < K then slI [-2, L, w64 (L - ((K * S : Nat) : Int) + ((i * S : Nat) : Int))] else slI [-2]) →
    WC cf _ (mkT 154 [(0, .int .i64 L), (7, .bool true), (8, .int .i64 (K : Nat)), (9, .int .i64 (S : Nat)), (10, .ptr 0 0), (12, .int .i64 (i : Nat))]) [(0, .box [slI [], D, .int .i64 0, .int .i64 0, .int .i64 0])] 0 1 _) K 0 (slI [-2, L, w64 (L - ((K * S : Nat) : Int))]) (by omega) (by
      rw [if_pos (by omega), Nat.zero_mul]
      simp))
  intro m
  induction m with
  | succ m ih =>
    intro i D hi hD
    have hlt : (i : Int) < (K : Int) := by omega
    rw [if_pos (by omega)] at hD
    have hiS : i * S + S ≤ K * S := by
      rw [show i * S + S = (i + 1) * S by rw [Nat.add_mul, Nat.one_mul]]
      exact Nat.mul_le_mul_right _ (by omega)
    generalize hXi : w64 (L - ((K * S : Nat) : Int) + ((i * S : Nat) : Int)) = Xi at *
    subst hD
    have hw : w64 ((i : Int) + 1) = ((i + 1 : Nat) : Int) := by rw [w64_small (by omega)]; omega
    have w4 : w64 ((i : Int) * (S : Int)) = ((i * S : Nat) : Int) := by rw [Int.natCast_mul, w64_small (by rw [← Int.natCast_mul]; omega)]
    have w5 : w64 ((K : Int) - 1) = ((K - 1 : Nat) : Int) := by rw [w64_small (by omega)]; omega
    have w6 : w64 (w64 (L - ((K * S : Nat) : Int)) + ((i * S : Nat) : Int)) = Xi := by rw [hX, hXi]
    have q1 : (Xi != Xi) = false := by simp
    have i25h := i25 hcf L Xi
    have hA : w64 (Xi - L) = ((i * S : Nat) : Int) - ((K * S : Nat) : Int) := by
      rw [← hXi, w64_subl, show L - ((K * S : Nat) : Int) + ((i * S : Nat) : Int) - L = ((i * S : Nat) : Int) - ((K * S : Nat) : Int) by omega, w64_small (by omega)]
    have hB : w64 (((i * S : Nat) : Int) - ((K * S : Nat) : Int) + (S : Int)) = ((i * S : Nat) : Int) - ((K * S : Nat) : Int) + (S : Int) := w64_small (by omega)
    have n1 : ((i * S : Nat) : Int) - ((K * S : Nat) : Int) < 0 := by omega
    have n2 : ¬ ((S : Int) < 0) := by omega
    by_cases hend : i + 1 = K
    · have e1 : i * S + S = K * S := by rw [← hend, Nat.add_mul, Nat.one_mul]
      have hE : nxE (w64 (Xi - L)) S = true := by
        unfold nxE
        rw [hA, hB, decide_eq_true n1, decide_eq_false n2, decide_eq_false (by omega)]
        rfl
      have n28 := n28e hcf L Xi S (by omega) hE
      have q2 : ((i : Int) == ((K - 1 : Nat) : Int)) = true := by simp; omega
      have hih := ih (i + 1) (slI [-2]) (by omega) (by rw [if_neg (by omega)])
      conv => arg 3; simp only [mkT, putT, List.reduceReplicate, List.set]
      refine EVgo2 (And.intro (hlt) ( And.intro (f2) ( And.intro (hw) ( And.intro (w4) ( And.intro (w5) ( And.intro (w3) ( And.intro (w6) ( And.intro (q1) ( And.intro (q2) ( And.intro (@tkE.eq_1) (mslI))))))))))) (i25h) (n28) trivial trivial ?_
      exact WC.loop rfl hih
    · have hE : nxE (w64 (Xi - L)) S = false := by
        have e1 : i * S + S + S ≤ K * S := by
          rw [show i * S + S + S = (i + 2) * S by rw [Nat.add_mul]; omega]
          exact Nat.mul_le_mul_right _ (by omega)
        unfold nxE
        rw [hA, hB, decide_eq_true n1, decide_eq_false n2, decide_eq_true (by omega)]
        rfl
      have n28 := n28g hcf L Xi S (by omega) hE
      have q2 : ((i : Int) == ((K - 1 : Nat) : Int)) = false := by simp; omega
      have hih := ih (i + 1) (slI [-2, L, w64 (Xi + S)]) (by omega) (by
        rw [if_pos (by omega), ← hXi, w64_addl, show L - ((K * S : Nat) : Int) + ((i * S : Nat) : Int) + (S : Int) = L - ((K * S : Nat) : Int) + (((i + 1) * S : Nat) : Int) by rw [Nat.add_mul, Nat.one_mul]; omega])
      conv => arg 3; simp only [mkT, putT, List.reduceReplicate, List.set]
      refine EVgo2 (And.intro (hlt) ( And.intro (f2) ( And.intro (hw) ( And.intro (w4) ( And.intro (w5) ( And.intro (w3) ( And.intro (w6) ( And.intro (q1) ( And.intro (q2) ( And.intro (@tkE.eq_1) (mslI))))))))))) (i25h) (n28) trivial trivial ?_
      exact WC.loop rfl hih
  | zero =>
    intro i D hi hD
    obtain rfl : i = K := by omega
    rw [if_neg (by omega)] at hD
    subst hD
    have hirr : ¬ ((i : Int) < (i : Int)) := by omega
    have hb3 : w64 (L + (i : Int)) = w64 (L + (i : Int)) := rfl
    conv => arg 3; simp only [mkT, putT, List.reduceReplicate, List.set]
    refine EVgo2 (And.intro (hirr) ( And.intro (f2) ( And.intro (@tkE.eq_1) (mslI)))) (h27) (hb2) trivial trivial ?_
    refine WC.loop (T' := _) (H' := _) (n' := _) rfl ((?_ : ∀ (m j : Nat) (D : PV), j + m = i + 1 → D = (if j ≤ i then slI [-2, L, w64 (L + (i : Int) - (j : Int))] else slI [-2]) →
      WC cf _ (mkT 154 [(0, .int .i64 L), (7, .bool true), (8, .int .i64 (i : Nat)), (10, .ptr 0 0), (18, .ptr 1 0), (20, .int .i64 (j : Nat))]) [(0, .box [slI [], slI [-2], .int .i64 0, .int .i64 0, .int .i64 0]), (1, .box [slI [], D, .int .i64 0, .int .i64 0, .int .i64 0])] 0 2 _) (i + 1) 0 (slI [-2, L, w64 (L + (i : Int))]) (by omega) (by
        rw [if_pos (by omega)]
        simp))
    intro m
    induction m with
    | succ m ih =>
      intro j D hj hD
      have hle : (j : Int) ≤ (i : Int) := by omega
      rw [if_pos (by omega)] at hD
      generalize hYj : w64 (L + (i : Int) - (j : Int)) = Yj at *
      subst hD
      have hw : w64 ((j : Int) + 1) = ((j + 1 : Nat) : Int) := by rw [w64_small (by omega)]; omega
      have w6 : w64 (w64 (L + (i : Int)) - (j : Int)) = Yj := by rw [w64_subl, hYj]
      have q1 : (Yj != Yj) = false := by simp
      have i25h := i25 hcf L Yj
      have hA : w64 (Yj - L) = (i : Int) - (j : Int) := by
        rw [← hYj, w64_subl, show L + (i : Int) - (j : Int) - L = (i : Int) - (j : Int) by omega, w64_small (by omega)]
      have hB : w64 ((i : Int) - (j : Int) + (-1)) = (i : Int) - (j : Int) + (-1) := w64_small (by omega)
      have n1 : ¬ ((i : Int) - (j : Int) < 0) := by omega
      by_cases hend : j = i
      · have hE : nxE (w64 (Yj - L)) (-1) = true := by
          unfold nxE
          rw [hA, hB, decide_eq_false n1, decide_eq_true (by omega)]
          rfl
        have n28 := n28e hcf L Yj (-1) (by omega) hE
        have q2 : ((j : Int) == (i : Int)) = true := by simp; omega
        have hih := ih (j + 1) (slI [-2]) (by omega) (by rw [if_neg (by omega)])
        conv => arg 3; simp only [mkT, putT, List.reduceReplicate, List.set]
        refine EVgo2 (And.intro (hle) ( And.intro (f2) ( And.intro (hw) ( And.intro (w6) ( And.intro (q1) ( And.intro (q2) ( And.intro (@tkE.eq_1) (mslI)))))))) (i25h) (n28) trivial trivial ?_
        exact WC.loop rfl hih
      · have hE : nxE (w64 (Yj - L)) (-1) = false := by
          unfold nxE
          rw [hA, hB, decide_eq_false n1, decide_eq_false (by omega)]
          rfl
        have n28 := n28g hcf L Yj (-1) (by omega) hE
        have q2 : ((j : Int) == (i : Int)) = false := by simp; omega
        have hih := ih (j + 1) (slI [-2, L, w64 (Yj + -1)]) (by omega) (by
          rw [if_pos (by omega), ← hYj, w64_addl, show L + (i : Int) - (j : Int) + -1 = L + (i : Int) - ((j + 1 : Nat) : Int) by omega])
        conv => arg 3; simp only [mkT, putT, List.reduceReplicate, List.set]
        refine EVgo2 (And.intro (hle) ( And.intro (f2) ( And.intro (hw) ( And.intro (w6) ( And.intro (q1) ( And.intro (q2) ( And.intro (@tkE.eq_1) (mslI)))))))) (i25h) (n28) trivial trivial ?_
        exact WC.loop rfl hih
    | zero =>
      intro j D hj hD
      obtain rfl : j = i + 1 := by omega
      rw [if_neg (by omega)] at hD
      subst hD
      have hirr2 : ¬ (((i + 1 : Nat) : Int) ≤ (i : Int)) := by omega
      conv => arg 3; simp only [mkT, putT, List.reduceReplicate, List.set]
      refine EVgo2 (And.intro (hirr2) (@slI.eq_1)) trivial trivial trivial trivial ?_
      exact EVret trivial
end
end Go.Proofs.YtklanpanmndakaaR
