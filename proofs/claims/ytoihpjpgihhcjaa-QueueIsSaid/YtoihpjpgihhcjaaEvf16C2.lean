/- Evf16C2: a part of the proof. -/
import Derived.Test.YtoihpjpgihhcjaaEvf16C1
open Go Go.Proofs.YtoihpjpgihhcjaaEv
set_option linter.unusedVariables false
set_option linter.unusedSimpArgs false
namespace Go.Proofs.YtoihpjpgihhcjaaR
theorem cut0 (s : Bool) (K : Nat) : Ieee.Toward.even.cut s K 0 = K := by
  have g : (1 : Nat) <<< min 0 (K.log2 + 2) = 1 := by rw [Nat.zero_min]; rfl
  unfold Ieee.Toward.cut
  simp only [g, Nat.div_one, Nat.mod_one, Nat.mul_zero]
  rfl
theorem frac_eq : Ieee.double.fractionBits = 52 := rfl
theorem near_rung {s : Bool} {mag L : Nat} (h0 : mag ≠ 0) (hL : mag.log2 = L) (h52 : L ≤ 52) (hk2 : mag * 2 ^ (52 - L) < 9007199254740992) : Ieee.double.nearest s mag 0 = Ieee.double.word s ((L + 1022) * 4503599627370496 + mag * 2 ^ (52 - L)) := by
  unfold Ieee.Format.nearest
  rw [if_neg h0, hL, least_eq, frac_eq, binade_eq, inf_eq]
  have e1 : max ((0 : Int) + (L : Int) - ((52 : Nat) : Int)) (-1074) = (L : Int) - 52 := by omega
  have e2 : ((0 : Int) - ((L : Int) - 52)).toNat = 52 - L := by omega
  have e3 : ((L : Int) - 52 - 0).toNat = 0 := by omega
  have e5 : ((L : Int) - 52 - -1074).toNat = L + 1022 := by omega
  simp only [e1, e2, e3, e5, Nat.shiftLeft_eq, cut0]
  generalize mag * 2 ^ (52 - L) = K at *
  rw [Nat.min_eq_left (by omega)]
theorem zmul (a : Nat) : 0 = (0 : Int).natAbs * 2 ^ a := (Nat.zero_mul _).symm
theorem fvz {x : Nat} {s : Bool} (h : Ieee.double.read x = .number s 0 (-((1074 : Nat) : Int))) : FV x 0 := ⟨s, 0, 1074, h, zmul 1074, fun _ => Int.le_refl _, fun _ => Int.le_refl _⟩
theorem fv_nearest {n : Int} (h : n.natAbs < 9007199254740992) : FV (FloatKind.f64.nearest n) n := by
  by_cases h0 : n = 0
  · subst h0
    rw [near0]
    exact fvz read0
  · have h0' : n.natAbs ≠ 0 := by omega
    have l1 := Nat.log2_self_le h0'
    have l2 : n.natAbs < 2 ^ (n.natAbs.log2 + 1) := Nat.lt_log2_self
    have l3 : n.natAbs.log2 ≤ 52 := by
      have := (Nat.log2_lt h0' (k := 53)).2 h
      omega
    obtain ⟨L, hL⟩ : ∃ L, n.natAbs.log2 = L := ⟨_, rfl⟩
    rw [hL] at l1 l2 l3
    have hps := pow_split l3
    have hk1 : 4503599627370496 ≤ n.natAbs * 2 ^ (52 - L) := by
      have := Nat.mul_le_mul_right (2 ^ (52 - L)) l1
      rwa [hps] at this
    have hk2 : n.natAbs * 2 ^ (52 - L) < 9007199254740992 := by
      have : n.natAbs * 2 ^ (52 - L) < 2 ^ (L + 1) * 2 ^ (52 - L) := Nat.mul_lt_mul_of_pos_right l2 (Nat.two_pow_pos _)
      rw [Nat.pow_succ, Nat.mul_right_comm, hps] at this
      exact this
    have hn : FloatKind.f64.nearest n = Ieee.double.word (decide (n < 0)) ((L + 1022) * 4503599627370496 + n.natAbs * 2 ^ (52 - L)) := near_rung h0' hL l3 hk2
    have hr := read_pos l3 hk1 hk2 rfl
    rw [hn]
    unfold Ieee.Format.word
    rw [sign_eq]
    by_cases hs : n < 0
    · rw [decide_eq_true hs, if_pos rfl]
      refine ⟨true, n.natAbs * 2 ^ (52 - L), 52 - L, read_sign ?_ hr, rfl, fun _ => by omega, fun q => by cases q⟩
      generalize n.natAbs * 2 ^ (52 - L) = K at *
      omega
    · rw [decide_eq_false hs, if_neg (by simp)]
      exact ⟨false, n.natAbs * 2 ^ (52 - L), 52 - L, hr, rfl, fun q => (by cases q), fun _ => by omega⟩
/-- a priority's negative -/
theorem fv_neg {k : Nat} (h : k ≤ 4) : FV (Op.negFloat .f64 (FloatKind.f64.nearest (k : Int))) (-(k : Int)) := by
  match k, h with
  | 0, _ =>
    rw [show (-((0 : Nat) : Int)) = 0 from rfl]
    exact fvz (s := true) (by decide +kernel)
  | 1, _ => exact ⟨true, 4503599627370496, 52, by decide +kernel, by decide, fun _ => by decide, fun q => Bool.noConfusion q⟩
  | 2, _ => exact ⟨true, 4503599627370496, 51, by decide +kernel, by decide, fun _ => by decide, fun q => Bool.noConfusion q⟩
  | 3, _ => exact ⟨true, 6755399441055744, 51, by decide +kernel, by decide, fun _ => by decide, fun q => Bool.noConfusion q⟩
  | 4, _ => exact ⟨true, 4503599627370496, 50, by decide +kernel, by decide, fun _ => by decide, fun q => Bool.noConfusion q⟩
end Go.Proofs.YtoihpjpgihhcjaaR
