/- Whole numbers as floats: how two of them stand to each other. -/
import Derived.Test.YtoihpjpgihhcjaaEvIr16
open Go Go.Proofs.YtoihpjpgihhcjaaEv
set_option linter.unusedVariables false
set_option linter.unusedSimpArgs false
namespace Go.Proofs.YtoihpjpgihhcjaaR
/-- these bits stand for that number -/
def FV (x : Nat) (n : Int) : Prop := ∃ (s : Bool) (m a : Nat), Ieee.double.read x = .number s m (-(a : Int)) ∧ m = n.natAbs * 2 ^ a ∧ (s = true → n ≤ 0) ∧ (s = false → 0 ≤ n)
theorem signed_eq (s : Bool) (m u : Nat) : Ieee.signed s m u = (if s then -((m * 2 ^ u : Nat) : Int) else ((m * 2 ^ u : Nat) : Int)) := by
  unfold Ieee.signed
  rw [Nat.shiftLeft_eq]
theorem fv_signed {n : Int} {s : Bool} {m a u t : Nat} (hm : m = n.natAbs * 2 ^ a) (h1 : s = true → n ≤ 0) (h2 : s = false → 0 ≤ n) (hu : a + u = t) : Ieee.signed s m u = n * (2 ^ t : Nat) := by
  rw [signed_eq]
  have e : m * 2 ^ u = n.natAbs * 2 ^ t := by rw [hm, Nat.mul_assoc, ← Nat.pow_add, hu]
  rw [e]
  cases s with
  | true =>
    have := h1 rfl
    rw [if_pos rfl, Int.natCast_mul]
    have : (n.natAbs : Int) = -n := by omega
    rw [this, Int.neg_mul, Int.neg_neg]
  | false =>
    have := h2 rfl
    rw [if_neg (by simp), Int.natCast_mul]
    have : (n.natAbs : Int) = n := by omega
    rw [this]
theorem cmp_mul {a b : Int} {k : Nat} (hk : 0 < k) : compare (a * (k : Int)) (b * (k : Int)) = compare a b := by
  have hk' : (0 : Int) < (k : Int) := by omega
  show compareOfLessAndEq _ _ = compareOfLessAndEq _ _
  unfold compareOfLessAndEq
  have e1 : (a * (k : Int) < b * (k : Int)) ↔ a < b := ⟨fun h => Int.lt_of_mul_lt_mul_right h (by omega), fun h => Int.mul_lt_mul_of_pos_right h hk'⟩
  have e2 : (a * (k : Int) = b * (k : Int)) ↔ a = b := ⟨fun h => Int.eq_of_mul_eq_mul_right (by omega) h, fun h => by rw [h]⟩
  simp only [e1, e2]
theorem fv_order {x y : Nat} {a b : Int} (hx : FV x a) (hy : FV y b) : Ieee.double.order x y = some (compare a b) := by
  obtain ⟨s, m, i, r1, e1, p1, p2⟩ := hx
  obtain ⟨t, n, j, r2, e2, p3, p4⟩ := hy
  unfold Ieee.Format.order
  rw [r1, r2]
  show some (compare (Ieee.signed s m (-(i : Int) - min (-(i : Int)) (-(j : Int))).toNat) (Ieee.signed t n (-(j : Int) - min (-(i : Int)) (-(j : Int))).toNat)) = _
  rw [fv_signed (t := max i j) e1 p1 p2 (by omega), fv_signed (t := max i j) e2 p3 p4 (by omega), cmp_mul (Nat.two_pow_pos _)]
theorem pow_split {L : Nat} (h : L ≤ 52) : 2 ^ L * 2 ^ (52 - L) = 4503599627370496 := by
  rw [← Nat.pow_add, show L + (52 - L) = 52 by omega]
theorem read0 : Ieee.double.read 0 = .number false 0 (-((1074 : Nat) : Int)) := by decide +kernel
theorem near0 : FloatKind.f64.nearest 0 = 0 := by decide +kernel
theorem binade_eq : Ieee.double.binade = 4503599627370496 := by decide +kernel
theorem inf_eq : Ieee.double.infRung = 9218868437227405312 := by decide +kernel
theorem sign_eq : Ieee.double.signWeight = 9223372036854775808 := by decide +kernel
theorem least_eq : Ieee.double.leastPlace = -1074 := by decide +kernel
theorem read_pos {R K L : Nat} (hL : L ≤ 52) (h1 : 4503599627370496 ≤ K) (h2 : K < 9007199254740992) (hR : R = (L + 1022) * 4503599627370496 + K) : Ieee.double.read R = .number false K (-((52 - L : Nat) : Int)) := by
  unfold Ieee.Format.read
  rw [binade_eq, inf_eq, sign_eq, least_eq]
  have q1 : R / 9223372036854775808 = 0 := by omega
  have q2 : R % 9223372036854775808 = R := by omega
  have q3 : R % 4503599627370496 = K - 4503599627370496 := by omega
  have q4 : R / 4503599627370496 = L + 1023 := by omega
  simp only [q1, q2]
  rw [if_neg (by omega), if_pos (by omega), q3, q4]
  have q5 : 4503599627370496 + (K - 4503599627370496) = K := by omega
  have q6 : (-1074 + ((L + 1023 - 1 : Nat) : Int)) = -((52 - L : Nat) : Int) := by omega
  rw [q5, q6]
  rfl
theorem read_sign {R : Nat} {s : Bool} {m : Nat} {e : Int} (hR : R < 9223372036854775808) (h : Ieee.double.read R = .number s m e) : Ieee.double.read (9223372036854775808 + R) = .number true m e := by
  unfold Ieee.Format.read at h ⊢
  rw [binade_eq, inf_eq, sign_eq, least_eq] at *
  have q1 : (9223372036854775808 + R) / 9223372036854775808 = 1 := by omega
  have q2 : (9223372036854775808 + R) % 9223372036854775808 = R := by omega
  have q3 : R % 9223372036854775808 = R := by omega
  simp only [q1, q2] 
  simp only [q3] at h
  split at h
  · next c => rw [if_pos c]; cases h; rfl
  · next c =>
    rw [if_neg c]
    split at h
    · next c2 => rw [if_pos c2]; cases h; rfl
    · next c2 =>
      split at h <;> cases h
end Go.Proofs.YtoihpjpgihhcjaaR
