/- DictPlaces: each place has its number. -/
import Derived.Test.YtbgihgkobojfaaaHLawDictPlaces
import Derived.OpenShut
set_option linter.unusedVariables false
set_option linter.unusedSimpArgs false
namespace Go.Proofs.Ytbgihgkobojfaaa.Pure
open Go.RowKit Go.Proofs.Ytbgihgkobojfaaa.PDictPlaces Go.Proofs.YtbgihgkobojfaaaW.PrintWords Go.Proofs.YtbgihgkobojfaaaW.PrintLast
/-- As Option.bind_some, but no equation by sight: the kernel is not asked to compare great terms. -/
theorem bsome {α β : Type} (a : α) (f : α → Option β) : (some a).bind f = f a := by
  generalize hx : some a = o
  cases o with
  | none => cases hx
  | some b => cases hx; rfl
theorem wr_id {x : Int} (h0 : -9223372036854775808 ≤ x) (h1 : x ≤ 9223372036854775807) : wrap64 x = x := by unfold wrap64; omega
theorem awake_ok (k : Nat) (hk : 400 ≤ k) : tenterhooklaw11_awake.f k = some true := at_rounds (g := fun k => tenterhooklaw11_awake.f k) tenterhooklaw11_awake.mono hk (by decide +kernel)
def AD (t a : Int) : Int := if 0 ≤ t ∧ t ≤ 1000000 ∧ 0 ≤ a ∧ a ≤ 4095 then t * 4096 + a else -1
theorem addr_val (t a : Int) : dict_Addr.f t a = some (AD t a) := by
  unfold dict_Addr.f dict_within.f AD
  by_cases c : t ≥ 0
  · rw [if_pos c, bsome]
    by_cases d : t ≤ 1000000
    · rw [if_pos (decide_eq_true d)]
      by_cases e : a ≥ 0
      · rw [if_pos e, bsome]
        by_cases f : a ≤ 4095
        · rw [if_pos (decide_eq_true f), if_pos ⟨c, d, e, f⟩]
          congr 1
          rw [wr_id (x := t * 4096) (by omega) (by omega), wr_id (by omega) (by omega)]
        · rw [if_neg (by simpa using f), if_neg (fun h => f h.2.2.2)]
      · rw [if_neg e, bsome, if_neg (by decide), if_neg (fun h => e h.2.2.1)]
    · rw [if_neg (by simpa using d), if_neg (fun h => d h.2.1)]
  · rw [if_neg c, bsome, if_neg (by decide), if_neg (fun h => c h.1)]
theorem at_any (n : Int) : ∃ r, dict_At.f n = some r := by
  unfold dict_At.f
  split
  · exact ⟨_, rfl⟩
  · split <;> exact ⟨_, rfl⟩
theorem at_addr (t a : Int) (h : AD t a ≥ 0) : dict_At.f (AD t a) = some (t, a, true) := by
  unfold AD at h ⊢
  split at h
  · rename_i hc
    rw [if_pos hc]
    obtain ⟨h0, h1, h2, h3⟩ := hc
    have e1 : Int.tdiv (t * 4096 + a) 4096 = t := by
      rw [Int.tdiv_eq_ediv_of_nonneg (by omega)]; omega
    have e2 : Int.tmod (t * 4096 + a) 4096 = a := by
      rw [Int.tmod_eq_emod_of_nonneg (by omega)]; omega
    unfold dict_At.f
    rw [if_neg (by omega), e1, e2, wr_id (by omega) (by omega), if_neg (by omega)]
  · exact absurd h (by decide)
theorem AD_lt (p0 p1 q0 q1 : Int) (a : ¬ AD p0 p1 < 0) (b : ¬ AD q0 q1 < 0) : AD p0 p1 > AD q0 q1 ↔ (p0 > q0 ∨ p0 = q0 ∧ p1 > q1) := by
  unfold AD at *
  by_cases c : 0 ≤ p0 ∧ p0 ≤ 1000000 ∧ 0 ≤ p1 ∧ p1 ≤ 4095
  · by_cases d : 0 ≤ q0 ∧ q0 ≤ 1000000 ∧ 0 ≤ q1 ∧ q1 ≤ 4095
    · rw [if_pos c, if_pos d]; omega
    · rw [if_neg d] at b; exact absurd (by decide) b
  · rw [if_neg c] at a; exact absurd (by decide) a
theorem ab_ok (p0 p1 q0 q1 : Int) (X : Option Bool) : (if p0 > q0 then (if true = true then (if AD p0 p1 < 0 then X else (if AD q0 q1 < 0 then X else (if ((decide (AD p0 p1 > AD q0 q1)) == true) = true then X else (some false)))) else (some false)) else
    (if p0 = q0 then (if true = true then (if AD p0 p1 < 0 then X else (if AD q0 q1 < 0 then X else (if ((decide (AD p0 p1 > AD q0 q1)) == (decide (p1 > q1))) = true then X else (some false)))) else (some false)) else
      (if true = true then (if AD p0 p1 < 0 then X else (if AD q0 q1 < 0 then X else (if ((decide (AD p0 p1 > AD q0 q1)) == false) = true then X else (some false)))) else (some false)))) = X := by
  have tt : ∀ Y : Option Bool, (if true = true then Y else some false) = Y := fun _ => if_pos rfl
  rw [tt, tt, tt]
  by_cases a : AD p0 p1 < 0
  · rw [if_pos a, if_pos a, if_pos a]
    split
    · rfl
    · split <;> rfl
  · rw [if_neg a, if_neg a, if_neg a]
    by_cases b : AD q0 q1 < 0
    · rw [if_pos b, if_pos b, if_pos b]
      split
      · rfl
      · split <;> rfl
    · rw [if_neg b, if_neg b, if_neg b]
      have key := AD_lt p0 p1 q0 q1 a b
      by_cases c : p0 > q0
      · rw [if_pos c, if_pos (by rw [decide_eq_true (key.2 (.inl c))]; rfl)]
      · rw [if_neg c]
        by_cases d : p0 = q0
        · rw [if_pos d]
          have : decide (AD p0 p1 > AD q0 q1) = decide (p1 > q1) := by
            by_cases e : p1 > q1
            · rw [decide_eq_true e, decide_eq_true (key.2 (.inr ⟨d, e⟩))]
            · rw [decide_eq_false e, decide_eq_false (fun h => (key.1 h).elim c (fun h2 => e h2.2))]
          rw [this, if_pos (by simp)]
        · rw [if_neg d, if_pos (by rw [decide_eq_false (fun h => (key.1 h).elim c (fun h2 => d h2.1))]; rfl)]
theorem at_cases (n : Int) (h0 : -9223372036854775808 ≤ n) (h1 : n ≤ 9223372036854775807) : (dict_At.f n = some (0, 0, false) ∧ (n < 0 ∨ n > 2147483648)) ∨ (∃ t a, dict_At.f n = some (t, a, true) ∧ AD t a = n) := by
  unfold dict_At.f
  by_cases c : n < 0
  · rw [if_pos c]; exact .inl ⟨rfl, .inl c⟩
  · have e1 : Int.tdiv n 4096 = n / 4096 := Int.tdiv_eq_ediv_of_nonneg (by omega)
    have e2 : Int.tmod n 4096 = n % 4096 := Int.tmod_eq_emod_of_nonneg (by omega)
    rw [if_neg c, e1, e2, wr_id (by omega) (by omega)]
    by_cases d : n / 4096 > 1000000
    · rw [if_pos d]; exact .inl ⟨rfl, .inr (by omega)⟩
    · rw [if_neg d]
      refine .inr ⟨_, _, rfl, ?_⟩
      unfold AD
      rw [if_pos ⟨by omega, by omega, by omega, by omega⟩]
      omega
theorem DictPlaces : tenterhooklaw11_DictPlaces.Pure := by
  intro x0 h0 x1 h1 n hn
  refine ⟨1000, ?_⟩
  have hr : -9223372036854775808 ≤ n ∧ n ≤ 9223372036854775807 := bounds_i64 hn
  obtain ⟨p0, p1⟩ := x0
  obtain ⟨q0, q1⟩ := x1
  show tenterhooklaw11_DictPlaces.f 1000 p0 p1 q0 q1 n = some true
  unfold tenterhooklaw11_DictPlaces.f
  rw [awake_ok 1000 (by omega), addr_val, addr_val, bsome, bsome, bsome]
  have tail : ∀ b : Bool, ∀ t a : Int, (dict_At.f n = some (t, a, b)) →
      (if b = true then ((dict_Addr.f t a).bind fun t205 => (if t205 = n then (if p0 > q0 then (if true = true then (if AD p0 p1 < 0 then (some true) else (if AD q0 q1 < 0 then (some true) else (if ((decide (AD p0 p1 > AD q0 q1)) == true) = true then (some true) else (some false)))) else (some false)) else (if p0 = q0 then (if true = true then (if AD p0 p1 < 0 then (some true) else (if AD q0 q1 < 0 then (some true) else (if ((decide (AD p0 p1 > AD q0 q1)) == (decide (p1 > q1))) = true then (some true) else (some false)))) else (some false)) else (if true = true then (if AD p0 p1 < 0 then (some true) else (if AD q0 q1 < 0 then (some true) else (if ((decide (AD p0 p1 > AD q0 q1)) == false) = true then (some true) else (some false)))) else (some false)))) else (some false))) else (if (!(t == 0) || (!(a == 0))) = true then (some false) else (if p0 > q0 then (if true = true then (if AD p0 p1 < 0 then (if n < 0 then (some true) else (some (decide (n > 2147483648)))) else (if AD q0 q1 < 0 then (if n < 0 then (some true) else (some (decide (n > 2147483648)))) else (if ((decide (AD p0 p1 > AD q0 q1)) == true) = true then (if n < 0 then (some true) else (some (decide (n > 2147483648)))) else (some false)))) else (some false)) else (if p0 = q0 then (if true = true then (if AD p0 p1 < 0 then (if n < 0 then (some true) else (some (decide (n > 2147483648)))) else (if AD q0 q1 < 0 then (if n < 0 then (some true) else (some (decide (n > 2147483648)))) else (if ((decide (AD p0 p1 > AD q0 q1)) == (decide (p1 > q1))) = true then (if n < 0 then (some true) else (some (decide (n > 2147483648)))) else (some false)))) else (some false)) else (if true = true then (if AD p0 p1 < 0 then (if n < 0 then (some true) else (some (decide (n > 2147483648)))) else (if AD q0 q1 < 0 then (if n < 0 then (some true) else (some (decide (n > 2147483648)))) else (if ((decide (AD p0 p1 > AD q0 q1)) == false) = true then (if n < 0 then (some true) else (some (decide (n > 2147483648)))) else (some false)))) else (some false)))))) = some true := by
    intro b t a hat
    rcases at_cases n hr.1 hr.2 with ⟨h, hx⟩ | ⟨t', a', h, hx⟩
    · rw [h] at hat
      obtain ⟨rfl, rfl, rfl⟩ : 0 = t ∧ 0 = a ∧ false = b := by simpa using hat
      rw [if_neg (by decide), if_neg (by decide), ab_ok]
      split
      · rfl
      · rw [decide_eq_true (by omega)]
    · rw [h] at hat
      obtain ⟨rfl, rfl, rfl⟩ : t' = t ∧ a' = a ∧ true = b := by simpa using hat
      rw [if_pos rfl, addr_val, bsome, if_pos hx, ab_ok]
  obtain ⟨⟨t, a, b⟩, hat⟩ := at_any n
  have ht := tail b t a hat
  by_cases c : AD p0 p1 ≥ 0
  · rw [at_addr p0 p1 c, bsome, hat, bsome, if_neg (by rw [decide_eq_true c]; exact Bool.false_ne_true), if_pos rfl, if_neg (by simp)]
    exact ht
  · have hm : AD p0 p1 = -1 := by
      unfold AD at c ⊢
      split
      · rename_i h; rw [if_pos h] at c; omega
      · rfl
    have h1 : dict_At.f (AD p0 p1) = some (0, 0, false) := by rw [hm]; rfl
    rw [h1, bsome, hat, bsome, if_neg (by rw [decide_eq_false c]; exact Bool.false_ne_true), if_neg (by exact Bool.false_ne_true)]
    exact ht
end Go.Proofs.Ytbgihgkobojfaaa.Pure
