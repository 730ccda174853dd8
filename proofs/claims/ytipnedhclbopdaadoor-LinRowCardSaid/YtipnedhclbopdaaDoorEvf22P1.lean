/- The key tells what is done, and held. -/
import Derived.Test.YtipnedhclbopdaaDoorEvf22D1
open Go Go.Proofs.YtipnedhclbopdaaDoorEv Go.Proofs.YtipnedhclbopdaaDoorR Go.IntWalk Go.Proofs
set_option maxRecDepth 20000
set_option linter.unusedVariables false
set_option linter.unusedSimpArgs false
namespace Go.Proofs.YtipnedhclbopdaaDoorR
def decVal (l : List UInt8) : Nat := l.foldl (fun a c => a * 10 + (c.toNat - 48)) 0
theorem dec_dig (u : Nat) : decVal (Lib.decDigits u) = u ∧ Lib.decDigits u ≠ [] ∧ ∀ c ∈ Lib.decDigits u, 48 ≤ c.toNat ∧ c.toNat ≤ 57 := by
  induction u using Nat.strongRecOn with
  | ind u ih =>
    have one : ∀ v, v < 10 → (UInt8.ofNat (48 + v)).toNat = 48 + v := fun v hv => by rw [UInt8.toNat_ofNat']; omega
    rw [Lib.decDigits]
    split
    · next h =>
      have e := one u h
      refine ⟨?_, by simp, fun c hc => ?_⟩
      · show 0 * 10 + ((UInt8.ofNat (48 + u)).toNat - 48) = u
        rw [e]; omega
      · rw [List.mem_singleton.1 hc, e]; omega
    · next h =>
      obtain ⟨i1, i2, i3⟩ := ih (u / 10) (by omega)
      have e := one (u % 10) (by omega)
      refine ⟨?_, by simp, fun c hc => ?_⟩
      · unfold decVal at i1 ⊢
        rw [List.foldl_append, i1]
        show u / 10 * 10 + ((UInt8.ofNat (48 + u % 10)).toNat - 48) = u
        rw [e]; omega
      · rcases List.mem_append.1 hc with q | q
        · exact i3 c q
        · rw [List.mem_singleton.1 q, e]; omega
theorem itoa_inj {x y : Int} (h : Lib.itoa x = Lib.itoa y) : x = y := by
  have hx := fun u => dec_dig u
  unfold Lib.itoa at h
  by_cases h1 : x < 0 <;> by_cases h2 : y < 0
  · rw [if_pos h1, if_pos h2] at h
    have e := (List.cons.inj h).2
    have e2 : x.natAbs = y.natAbs := by rw [← (hx x.natAbs).1, ← (hx y.natAbs).1, e]
    omega
  · rw [if_pos h1, if_neg h2] at h
    have := (hx y.toNat).2.2 45 (by rw [← h]; exact List.mem_cons_self ..)
    exact absurd this.1 (by decide)
  · rw [if_neg h1, if_pos h2] at h
    have := (hx x.toNat).2.2 45 (by rw [h]; exact List.mem_cons_self ..)
    exact absurd this.1 (by decide)
  · rw [if_neg h1, if_neg h2] at h
    have e2 : x.toNat = y.toNat := by rw [← (hx x.toNat).1, ← (hx y.toNat).1, h]
    omega
theorem itoa_no32 (x : Int) : ∀ c ∈ Lib.itoa x, c ≠ 32 := by
  intro c hc
  unfold Lib.itoa at hc
  split at hc
  · rcases List.mem_cons.1 hc with q | q
    · rw [q]; decide
    · have := (dec_dig _).2.2 c q
      rintro rfl
      exact absurd this.1 (by decide)
  · have := (dec_dig _).2.2 c hc
    rintro rfl
    exact absurd this.1 (by decide)
def Sep (R : List UInt8) : Prop := ∀ c ∈ R.head?, c = 32
theorem split_eq : ∀ {A B R S : List UInt8}, (∀ c ∈ A, c ≠ 32) → (∀ c ∈ B, c ≠ 32) → Sep R → Sep S → A ++ R = B ++ S → A = B ∧ R = S
  | [], [], R, S, _, _, _, _, h => ⟨rfl, by simpa using h⟩
  | [], b :: B, R, S, _, hb, hR, _, h => by
    have hh : R = b :: (B ++ S) := by simpa using h
    exact absurd (hR b (by rw [hh]; rfl)) (hb b (List.mem_cons_self ..))
  | a :: A, [], R, S, ha, _, _, hS, h => by
    have hh : S = a :: (A ++ R) := by simpa using h.symm
    exact absurd (hS a (by rw [hh]; rfl)) (ha a (List.mem_cons_self ..))
  | a :: A, b :: B, R, S, ha, hb, hR, hS, h => by
    obtain ⟨e1, e2⟩ := List.cons.inj h
    obtain ⟨q1, q2⟩ := split_eq (fun c hc => ha c (List.mem_cons_of_mem _ hc)) (fun c hc => hb c (List.mem_cons_of_mem _ hc)) hR hS e2
    exact ⟨by rw [e1, q1], q2⟩
theorem sep_ints : ∀ hs : List Int, Sep (hs.flatMap intL)
  | [] => fun c hc => by simp at hc
  | x :: hs => fun c hc => by
    simp [intL] at hc
    exact hc.symm
theorem ints_inj : ∀ {a b : List Int}, a.flatMap intL = b.flatMap intL → a = b
  | [], [], _ => rfl
  | [], y :: b, h => by simp [intL] at h
  | x :: a, [], h => by simp [intL] at h
  | x :: a, y :: b, h => by
    rw [List.flatMap_cons, List.flatMap_cons] at h
    unfold intL at h
    have h2 := (List.cons.inj h).2
    obtain ⟨q1, q2⟩ := split_eq (itoa_no32 x) (itoa_no32 y) (sep_ints a) (sep_ints b) h2
    rw [itoa_inj q1, ints_inj q2]
theorem key_inj : ∀ {d e : List Bool} {a b : List Int}, d.length = e.length → keyL d a = keyL e b → d = e ∧ a = b
  | [], [], a, b, _, h => ⟨rfl, ints_inj (by simpa [keyL] using h)⟩
  | [], _ :: _, a, b, hl, _ => by simp at hl
  | _ :: _, [], a, b, hl, _ => by simp at hl
  | x :: d, y :: e, a, b, hl, h => by
    have hl' : d.length = e.length := by simpa using hl
    unfold keyL at h
    rw [List.flatMap_cons, List.flatMap_cons, List.append_assoc, List.append_assoc] at h
    have hxy : x = y ∧ d.flatMap boolL ++ a.flatMap intL = e.flatMap boolL ++ b.flatMap intL := by
      cases x <;> cases y <;> simp [boolL] at h <;> exact ⟨rfl, h⟩
    obtain ⟨q1, q2⟩ := key_inj hl' hxy.2
    exact ⟨by rw [hxy.1, q1], q2⟩
end Go.Proofs.YtipnedhclbopdaaDoorR
