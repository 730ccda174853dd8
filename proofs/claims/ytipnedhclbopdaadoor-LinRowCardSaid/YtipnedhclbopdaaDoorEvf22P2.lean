/- The search with its memory finds an order where there is one. -/
import Derived.Test.YtipnedhclbopdaaDoorEvf22P1
open Go Go.Proofs.YtipnedhclbopdaaDoorEv Go.Proofs.YtipnedhclbopdaaDoorR Go.IntWalk Go.Proofs
set_option maxRecDepth 20000
set_option linter.unusedVariables false
set_option linter.unusedSimpArgs false
namespace Go.Proofs.YtipnedhclbopdaaDoorR
/-- there is an order of those that are not done -/
inductive Ord (l : List Ot) (n : Int) : List Bool → List Int → Prop
  | stop {d h} (e : leftL d 0 l = false) : Ord l n d h
  | step {d h} (k : Nat) (hk : k < l.length) (ha : afterN l d k = true) (hb : (applyT h (l.getD k nilT) n).2 = true) (t : Ord l n (d.set k true) (applyT h (l.getD k nilT) n).1) : Ord l n d h
/-- what the memory holds has failed -/
def Good (l : List Ot) (n : Int) (c : Nat) (ms : List Key) : Prop := ∀ d h, d.length = l.length → keyL d h ∈ ms → cntF d ≤ c → ¬ Ord l n d h
/-- what has come into the memory has failed -/
def Adds (l : List Ot) (n : Int) (c : Nat) (ms ms' : List Key) : Prop := ∀ s ∈ ms', s ∈ ms ∨ ∃ d h, d.length = l.length ∧ cntF d ≤ c ∧ s = keyL d h ∧ ¬ Ord l n d h
theorem Adds.refl {l : List Ot} {n : Int} {c : Nat} {ms : List Key} : Adds l n c ms ms := fun s h => .inl h
theorem Adds.trans {l : List Ot} {n : Int} {c : Nat} {a b e : List Key} (h : Adds l n c a b) (k : Adds l n c b e) : Adds l n c a e := fun s hs => (k s hs).elim (h s) .inr
theorem Adds.mono {l : List Ot} {n : Int} {c c' : Nat} {a b : List Key} (h : Adds l n c a b) (hc : c ≤ c') : Adds l n c' a b := fun s hs => (h s hs).imp id fun ⟨d, x, h1, h2, h3⟩ => ⟨d, x, h1, Nat.le_trans h2 hc, h3⟩
theorem Good.adds {l : List Ot} {n : Int} {c : Nat} {a b : List Key} (h : Good l n c a) (k : Adds l n c a b) : Good l n c b := fun d x hd hs hc => by
  rcases k _ hs with q | ⟨d', x', h1, h2, h3, h4⟩
  · exact h d x hd q hc
  · obtain ⟨rfl, rfl⟩ := key_inj (hd.trans h1.symm) h3
    exact h4
theorem hasK_iff {q : List Key} {s : Key} : hasK q s = true ↔ s ∈ q := by
  unfold hasK
  rw [List.any_eq_true]
  constructor
  · rintro ⟨y, hy, e⟩
    rw [eq_of_beq e]; exact hy
  · intro h
    exact ⟨s, h, by simp⟩
theorem getD_suffix {l p r : List Ot} {o : Ot} (h : p ++ o :: r = l) : l.getD p.length nilT = o := by
  subst h
  simp [List.getD]
theorem memo_spec (l : List Ot) (n : Int) : ∀ (m : Nat) (d : List Bool) (h : List Int) (ms : List Key), d.length = l.length → cntF d < m → Good l n (cntF d) ms →
    ((memo l n m d h ms).1 = true ↔ Ord l n d h) ∧ ((memo l n m d h ms).1 = false → Adds l n (cntF d) ms (memo l n m d h ms).2) := by
  intro m
  induction m with
  | zero => intro d h ms _ hm; omega
  | succ m ih =>
  intro d h ms hd hm hg
  rw [memo]
  dsimp only
  by_cases hk : hasK ms (keyL d h) = true
  · rw [if_pos hk]
    exact ⟨⟨fun q => (by cases q), fun q => absurd q (hg d h hd (hasK_iff.1 hk) (Nat.le_refl _))⟩, fun _ => .refl⟩
  rw [if_neg hk]
  by_cases hl : ¬ (leftL d 0 l = true)
  · rw [if_neg hl]
    exact ⟨⟨fun _ => .stop (by simpa using hl), fun _ => rfl⟩, fun q => (by cases q)⟩
  have hl := Decidable.not_not.1 hl
  rw [if_pos hl]
  -- the loop
  have loop : ∀ (r p : List Ot) (ms' : List Key), p ++ r = l → (∀ s ∈ ms', s ∈ ms ∨ s = keyL d h ∨ ∃ d' h', d'.length = l.length ∧ cntF d' < cntF d ∧ s = keyL d' h' ∧ ¬ Ord l n d' h') →
      ((memoL (memo l n m) l n d h p.length r ms').1 = true ↔ ∃ k, p.length ≤ k ∧ k < l.length ∧ afterN l d k = true ∧ (applyT h (l.getD k nilT) n).2 = true ∧ Ord l n (d.set k true) (applyT h (l.getD k nilT) n).1) ∧
      ((memoL (memo l n m) l n d h p.length r ms').1 = false → ∀ s ∈ (memoL (memo l n m) l n d h p.length r ms').2, s ∈ ms ∨ s = keyL d h ∨ ∃ d' h', d'.length = l.length ∧ cntF d' < cntF d ∧ s = keyL d' h' ∧ ¬ Ord l n d' h') := by
    intro r
    induction r with
    | nil =>
      intro p ms' hp hJ
      rw [List.append_nil] at hp
      subst hp
      rw [memoL]
      exact ⟨⟨fun q => (by cases q), fun ⟨k, h1, h2, _⟩ => by omega⟩, fun _ => hJ⟩
    | cons o r ih2 =>
      intro p ms' hp hJ
      have hpl : p.length < l.length := by rw [← hp]; simp
      have hgd := getD_suffix hp
      have ih3 := fun ms2 => ih2 (p ++ [o]) ms2 (by rw [List.append_assoc]; exact hp)
      rw [snoc_len] at ih3
      rw [memoL]
      by_cases hA : ¬ (afterN l d p.length = true)
      · rw [if_neg hA]
        obtain ⟨q1, q2⟩ := ih3 ms' hJ
        refine ⟨q1.trans ⟨fun ⟨k, h1, h2⟩ => ⟨k, by omega, h2⟩, fun ⟨k, h1, h2, h3, h4⟩ => ⟨k, ?_, h2, h3, h4⟩⟩, q2⟩
        rcases Nat.lt_or_ge p.length k with h5 | h5
        · omega
        · have : k = p.length := by omega
          subst this; exact absurd h3 hA
      have hA := Decidable.not_not.1 hA
      rw [if_pos hA]
      by_cases hB : ¬ ((applyT h o n).2 = true)
      · rw [if_neg hB]
        obtain ⟨q1, q2⟩ := ih3 ms' hJ
        refine ⟨q1.trans ⟨fun ⟨k, h1, h2⟩ => ⟨k, by omega, h2⟩, fun ⟨k, h1, h2, h3, h4, h5⟩ => ⟨k, ?_, h2, h3, h4, h5⟩⟩, q2⟩
        rcases Nat.lt_or_ge p.length k with h6 | h6
        · omega
        · have : k = p.length := by omega
          subst this; rw [hgd] at h4; exact absurd h4 hB
      have hB := Decidable.not_not.1 hB
      rw [if_pos hB]
      have hnb := after_not hA
      have hcnt := cntF_set d p.length (by rw [hd]; exact hpl) hnb
      have hd2 : (d.set p.length true).length = l.length := by rw [List.length_set]; exact hd
      have hg2 : Good l n (cntF (d.set p.length true)) ms' := fun d' h' e1 e2 e3 => by
        rcases hJ _ e2 with q | q | ⟨d2, h2, f1, f2, f3, f4⟩
        · exact hg d' h' e1 q (by omega)
        · obtain ⟨rfl, rfl⟩ := key_inj (e1.trans hd.symm) q
          omega
        · obtain ⟨rfl, rfl⟩ := key_inj (e1.trans f1.symm) f3
          exact f4
      obtain ⟨r1, r2⟩ := ih (d.set p.length true) (applyT h o n).1 ms' hd2 (by omega) hg2
      by_cases hz : (memo l n m (d.set p.length true) (applyT h o n).1 ms').1 = true
      · rw [if_pos hz]
        exact ⟨⟨fun _ => ⟨p.length, Nat.le_refl _, hpl, hA, by rw [hgd]; exact hB, by rw [hgd]; exact r1.1 hz⟩, fun _ => rfl⟩, fun q => (by cases q)⟩
      · rw [if_neg hz]
        have hz' : (memo l n m (d.set p.length true) (applyT h o n).1 ms').1 = false := by simpa using hz
        have hno : ¬ Ord l n (d.set p.length true) (applyT h o n).1 := fun q => hz (r1.2 q)
        have hJ2 : ∀ s ∈ (memo l n m (d.set p.length true) (applyT h o n).1 ms').2, s ∈ ms ∨ s = keyL d h ∨ ∃ d' h', d'.length = l.length ∧ cntF d' < cntF d ∧ s = keyL d' h' ∧ ¬ Ord l n d' h' := fun s hs => by
          rcases r2 hz' s hs with q | ⟨d', h', f1, f2, f3⟩
          · exact hJ s q
          · exact .inr (.inr ⟨d', h', f1, by omega, f3⟩)
        obtain ⟨q1, q2⟩ := ih3 _ hJ2
        refine ⟨q1.trans ⟨fun ⟨k, h1, h2⟩ => ⟨k, by omega, h2⟩, fun ⟨k, h1, h2, h3, h4, h5⟩ => ⟨k, ?_, h2, h3, h4, h5⟩⟩, q2⟩
        rcases Nat.lt_or_ge p.length k with h6 | h6
        · omega
        · have : k = p.length := by omega
          subst this; rw [hgd] at h5; exact absurd h5 hno
  obtain ⟨q1, q2⟩ := loop l [] (ms ++ [keyL d h]) rfl (fun s hs => (List.mem_append.1 hs).elim .inl fun q => .inr (.inl (List.mem_singleton.1 q)))
  have hiff : (memoL (memo l n m) l n d h 0 l (ms ++ [keyL d h])).1 = true ↔ Ord l n d h := by
    refine q1.trans ⟨fun ⟨k, _, h2, h3, h4, h5⟩ => .step k h2 h3 h4 h5, fun q => ?_⟩
    cases q with
    | stop e => rw [hl] at e; cases e
    | step k h2 h3 h4 h5 => exact ⟨k, Nat.zero_le _, h2, h3, h4, h5⟩
  refine ⟨hiff, fun hf s hs => ?_⟩
  have hno : ¬ Ord l n d h := fun q => by rw [hiff.2 q] at hf; cases hf
  rcases q2 hf s hs with q | q | ⟨d', h', f1, f2, f3⟩
  · exact .inl q
  · exact .inr ⟨d, h, hd, Nat.le_refl _, q, hno⟩
  · exact .inr ⟨d', h', f1, by omega, f3⟩
end Go.Proofs.YtipnedhclbopdaaDoorR
