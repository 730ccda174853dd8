/- Orders of lists that stand to each other. -/
import Derived.Test.YtipnedhclbopdaaDoorEvf22P2
open Go Go.Proofs.YtipnedhclbopdaaDoorEv Go.Proofs.YtipnedhclbopdaaDoorR Go.IntWalk Go.Proofs
set_option maxRecDepth 20000
set_option linter.unusedVariables false
set_option linter.unusedSimpArgs false
namespace Go.Proofs.YtipnedhclbopdaaDoorR
theorem left_gen : ∀ (d : List Bool) (r : List Ot) (s : Nat), leftL d s r = false ↔ ∀ k, k < r.length → isB d (s + k) = false → endT (r.getD k nilT) = false
  | d, [], s => ⟨fun _ k hk => by simp at hk, fun _ => rfl⟩
  | d, o :: r, s => by
    rw [leftL, Bool.or_eq_false_iff, left_gen d r (s + 1)]
    constructor
    · rintro ⟨h1, h2⟩ k hk hb
      cases k with
      | zero =>
        rw [Nat.add_zero] at hb
        rw [hb] at h1
        simpa [List.getD] using h1
      | succ k =>
        have := h2 k (by simpa using hk) (by rw [← hb]; congr 1; omega)
        simpa [List.getD] using this
    · intro h
      refine ⟨?_, fun k hk hb => ?_⟩
      · cases hq : isB d s with
        | true => rfl
        | false =>
          have := h 0 (by simp) (by simpa using hq)
          simpa [List.getD] using this
      · have := h (k + 1) (by simpa using hk) (by rw [← hb]; congr 1; omega)
        simpa [List.getD] using this
theorem left_iff {d : List Bool} {l : List Ot} : leftL d 0 l = false ↔ ∀ k, k < l.length → isB d k = false → endT (l.getD k nilT) = false := by
  have := left_gen d l 0
  simpa using this
theorem free_gen : ∀ (d : List Bool) (fr : Int) (r : List Ot) (s : Nat), freeL d fr s r = true ↔ ∀ k, k < r.length → isB d (s + k) = false → endT (r.getD k nilT) = true → ¬ toT (r.getD k nilT) < fr
  | d, fr, [], s => ⟨fun _ k hk => by simp at hk, fun _ => rfl⟩
  | d, fr, o :: r, s => by
    rw [freeL, Bool.and_eq_true, free_gen d fr r (s + 1)]
    constructor
    · rintro ⟨h1, h2⟩ k hk hb he
      cases k with
      | zero =>
        rw [Nat.add_zero] at hb
        have he' : endT o = true := by simpa [List.getD] using he
        unfold blkB at h1
        rw [hb, he'] at h1
        simpa [List.getD] using h1
      | succ k =>
        have := h2 k (by simpa using hk) (by rw [← hb]; congr 1; omega) (by simpa [List.getD] using he)
        simpa [List.getD] using this
    · intro h
      refine ⟨?_, fun k hk hb he => ?_⟩
      · unfold blkB
        cases hq : isB d s with
        | true => rfl
        | false =>
          cases he : endT o with
          | false => rfl
          | true =>
            have := h 0 (by simp) (by simpa using hq) (by simpa [List.getD] using he)
            simpa [List.getD] using this
      · have := h (k + 1) (by simpa using hk) (by rw [← hb]; congr 1; omega) (by simpa [List.getD] using he)
        simpa [List.getD] using this
theorem after_iff {l : List Ot} {d : List Bool} {i : Nat} : afterN l d i = true ↔ isB d i = false ∧ ∀ k, k < l.length → isB d k = false → endT (l.getD k nilT) = true → ¬ toT (l.getD k nilT) < fromT (l.getD i nilT) := by
  unfold afterN
  rw [Bool.and_eq_true, free_gen]
  simp
theorem isB_set {d : List Bool} {k : Nat} (hk : k < d.length) (j : Nat) : isB (d.set k true) j = if j = k then true else isB d j := by
  unfold isB
  rw [List.getD_eq_getElem?_getD, List.getElem?_set, List.getD_eq_getElem?_getD]
  by_cases h : k = j
  · subst h; rw [if_pos rfl, if_pos rfl, if_pos hk]; rfl
  · rw [if_neg h, if_neg (Ne.symm h)]
/-- l' lies in other places, its operations begin no later and end no earlier; what it has besides has not come to its end -/
structure Wide (l l' : List Ot) (n : Int) (σ : Nat → Nat) : Prop where
  lt : ∀ k, k < l.length → σ k < l'.length
  inj : ∀ j k, j < l.length → k < l.length → σ j = σ k → j = k
  sur : ∀ k', k' < l'.length → (∃ k, k < l.length ∧ σ k = k') ∨ endT (l'.getD k' nilT) = false
  app : ∀ k h, k < l.length → applyT h (l'.getD (σ k) nilT) n = applyT h (l.getD k nilT) n
  fin : ∀ k, k < l.length → endT (l'.getD (σ k) nilT) = endT (l.getD k nilT)
  to : ∀ k, k < l.length → endT (l.getD k nilT) = true → toT (l.getD k nilT) ≤ toT (l'.getD (σ k) nilT)
  fr : ∀ k, k < l.length → fromT (l'.getD (σ k) nilT) ≤ fromT (l.getD k nilT)
theorem Ord.wide {l l' : List Ot} {n : Int} {σ : Nat → Nat} (W : Wide l l' n σ) {d : List Bool} {h : List Int} (H : Ord l n d h) : ∀ d', d.length = l.length → d'.length = l'.length → (∀ k, k < l.length → isB d' (σ k) = isB d k) → Ord l' n d' h := by
  induction H with
  | stop e =>
    intro d' h1 h2 h3
    refine .stop (left_iff.2 fun k' hk' hb => ?_)
    rcases W.sur k' hk' with ⟨k, hk, rfl⟩ | q
    · rw [W.fin k hk]
      exact left_iff.1 e k hk (by rw [← h3 k hk]; exact hb)
    · exact q
  | step k hk ha hb t ih =>
    intro d' h1 h2 h3
    obtain ⟨a1, a2⟩ := after_iff.1 ha
    refine .step (σ k) (W.lt k hk) (after_iff.2 ⟨by rw [h3 k hk]; exact a1, fun k' hk' hb' he => ?_⟩) (by rw [W.app k _ hk]; exact hb) ?_
    · rcases W.sur k' hk' with ⟨k2, hk2, rfl⟩ | q
      · rw [W.fin k2 hk2] at he
        have b1 := a2 k2 hk2 (by rw [← h3 k2 hk2]; exact hb') he
        have b2 := W.to k2 hk2 he
        have b3 := W.fr k hk
        omega
      · rw [q] at he; cases he
    · rw [W.app k _ hk]
      refine ih _ (by rw [List.length_set]; exact h1) (by rw [List.length_set]; exact h2) fun j hj => ?_
      rw [isB_set (by rw [h2]; exact W.lt k hk), isB_set (by rw [h1]; exact hk), h3 j hj]
      by_cases e : j = k
      · rw [if_pos (by rw [e]), if_pos e]
      · rw [if_neg (fun q => e (W.inj j k hj hk q)), if_neg e]
theorem isB_fresh (m k : Nat) : isB (List.replicate m false) k = false := by
  unfold isB
  rw [List.getD_eq_getElem?_getD, List.getElem?_replicate]
  split <;> rfl
theorem wide_has {l l' : List Ot} {n : Int} {σ : Nat → Nat} (W : Wide l l' n σ) (H : Ord l n (List.replicate l.length false) []) : Ord l' n (List.replicate l'.length false) [] :=
  H.wide W _ (by simp) (by simp) fun k _ => by rw [isB_fresh, isB_fresh]
/-- two places changed -/
def swp (a b k : Nat) : Nat := if k = b then a else if k = a then b else k
theorem swap_wide {l l' : List Ot} {n : Int} {a b : Nat} (hl : l'.length = l.length) (ha : a < l.length) (hb : b < l.length) (h : ∀ k, k < l.length → l'.getD (swp a b k) nilT = l.getD k nilT) : Wide l l' n (swp a b) where
  lt := fun k hk => by unfold swp; split <;> (try split) <;> omega
  inj := fun j k hj hk e => by unfold swp at e; (repeat' split at e) <;> omega
  sur := fun k' hk' => .inl ⟨swp a b k', by unfold swp; split <;> (try split) <;> omega, by unfold swp; (repeat' split) <;> omega⟩
  app := fun k x hk => by rw [h k hk]
  fin := fun k hk => by rw [h k hk]
  to := fun k hk _ => by rw [h k hk]; exact Int.le_refl _
  fr := fun k hk => by rw [h k hk]; exact Int.le_refl _
end Go.Proofs.YtipnedhclbopdaaDoorR
