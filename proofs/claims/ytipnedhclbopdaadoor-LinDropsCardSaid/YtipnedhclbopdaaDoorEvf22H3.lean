/- LinDrops: what has not come to its end may be left out. -/
import Derived.Test.YtipnedhclbopdaaDoorEvf22G4
import Derived.Test.YtipnedhclbopdaaDoorEvf22H1
open Go Go.Proofs.YtipnedhclbopdaaDoorEv Go.Proofs.YtipnedhclbopdaaDoorR Go.IntWalk Go.Proofs
set_option maxRecDepth 20000
set_option linter.unusedVariables false
set_option linter.unusedSimpArgs false
namespace Go.Proofs.YtipnedhclbopdaaDoorR
theorem getD_app {l : List Ot} {x : Ot} {k : Nat} (hk : k < l.length) : (l ++ [x]).getD k nilT = l.getD k nilT := by
  rw [List.getD_eq_getElem?_getD, List.getElem?_append_left hk, List.getD_eq_getElem?_getD]
theorem getD_last {l : List Ot} {x : Ot} : (l ++ [x]).getD l.length nilT = x := by
  simp [List.getD]
theorem getD_take {l : List Ot} {m k : Nat} (hk : k < m) : (l.take m).getD k nilT = l.getD k nilT := by
  rw [List.getD_eq_getElem?_getD, List.getElem?_take_of_lt hk, List.getD_eq_getElem?_getD]
theorem add_wide {l : List Ot} {n : Int} {x : Ot} (hx : endT x = false) : Wide l (l ++ [x]) n id where
  lt := fun k hk => by
    show k < (l ++ [x]).length
    rw [snoc_len]; omega
  inj := fun j k _ _ e => e
  sur := fun k' hk' => by
    rw [snoc_len] at hk'
    rcases Nat.lt_or_ge k' l.length with h | h
    · exact .inl ⟨k', h, rfl⟩
    · have e : k' = l.length := by omega
      subst e
      rw [getD_last]
      exact .inr hx
  app := fun k h hk => by show applyT h ((l ++ [x]).getD k nilT) n = _; rw [getD_app hk]
  fin := fun k hk => by show endT ((l ++ [x]).getD k nilT) = _; rw [getD_app hk]
  to := fun k hk _ => by show _ ≤ toT ((l ++ [x]).getD k nilT); rw [getD_app hk]; exact Int.le_refl _
  fr := fun k hk => by show fromT ((l ++ [x]).getD k nilT) ≤ _; rw [getD_app hk]; exact Int.le_refl _
theorem lin_add {l : List Ot} {n : Int} {o : Ot} (h7 : l.length ≤ 7) (h : linT l n = 1) : linT (l ++ [unend o]) n = 1 :=
  (lin_iff (by rw [snoc_len]; omega)).2 (wide_has (add_wide rfl) ((lin_iff (by omega)).1 h))
theorem drop_ord {l : List Ot} {n : Int} {m : Nat} (hm : l.length = m + 1) (hb : ∀ k, k < m → toT (l.getD k nilT) < fromT (l.getD m nilT) ∧ 0 ≤ toT (l.getD k nilT)) {d : List Bool} {h : List Int} (H : Ord l n d h) :
    d.length = l.length → (isB d m = true → ∀ k, k < m → isB d k = true) → ∀ d', d'.length = m → (∀ k, k < m → isB d' k = isB d k) → Ord (l.take m) n d' h := by
  have hlt : (l.take m).length = m := by simp; omega
  have he : ∀ k, k < m → endT (l.getD k nilT) = true := fun k hk => decide_eq_true (hb k hk).2
  induction H with
  | stop e =>
    intro h1 h2 d' h3 h4
    refine .stop (left_iff.2 fun k hk hb' => ?_)
    rw [hlt] at hk
    rw [getD_take hk]
    exact left_iff.1 e k (by omega) (by rw [← h4 k hk]; exact hb')
  | step k hk ha hb2 t ih =>
    intro h1 h2 d' h3 h4
    obtain ⟨a1, a2⟩ := after_iff.1 ha
    rcases Nat.lt_or_ge k m with hkm | hkm
    · refine .step k (by omega) (after_iff.2 ⟨by rw [h4 k hkm]; exact a1, fun j hj hb' he' => ?_⟩) (by rw [getD_take hkm]; exact hb2) ?_
      · rw [hlt] at hj
        rw [getD_take hj] at he' ⊢
        rw [getD_take hkm]
        exact a2 j (by omega) (by rw [← h4 j hj]; exact hb') he'
      · rw [getD_take hkm]
        refine ih (by rw [List.length_set]; exact h1) (fun q j hj => ?_) _ (by rw [List.length_set]; exact h3) (fun j hj => ?_)
        · rw [isB_set (by omega), if_neg (by omega)] at q
          rw [h2 q k hkm] at a1
          cases a1
        · rw [isB_set (by omega), isB_set (by omega), h4 j hj]
    · have e : k = m := by omega
      subst e
      refine .stop (left_iff.2 fun j hj hb' => ?_)
      rw [hlt] at hj
      have := a2 j (by omega) (by rw [← h4 j hj]; exact hb') (he j hj)
      exact absurd (hb j hj).1 this
theorem lin_drop {l : List Ot} {n : Int} (h7 : l.length ≤ 7) (h0 : 0 < l.length) (h : linT l n = 1) (hb : ∀ x ∈ l.take (l.length - 1), behind (l.getD (l.length - 1) nilT) x) : linT (l.take (l.length - 1)) n = 1 := by
  obtain ⟨m, hm⟩ : ∃ m, l.length = m + 1 := ⟨l.length - 1, by omega⟩
  have hm1 : l.length - 1 = m := by omega
  rw [hm1] at hb ⊢
  have hlt : (l.take m).length = m := by simp; omega
  refine (lin_iff (by omega)).2 ?_
  have H := (lin_iff (by omega)).1 h
  unfold HasO fresh at *
  rw [hlt]
  refine drop_ord hm (fun k hk => ?_) H (by simp) (fun q => by rw [isB_fresh] at q; cases q) _ (by simp) (fun k _ => by rw [isB_fresh, isB_fresh])
  have hmem : l.getD k nilT ∈ l.take m := by
    rw [← getD_take hk]
    exact mem_getD (by omega)
  have := hb _ hmem
  exact ⟨this.1, this.2.1⟩
end Go.Proofs.YtipnedhclbopdaaDoorR
