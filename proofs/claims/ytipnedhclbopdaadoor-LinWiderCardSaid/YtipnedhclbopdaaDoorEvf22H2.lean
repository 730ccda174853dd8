/- LinWider: what overlaps more has no fewer orders. -/
import Derived.Test.YtipnedhclbopdaaDoorEvf22G3
import Derived.Test.YtipnedhclbopdaaDoorEvf22H1
open Go Go.Proofs.YtipnedhclbopdaaDoorEv Go.Proofs.YtipnedhclbopdaaDoorR Go.IntWalk Go.Proofs
set_option maxRecDepth 20000
set_option linter.unusedVariables false
set_option linter.unusedSimpArgs false
namespace Go.Proofs.YtipnedhclbopdaaDoorR
theorem apply_congr {x y : Ot} (h1 : kindT x = kindT y) (h2 : argT x = argT y) (h3 : resT x = resT y) (h4 : okT x = okT y) (h5 : endT x = endT y) (h : List Int) (n : Int) : applyT h x n = applyT h y n := by
  unfold applyT addT takeT
  rw [h1, h2, h3, h4, h5]
theorem wide_end (x : Ot) (d : Nat) : endT (wideT x d) = endT x := by
  show decide (0 ≤ (if 0 ≤ toT x then toT x + (d : Int) else toT x)) = decide (0 ≤ toT x)
  split
  · next h => rw [decide_eq_true h, decide_eq_true (by omega)]
  · rfl
theorem set_wide {l : List Ot} {n : Int} {a d : Nat} (ha : a < l.length) : Wide l (l.set a (wideT (l.getD a nilT) d)) n id where
  lt := fun k hk => by simpa using hk
  inj := fun j k _ _ e => e
  sur := fun k' hk' => .inl ⟨k', by simpa using hk', rfl⟩
  app := fun k h hk => by
    show applyT h ((l.set a _).getD k nilT) n = _
    rw [getD_set ha]
    split
    · next e => subst e; exact apply_congr (x := wideT (l.getD k nilT) d) (y := l.getD k nilT) rfl rfl rfl rfl (wide_end _ _) h n
    · rfl
  fin := fun k hk => by
    show endT ((l.set a _).getD k nilT) = _
    rw [getD_set ha]
    split
    · next e => subst e; exact wide_end _ _
    · rfl
  to := fun k hk he => by
    show _ ≤ toT ((l.set a _).getD k nilT)
    rw [getD_set ha]
    split
    · next e =>
      subst e
      show _ ≤ (if 0 ≤ toT (l.getD k nilT) then toT (l.getD k nilT) + (d : Int) else toT (l.getD k nilT))
      split <;> omega
    · exact Int.le_refl _
  fr := fun k hk => by
    show fromT ((l.set a _).getD k nilT) ≤ _
    rw [getD_set ha]
    split
    · next e =>
      subst e
      show fromT (l.getD k nilT) - (d : Int) ≤ _
      omega
    · exact Int.le_refl _
theorem lin_wide {l : List Ot} {n : Int} {a d : Nat} (ha : a < l.length) (h8 : l.length ≤ 8) (h : linT l n = 1) : linT (l.set a (wideT (l.getD a nilT) d)) n = 1 :=
  (lin_iff (by simpa using h8)).2 (wide_has (set_wide ha) ((lin_iff h8).1 h))
end Go.Proofs.YtipnedhclbopdaaDoorR
