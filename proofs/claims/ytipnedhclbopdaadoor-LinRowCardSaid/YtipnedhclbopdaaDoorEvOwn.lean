/- A struct of three slices that are nothing: told as rows without elements. -/
import Derived.Test.YtipnedhclbopdaaDoorEvCln2
set_option linter.unusedSimpArgs false
set_option linter.unusedVariables false
namespace Go.Proofs.YtipnedhclbopdaaDoorEv
open Go
def H3 (es : Nat) : List (Option Blk) := [some (.box [.own 1 es 0 0, .own 2 es 0 0, .own 3 es 0 0]), some (.row []), some (.row []), some (.row [])]
def ownG (es : Nat) (cf : CF) (f : Nat) : List PV → List (Option Blk) → Option (PV × List (Option Blk)) := fun args H =>
  match H, cf f args H with
  | [], some (.ptr 0 0, [some (.box [.nil, .nil, .nil])]) => some (.ptr 0 0, H3 es)
  | _, x => x
theorem own_spec {P : Program} {f es : Nat} {args : List PV} (h : FSpec P f args [] (.ptr 0 0) [some (.box [.nil, .nil, .nil])]) : FSpec P f args [] (.ptr 0 0) (H3 es) := by
  intro w O M F vs hv hI hO
  refine (h w O M F vs hv hI hO).mono ?_
  rintro e w' ⟨v, rfl, O', M', F', k1, k2, k3, k4, k5, k6, k7, k8⟩
  obtain ⟨b, rfl, hO', hlt⟩ := k1.ptr_inv
  have hbox := k2.blk 0 (.box [.nil, .nil, .nil]) rfl
  obtain ⟨b', c, el, fz, q1, q2, q3, q4, q5, q6⟩ := hbox
  have hg : ∀ id B, hget (heapOf 0 (H3 es)) id = some B → id = 0 ∧ B = .box [.own 1 es 0 0, .own 2 es 0 0, .own 3 es 0 0] ∨ id ≠ 0 ∧ B = .row [] := fun id B hB => by
    simp only [H3, heapOf, hget] at hB
    split at hB
    · next e => cases hB; exact .inl ⟨e.symm, rfl⟩
    · next e0 =>
      have hne : id ≠ 0 := fun q => e0 q.symm
      (repeat' split at hB) <;> first | (cases hB; exact .inr ⟨hne, rfl⟩) | cases hB
  refine ⟨_, rfl, fun id => if id = 0 then O' 0 else none, M', F', .ptr (by simpa using hO') hlt, ⟨fun id B hB => ?_, k2.mlt, k2.sub, fun i j b B C hB hC hi hj => ?_⟩, k3, fun id hid => (by cases hid), k5, k6, k7, fun id b B hB hb => ?_⟩
  · rcases hg id B hB with ⟨rfl, rfl⟩ | ⟨hne, rfl⟩
    · refine ⟨b', c, el, fz, by simpa using q1, q2, q3, q4, ?_, q6⟩
      cases hcl : c.toList with
      | nil => rw [hcl] at q5; cases q5
      | cons a l =>
        rw [hcl] at q5
        cases q5 with
        | cons a1 t1 =>
          cases t1 with
          | cons a2 t2 =>
            cases t2 with
            | cons a3 t3 =>
              cases t3
              have e1 := a1.nil_inv; have e2 := a2.nil_inv; have e3 := a3.nil_inv
              subst e1; subst e2; subst e3
              exact .cons (.ownEmpty _ _ _ _) (.cons (.ownEmpty _ _ _ _) (.cons (.ownEmpty _ _ _ _) .nil))
    · exact .inl ⟨rfl, by simp [hne]⟩
  · by_cases e1 : i = 0
    · by_cases e2 : j = 0
      · rw [e1, e2]
      · simp [e2] at hj
    · simp [e1] at hi
  · by_cases e1 : id = 0
    · subst e1
      exact k8 0 b _ rfl (by simpa using hb)
    · simp [e1] at hb
theorem own_ok {P : Program} {f es : Nat} {cf : CF} (hcf : CFok P cf) (args : List PV) (H : List (Option Blk)) (r : PV) (H' : List (Option Blk)) (h : ownG es cf f args H = some (r, H')) : FSpec P f args H r H' := by
  unfold ownG at h
  split at h
  · next hc => cases h; exact own_spec (hcf _ _ _ _ _ hc).2
  · exact (hcf _ _ _ _ _ h).2
end Go.Proofs.YtipnedhclbopdaaDoorEv
