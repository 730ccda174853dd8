/- slices.Clone of what has no elements: a row without elements. -/
import Derived.Test.YtipnedhclbopdaaDoorEv4
set_option linter.unusedSimpArgs false
set_option linter.unusedVariables false
namespace Go.Proofs.YtipnedhclbopdaaDoorEv
open Go Go.RowKit
def cloneG (es : Nat) (cf : CF) (f : Nat) : List PV → List (Option Blk) → Option (PV × List (Option Blk)) := fun args H =>
  match args, H with
  | [.sl 0 _ _], [] => some (.own 0 es 0 0, [some (.row [])])
  | [.nil], [] => some (.own 0 es 0 0, [some (.row [])])
  | a, h => cf f a h
section
variable {P : Program} {f : Nat} {el : TypeId} (h1 : ∀ cap w, Calls P f #[.slice none 0 cap] w (fun e w' => e = .returned (.slice none 0 0) ∧ w' = w))
    (h2 : ∀ a cap w, Calls P f #[.slice (some a) 0 cap] w (fun e w' => e = .returned (.slice (some ⟨w.heap.size, 0, none⟩) 0 0) ∧ w' = w.alloc (.cells #[] el)))
include h1 h2
theorem clone_spec0 {es : Nat} {v : PV} (hv0 : ∀ w O F c, VR w O F v c → ∃ base cap, c = .slice base 0 cap) : FSpec P f [v] [] (.own 0 es 0 0) [some (.row [])] := by
  intro w O M F vs hv hI hO
  have hg0 : ∀ id B, hget (heapOf 0 [some (.row [])]) id = some B → id = 0 ∧ B = .row [] := fun id B h => by
    simp only [heapOf, hget] at h
    split at h
    · next e => cases h; exact ⟨e.symm, rfl⟩
    · cases h
  have fin : ∀ (w' : World) (base : Option Addr), Stp M w w' → w.heap.size ≤ w'.heap.size → ∃ O' M' F', VR w' O' F' (.own 0 es 0 0) (.slice base 0 0) ∧ Inv w' O' M' F' (heapOf 0 [some (.row [])]) ∧ Stp M w w' ∧ (∀ id, id < ([] : List (Option Blk)).length → O' id = O id) ∧
      (∀ b, b < w.heap.size → F' b → F b) ∧ (∀ b, b < w.heap.size → M' b → M b) ∧ (∀ b, F b → ¬ M b → F' b) ∧
      (∀ id b B, hget (heapOf 0 [some (.row [])]) id = some B → O' id = some b → w.heap.size ≤ b ∨ ∃ j C, hget (heapOf 0 []) j = some C ∧ O j = some b) := fun w' base hs hl =>
    ⟨fun _ => none, M, F, .ownEmpty _ _ _ _, ⟨fun id B h => by obtain ⟨rfl, rfl⟩ := hg0 id B h; exact .inl ⟨rfl, rfl⟩, hI.mlt.same hs hI.sub, hI.sub, fun i j b B C _ _ h => by cases h⟩, hs, fun id h => (by cases h), fun _ _ h => h, fun _ _ h => h, fun _ h _ => h, fun id b B _ h => by cases h⟩
  cases hv with
  | cons hv ht =>
    cases ht
    obtain ⟨base, cap, rfl⟩ := hv0 _ _ _ _ hv
    cases base with
    | none =>
      refine (h1 cap w).mono fun e w' h => ?_
      obtain ⟨rfl, rfl⟩ := h
      exact ⟨_, rfl, fin _ _ (Stp.refl _ _) (Nat.le_refl _)⟩
    | some a =>
      refine (h2 a cap w).mono fun e w' h => ?_
      obtain ⟨rfl, rfl⟩ := h
      refine ⟨_, rfl, fin _ _ ⟨by simp, fun b hb _ => Below.heap_alloc _ _ _ hb, fun b hb => ?_, rfl, rfl, rfl⟩ (by simp)⟩
      unfold World.shape?
      rw [Below.heap_alloc _ _ _ hb]
theorem clone_ok {es : Nat} {cf : CF} (hcf : CFok P cf) (args : List PV) (H : List (Option Blk)) (r : PV) (H' : List (Option Blk)) (h : cloneG es cf f args H = some (r, H')) : FSpec P f args H r H' := by
  unfold cloneG at h
  split at h
  · next t xs =>
    cases h
    exact clone_spec0 h1 h2 fun w O F c hv => by cases hv <;> exact ⟨_, _, rfl⟩
  · cases h
    exact clone_spec0 h1 h2 fun w O F c hv => by cases hv; exact ⟨_, _, rfl⟩
  · exact (hcf f args H r H' h).2
end
/-- an environment, with some of its functions told otherwise -/
theorem envOk_prim {P : Program} {raws : Nat → List Bool} {env : Env} (h : EnvOk P raws env) {f : Nat} {g : List PV → List (Option Blk) → Option (PV × List (Option Blk))} (hc : Callable P f) (hg : ∀ args H r H', g args H = some (r, H') → FSpec P f args H r H') : EnvOk P raws (fun n => if n = f then some (.prim g) else env n) := fun n d hd => by
  simp only at hd
  split at hd
  · next e => cases hd; subst e; exact ⟨hc, hg⟩
  · exact h n d hd
end Go.Proofs.YtipnedhclbopdaaDoorEv
