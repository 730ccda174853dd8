/- slices.Clone of what has no elements: nothing, or a row without elements: the evaluator's words don't tell which. -/
import Derived.Test.YtklanpanmndakaaEv4
set_option linter.unusedSimpArgs false
set_option linter.unusedVariables false
namespace Go.Proofs.YtklanpanmndakaaEv
open Go Go.RowKit
def cloneG (cf : CF) (f : Nat) : List PV → List (Option Blk) → Option (PV × List (Option Blk)) := fun args H =>
  match args, H with
  | [.sl 0 _ _], [] => some (.sl 0 true [], [])
  | a, h => cf f a h
theorem clone_spec {P : Program} {f : Nat} {el : TypeId} (h1 : ∀ cap w, Calls P f #[.slice none 0 cap] w (fun e w' => e = .returned (.slice none 0 0) ∧ w' = w))
    (h2 : ∀ a cap w, Calls P f #[.slice (some a) 0 cap] w (fun e w' => e = .returned (.slice (some ⟨w.heap.size, 0, none⟩) 0 0) ∧ w' = w.alloc (.cells #[] el))) (t : Bool) (xs : List PV) : FSpec P f [.sl 0 t xs] [] (.sl 0 true []) [] := by
  intro w O M F vs hv hI hO
  have fin : ∀ (w' : World) (v : Value), Stp M w w' → w.heap.size ≤ w'.heap.size → VR w' O F (.sl 0 true []) v → ∃ O' M' F', VR w' O' F' (.sl 0 true []) v ∧ Inv w' O' M' F' (heapOf 0 []) ∧ Stp M w w' ∧ (∀ id, id < ([] : List (Option Blk)).length → O' id = O id) ∧
      (∀ b, b < w.heap.size → F' b → F b) ∧ (∀ b, b < w.heap.size → M' b → M b) ∧ (∀ b, F b → ¬ M b → F' b) ∧
      (∀ id b B, hget (heapOf 0 []) id = some B → O' id = some b → w.heap.size ≤ b ∨ ∃ j C, hget (heapOf 0 []) j = some C ∧ O j = some b) := fun w' v hs hl hv =>
    ⟨O, M, F, hv, ⟨fun id B h => (by cases h), fun b hb => Nat.lt_of_lt_of_le (hI.mlt b hb) hl, hI.sub, fun i j b B C h => (by cases h)⟩, hs, fun id h => (by cases h), fun _ _ h => h, fun _ _ h => h, fun _ h _ => h, fun id b B h => (by cases h)⟩
  cases hv with
  | cons hv ht =>
    cases ht
    have key : ∀ base cap, Calls P f #[.slice base 0 cap] w (fun e w' => ∃ v, e = .returned v ∧ Stp M w w' ∧ w.heap.size ≤ w'.heap.size ∧ VR w' O F (.sl 0 true []) v) := fun base cap => by
      cases base with
      | none =>
        refine (h1 cap w).mono fun e w' h => ?_
        obtain ⟨rfl, rfl⟩ := h
        exact ⟨_, rfl, Stp.refl _ _, Nat.le_refl _, .slEmpty none 0 true (fun _ => rfl)⟩
      | some a =>
        refine (h2 a cap w).mono fun e w' h => ?_
        obtain ⟨rfl, rfl⟩ := h
        refine ⟨_, rfl, ⟨by simp, fun b hb _ => Below.heap_alloc _ _ _ hb, fun b hb => ?_, rfl, rfl, rfl⟩, by simp, .slEmpty _ 0 true (fun _ => rfl)⟩
        unfold World.shape?
        rw [Below.heap_alloc _ _ _ hb]
    cases hv with
    | slEmpty base cap tight h => exact (key base cap).mono fun e w' ⟨v, h3, h4, h5, h6⟩ => ⟨v, h3, fin w' v h4 h5 h6⟩
    | sl hm hb h h1 hc ht hl hti => exact (key _ _).mono fun e w' ⟨v, h3, h4, h5, h6⟩ => ⟨v, h3, fin w' v h4 h5 h6⟩
theorem clone_ok {P : Program} {f : Nat} {cf : CF} (hcf : CFok P cf) (hs : ∀ t xs, FSpec P f [.sl 0 t xs] [] (.sl 0 true []) []) (args : List PV) (H : List (Option Blk)) (r : PV) (H' : List (Option Blk)) (h : cloneG cf f args H = some (r, H')) : FSpec P f args H r H' := by
  unfold cloneG at h
  split at h
  · next t xs => cases h; exact hs t xs
  · exact (hcf f args H r H' h).2
/-- an environment, with some of its functions told otherwise -/
theorem envOk_prim {P : Program} {raws : Nat → List Bool} {env : Env} (h : EnvOk P raws env) {f : Nat} {g : List PV → List (Option Blk) → Option (PV × List (Option Blk))} (hc : Callable P f) (hg : ∀ args H r H', g args H = some (r, H') → FSpec P f args H r H') : EnvOk P raws (fun n => if n = f then some (.prim g) else env n) := fun n d hd => by
  simp only at hd
  split at hd
  · next e => cases hd; subst e; exact ⟨hc, hg⟩
  · exact h n d hd
end Go.Proofs.YtklanpanmndakaaEv
