/- slices.Insert, slices.Delete as prims of the evaluator. -/
import Derived.Test.YtoihpjpgihhcjaaEvf16A3
open Go Go.Proofs.YtoihpjpgihhcjaaEv Go.RowKit Go.Shelf Go.Proofs Go.Lib
set_option linter.unusedVariables false
set_option linter.unusedSimpArgs false
namespace Go.Proofs.YtoihpjpgihhcjaaR
section
variable {w w' : World} {O : Nat → Option Nat} {M F : Nat → Prop} {cs xs : List PV}
/-- a row that is now elsewhere, or is what it was with other cells -/
theorem ins_post (hI : Inv w O M F (heapOf 0 [some (.row cs), some (.row xs)])) (hO : ∀ id, 2 ≤ id → O id = none) {N n cap : Nat} {c2 : Array Value} {el : TypeId} {fz : Nat × Nat} {ys : List PV} {vals : List Value}
    (hN : w'.heap[N]? = some (.cells c2 el fz)) (hfz : unfroz fz c2.size) (hcap : n ≤ cap) (hsz : cap * 3 ≤ c2.size) (hv : VRs w O F ys vals) (h1 : ∀ v ∈ vals, v.oneCell' = true) (hc : closedL ys = true) (hp : vals <+: c2.toList)
    (hcase : (w.heap.size ≤ N ∧ Stp (fun _ => False) w w') ∨ (O 0 = some N ∧ M N ∧ Stp (fun x => x = N) w w')) :
    ∃ O' M' F', VR w' O' F' (.own 2 3 0 n) (.slice (some ⟨N, 0, none⟩) n cap) ∧ Inv w' O' M' F' (heapOf 0 [none, some (.row xs), some (.row ys)]) ∧ Stp M w w' ∧ (∀ id, id < 2 → O' id = O id) ∧
      (∀ b, b < w.heap.size → F' b → F b) ∧ (∀ b, b < w.heap.size → M' b → M b) ∧ (∀ b, F b → ¬ M b → F' b) ∧
      (∀ id b B, hget (heapOf 0 [none, some (.row xs), some (.row ys)]) id = some B → O' id = some b → w.heap.size ≤ b ∨ ∃ j C, hget (heapOf 0 [some (.row cs), some (.row xs)]) j = some C ∧ O j = some b) := by
  have hst : Stp M w w' := by
    rcases hcase with ⟨_, h⟩ | ⟨_, h2, h⟩
    · exact h.mono fun _ _ q => q.elim
    · exact h.mono fun x _ q => q ▸ h2
  have hX : ∃ X : Nat → Prop, Stp X w w' ∧ (∀ b, X b → F b) ∧ (∀ b, X b → O 0 = some b ∧ b = N) := by
    rcases hcase with ⟨_, h⟩ | ⟨h1, h2, h⟩
    · exact ⟨_, h, fun _ q => q.elim, fun _ q => q.elim⟩
    · exact ⟨_, h, fun b q => by subst q; exact hI.sub _ h2, fun b q => by subst q; exact ⟨h1, rfl⟩⟩
  obtain ⟨X, hXs, hXF, hXO⟩ := hX
  have hNF : N < w.heap.size → F N ∧ M N := fun hlt => by
    rcases hcase with ⟨h, _⟩ | ⟨_, h2, _⟩
    · omega
    · exact ⟨hI.sub _ h2, h2⟩
  have hg0 : hget (heapOf 0 [some (Blk.row cs), some (Blk.row xs)]) 0 = some (.row cs) := rfl
  have hg1 : hget (heapOf 0 [some (Blk.row cs), some (Blk.row xs)]) 1 = some (.row xs) := rfl
  have hext : ∀ id b, O id = some b → putO O 2 N id = some b := fun id b q => by
    unfold putO; split
    · next e => subst e; rw [hO 2 (Nat.le_refl _)] at q; cases q
    · exact q
  have hne : ∀ b, O 1 = some b → b ≠ N := fun b hb e => by
    subst e
    rcases hcase with ⟨h, _⟩ | ⟨h0, _, _⟩
    · rcases hI.blk 1 _ hg1 with ⟨_, q⟩ | ⟨b', c, el', fz', vs, q1, q2, q3, _⟩
      · rw [hb] at q; cases q
      · rw [hb] at q1; cases q1
        have := heap_lt q3
        omega
    · exact absurd (hI.inj 0 1 _ _ _ hg0 hg1 h0 hb) (by decide)
  have hkeys : ∀ id B, hget (heapOf 0 [none, some (Blk.row xs), some (Blk.row ys)]) id = some B → (id = 1 ∧ B = .row xs) ∨ (id = 2 ∧ B = .row ys) := fun id B hB => by
    rw [hget_heapOf] at hB
    match id, hB with
    | 0, hB => simp at hB
    | 1, hB => simp at hB; exact .inl ⟨rfl, hB.symm⟩
    | 2, hB => simp at hB; exact .inr ⟨rfl, hB.symm⟩
    | n + 3, hB => simp at hB
  refine ⟨putO O 2 N, fun b => M b ∨ b = N, fun b => F b ∨ b = N, .own (by simp [putO]) (shape_of hN) hcap (by omega), ⟨?_, ?_, ?_, ?_⟩, hst, ?_, ?_, ?_, fun b h _ => .inl h, ?_⟩
  · intro id B hB
    rcases hkeys id B hB with ⟨rfl, rfl⟩ | ⟨rfl, rfl⟩
    · exact BR.step hXs hXF hext (fun b hb q => by
        rcases q with q | q
        · exact q
        · subst q; exact (hNF hb).1) (fun b hb => ⟨fun q => hne b hb (hXO b q).2, fun q => .inl q⟩) (fun e => by unfold putO; rw [if_neg (by decide)]; exact e) (hI.blk 1 _ hg1)
    · exact .inr ⟨N, c2, el, fz, vals, by simp [putO], .inr rfl, hN, hfz, VRs.step (M := F) (hst.mono fun b _ q => hI.sub b q) hext (fun b hb q => by
        rcases q with q | q
        · exact q
        · subst q; exact (hNF hb).1) hv, h1, hc, hp⟩
  · intro b hb
    rcases hb with hb | rfl
    · exact Nat.lt_of_lt_of_le (hI.mlt b hb) hst.size
    · exact heap_lt hN
  · intro b hb
    rcases hb with hb | hb
    · exact .inl (hI.sub b hb)
    · exact .inr hb
  · intro i j b B C hB hC hi hj
    rcases hkeys i B hB with ⟨rfl, rfl⟩ | ⟨rfl, rfl⟩ <;> rcases hkeys j C hC with ⟨rfl, rfl⟩ | ⟨rfl, rfl⟩
    · rfl
    · have e1 : O 1 = some b := by simpa [putO] using hi
      have e2 : N = b := by simpa [putO] using hj
      exact absurd e2.symm (hne b e1)
    · have e1 : O 1 = some b := by simpa [putO] using hj
      have e2 : N = b := by simpa [putO] using hi
      exact absurd e2.symm (hne b e1)
    · rfl
  · intro id hid
    unfold putO
    rw [if_neg (by omega)]
  · intro b hb q
    rcases q with q | rfl
    · exact q
    · exact (hNF hb).1
  · intro b hb q
    rcases q with q | rfl
    · exact q
    · exact (hNF hb).2
  · intro id b B hB hb
    rcases hkeys id B hB with ⟨rfl, rfl⟩ | ⟨rfl, rfl⟩
    · exact .inr ⟨1, _, hg1, by simpa [putO] using hb⟩
    · have e2 : N = b := by simpa [putO] using hb
      subst e2
      rcases hcase with ⟨h, _⟩ | ⟨h0, _, _⟩
      · exact .inl h
      · exact .inr ⟨0, _, hg0, h0⟩
end
def insG : List PV → List (Option Blk) → Option (PV × List (Option Blk)) := fun args H =>
  match args, H with
  | [.own 0 3 0 n, .int .i64 i, .own 1 3 0 1], [some (.row cs), some (.row xs)] =>
    if 0 ≤ i ∧ i.toNat ≤ n ∧ n ≤ 1000000 ∧ cs.length = n * 3 ∧ xs.length = 3 then
      some (.own 2 3 0 (n + 1), [none, some (.row xs), some (.row (cs.take (i.toNat * 3) ++ xs ++ cs.drop (i.toNat * 3)))])
    else none
  | _, _ => none
theorem frozen_of {w : World} {b : Nat} {c : Array Value} {el : TypeId} {fz : Nat × Nat} (h : w.heap[b]? = some (.cells c el fz)) (hu : unfroz fz c.size) (j : Nat) (hj : j < c.size) : w.frozen? ⟨b, j, none⟩ = false := by
  have := (there_of h hu 0 c.size (by omega) j hj).2
  simpa using this
theorem alloc_heap (w : World) (ob : Obj) : (w.drew.alloc ob).heap = w.heap.push ob := rfl
theorem stp_alloc (w : World) (ob : Obj) : Stp (fun _ => False) w (w.drew.alloc ob) := Stp.push rfl rfl rfl rfl
end Go.Proofs.YtoihpjpgihhcjaaR
