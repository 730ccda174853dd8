/- Plain laws of a played queue. -/
import Derived.Test.YtoihpjpgihhcjaaEvf16F3
open Go Go.Proofs.YtoihpjpgihhcjaaEv Go.Proofs.YtoihpjpgihhcjaaR Go.IntWalk
set_option linter.unusedVariables false
set_option linter.unusedSimpArgs false
namespace Go.Proofs.YtoihpjpgihhcjaaR
def updB (c : Nat → Bool) (k : Nat) (v : Bool) (j : Nat) : Bool := if j = k then v else c j
def cntC (c : Nat → Bool) : Nat → Nat
  | 0 => 0
  | k + 1 => cntC c k + if c k = true then 1 else 0
theorem cntC_len (c : Nat → Bool) : ∀ k, cntC c k = ((List.range k).filter c).length
  | 0 => rfl
  | k + 1 => by
    rw [List.range_succ, List.filter_append, List.length_append, ← cntC_len c k]
    show cntC c k + (if c k = true then 1 else 0) = cntC c k + ([k].filter c).length
    cases h : c k with
    | true => rw [if_pos rfl, List.filter_cons_of_pos h]; rfl
    | false => rw [if_neg (by simp), List.filter_cons_of_neg (by rw [h]; simp)]; rfl
structure Ply (n : Nat) (nx : Int) (a : List It) (c : Nat → Bool) : Prop where
  fit : Fit nx a
  cs : ∀ j : Nat, c j = hasI (ids a) (j : Int)
  le : nx ≤ n
theorem mem_ids {l : List It} {i : Int} : i ∈ ids l ↔ ∃ x ∈ l, x.1 = i := by unfold ids; rw [List.mem_map]
theorem Ply.cnt {n : Nat} {nx : Int} {a : List It} {c : Nat → Bool} (h : Ply n nx a c) : cntC c 8 = a.length := by
  have hn2 : (ids a).Nodup := by unfold ids; exact List.pairwise_map.2 h.fit.idn
  have hn1 : (((List.range 8).filter c).map fun j : Nat => (j : Int)).Nodup := List.pairwise_map.2 ((List.Pairwise.filter c List.nodup_range).imp fun h e => h (by omega))
  have l1 : (((List.range 8).filter c).map fun j : Nat => (j : Int)).length = cntC c 8 := by rw [List.length_map, cntC_len]
  have l2 : (ids a).length = a.length := by unfold ids; simp
  have s1 := List.Nodup.length_le_of_subset hn1 (l₂ := ids a) fun i hi => by
    obtain ⟨j, hj, rfl⟩ := List.mem_map.1 hi
    have := (List.mem_filter.1 hj).2
    rw [h.cs, hasI_iff] at this
    exact this
  have s2 := List.Nodup.length_le_of_subset hn2 (l₂ := ((List.range 8).filter c).map fun j : Nat => (j : Int)) fun i hi => by
    obtain ⟨x, hx, rfl⟩ := mem_ids.1 hi
    have hm := (may_iff.1 (h.fit.may x hx)).1
    refine List.mem_map.2 ⟨x.1.toNat, List.mem_filter.2 ⟨List.mem_range.2 (by omega), ?_⟩, by omega⟩
    rw [h.cs, hasI_iff, Int.toNat_of_nonneg hm.1]
    exact hi
  omega
theorem Ply.put {n : Nat} {nx : Int} {a : List It} {c : Nat → Bool} {k p : Nat} (h : Ply n nx a c) (hk : k ≤ 7) (hp : p ≤ 3) (hn : n ≤ 200) : ∃ nx' a' b, putQ (nx, a) (k : Int) (p : Int) = ((nx', a'), b) ∧ (b == c k) = false ∧ Ply (n + 1) nx' a' (updB c k true) := by
  have h0 := h.fit.n0
  have h1 := h.le
  cases hc : c k with
  | true =>
    have hi : (k : Int) ∈ ids a := by rw [← hasI_iff, ← h.cs]; exact hc
    obtain ⟨x, hx, e⟩ := mem_ids.1 hi
    refine ⟨nx, a, false, put_no h.fit fun q => q.no x hx e, rfl, h.fit, fun j => ?_, by omega⟩
    unfold updB
    split
    · next e => rw [e, ← h.cs]; exact hc.symm
    · exact h.cs j
  | false =>
    have hi : ∀ y ∈ a, y.1 ≠ (k : Int) := fun y hy e => by
      have := h.cs k
      rw [hc] at this
      exact hasI_no.1 this.symm (mem_ids.2 ⟨y, hy, e⟩)
    have ho : PutOk nx a (k : Int) (p : Int) := ⟨may_iff.2 (by simp only; omega), hi, by omega⟩
    refine ⟨_, _, true, (put_ok h.fit ho).1, rfl, (put_ok h.fit ho).2, fun j => ?_, by omega⟩
    unfold updB
    rw [Bool.eq_iff_iff, hasI_iff, mem_ids]
    split
    · next e => exact ⟨fun _ => ⟨_, mem_insX.2 (.inl rfl), by rw [e]⟩, fun _ => rfl⟩
    · next e =>
      rw [h.cs, hasI_iff, mem_ids]
      constructor
      · rintro ⟨y, hy, e⟩; exact ⟨y, mem_insX.2 (.inr hy), e⟩
      · rintro ⟨y, hy, e2⟩
        rcases mem_insX.1 hy with rfl | hy
        · simp only at e2; omega
        · exact ⟨y, hy, e2⟩
theorem mem_delK {l : List It} {k : Nat} (hi : l.Pairwise fun a b => a.1 ≠ b.1) (hk : k < l.length) {y : It} : y ∈ delK l k ↔ y ∈ l ∧ y.1 ≠ (l.getD k nilX).1 := by
  have e : l.take k ++ l.getD k nilX :: l.drop (k + 1) = l := by
    have e2 := List.drop_eq_getElem_cons hk
    rw [List.getD_eq_getElem?_getD, List.getElem?_eq_getElem hk, Option.getD_some, ← e2, List.take_append_drop]
  generalize l.getD k nilX = x at *
  unfold delK
  generalize l.take k = A at *
  generalize l.drop (k + 1) = B at *
  subst e
  have hp := List.pairwise_append.1 hi
  have hq := List.pairwise_cons.1 hp.2.1
  constructor
  · intro h
    rcases List.mem_append.1 h with h | h
    · exact ⟨List.mem_append_left _ h, hp.2.2 y h x List.mem_cons_self⟩
    · exact ⟨List.mem_append_right _ (List.mem_cons_of_mem _ h), (hq.1 y h).symm⟩
  · rintro ⟨h, hne⟩
    rcases List.mem_append.1 h with h | h
    · exact List.mem_append_left _ h
    · rcases List.mem_cons.1 h with rfl | h
      · exact absurd rfl hne
      · exact List.mem_append_right _ h
theorem Ply.drop {n : Nat} {nx : Int} {a : List It} {c : Nat → Bool} {k : Nat} (h : Ply n nx a c) : ∃ a', dropQ (nx, a) (k : Int) = ((nx, a'), c k) ∧ Ply (n + 1) nx a' (updB c k false) := by
  have h1 := h.le
  have hck := h.cs k
  unfold dropQ
  rw [saneQ_id (q := (nx, a)) h.fit]
  simp only
  rcases ix_first (k : Int) a 0 with ⟨e, hn⟩ | ⟨j, hj, e1, _, e⟩
  · rw [e, if_pos (by decide)]
    have : hasI (ids a) (k : Int) = false := hasI_no.2 fun q => by
      obtain ⟨x, hx, e⟩ := mem_ids.1 q
      exact hn x hx e
    rw [this] at hck
    refine ⟨a, by rw [hck], h.fit, fun i => ?_, by omega⟩
    unfold updB
    split
    · next e => rw [e, this]
    · exact h.cs i
  · rw [e, if_neg (by omega), Nat.zero_add, Int.toNat_natCast]
    have : hasI (ids a) (k : Int) = true := hasI_iff.2 (mem_ids.2 ⟨_, getD_mem hj, e1⟩)
    rw [this] at hck
    refine ⟨delK a j, by rw [hck], h.fit.sub (delK_sub a j), fun i => ?_, by omega⟩
    unfold updB
    rw [Bool.eq_iff_iff, hasI_iff, mem_ids]
    split
    · next e =>
      constructor
      · intro q; cases q
      · rintro ⟨y, hy, e2⟩
        have := ((mem_delK h.fit.idn hj).1 hy).2
        rw [e1, e2, e] at this
        exact absurd rfl this
    · next e =>
      rw [h.cs, hasI_iff, mem_ids]
      constructor
      · rintro ⟨y, hy, e2⟩; exact ⟨y, (mem_delK h.fit.idn hj).2 ⟨hy, by rw [e1, e2]; omega⟩, e2⟩
      · rintro ⟨y, hy, e2⟩; exact ⟨y, ((mem_delK h.fit.idn hj).1 hy).1, e2⟩
theorem Ply.take {n : Nat} {nx : Int} {a : List It} {c : Nat → Bool} (h : Ply n nx a c) : (∃ a', nthQ (nx, a) 0 = ((nx, a'), 0, false) ∧ Ply (n + 1) nx a' c) ∨ ∃ m kx, nthQ (nx, a) 0 = ((nx, m), ((kx : Nat) : Int), true) ∧ kx < 8 ∧ c kx = true ∧ Ply (n + 1) nx m (updB c kx false) := by
  have h1 := h.le
  unfold nthQ
  rw [saneQ_id (q := (nx, a)) h.fit]
  simp only
  cases a with
  | nil => exact .inl ⟨[], if_pos rfl, h.fit, h.cs, by omega⟩
  | cons x m =>
    right
    rw [if_neg (by simp), show (0 : Int).toNat % (x :: m).length = 0 from Nat.zero_mod _]
    have hm := (may_iff.1 (h.fit.may x List.mem_cons_self)).1
    have hx : x.1 = ((x.1.toNat : Nat) : Int) := by omega
    have hid := List.pairwise_cons.1 h.fit.idn
    refine ⟨m, x.1.toNat, by rw [← hx]; rfl, by omega, ?_, h.fit.sub (List.sublist_cons_self _ _), fun i => ?_, by omega⟩
    · rw [h.cs, hasI_iff, ← hx]
      exact mem_ids.2 ⟨x, List.mem_cons_self, rfl⟩
    · unfold updB
      rw [Bool.eq_iff_iff, hasI_iff, mem_ids]
      split
      · next e =>
        constructor
        · intro q; cases q
        · rintro ⟨y, hy, e2⟩
          have := hid.1 y hy
          rw [e2, e] at this
          exact absurd hx this
      · next e =>
        rw [h.cs, hasI_iff, mem_ids]
        constructor
        · rintro ⟨y, hy, e2⟩
          rcases List.mem_cons.1 hy with rfl | hy
          · omega
          · exact ⟨y, hy, e2⟩
        · rintro ⟨y, hy, e2⟩; exact ⟨y, List.mem_cons_of_mem _ hy, e2⟩
end Go.Proofs.YtoihpjpgihhcjaaR
