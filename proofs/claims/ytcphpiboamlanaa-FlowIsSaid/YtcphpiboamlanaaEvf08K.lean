/- Evf08K: a part of the proof. -/
import Derived.Test.YtcphpiboamlanaaEvf08J
open Go Go.Proofs.YtcphpiboamlanaaEv Go.Proofs.YtcphpiboamlanaaR Go.IntWalk
set_option maxRecDepth 20000
set_option maxHeartbeats 8000000
set_option linter.unusedVariables false
set_option linter.unusedSimpArgs false
namespace Go.Proofs.YtcphpiboamlanaaR
/-- the thread when all that lead out of a loop lead to its end -/
def killC (d : Int) : List Pr → List Pr → List Pr
  | c, [] => c
  | c, m :: r => killC d (if m.1 = d then resC c m.2.toNat else c) r
def keep (d : Int) (o : List Pr) : List Pr := o.filter (fun p => !(p.1 == d))
/-- each place that leads out lies within -/
def OutOk (n : Nat) (o : List Pr) : Prop := ∀ p, p ∈ o → ∃ k : Nat, p.2 = k ∧ k < n
theorem killC_snoc (d : Int) : ∀ (o c : List Pr) (m : Pr), killC d c (o ++ [m]) = (if m.1 = d then resC (killC d c o) m.2.toNat else killC d c o)
  | [], c, m => rfl
  | x :: o, c, m => killC_snoc d o _ m
theorem killC_len (d : Int) {n : Nat} : ∀ {o : List Pr} (c : List Pr), OutOk n o → c.length = n → (killC d c o).length = n
  | [], c, _, hc => hc
  | x :: o, c, h, hc => by
    obtain ⟨k, ek, hk⟩ := h x (List.mem_cons_self)
    refine killC_len d (o := o) _ (fun p hp => h p (List.mem_cons_of_mem _ hp)) ?_
    split
    · rw [ek, Int.toNat_natCast, resC_len c (by omega), hc]
    · exact hc
theorem killC_none (d : Int) : ∀ (o c : List Pr), (∀ p, p ∈ o → p.1 ≠ d) → killC d c o = c
  | [], c, _ => rfl
  | x :: o, c, h => by
    unfold killC
    rw [if_neg (h x List.mem_cons_self)]
    exact killC_none d o c fun p hp => h p (List.mem_cons_of_mem _ hp)
theorem keep_snoc (d : Int) (o : List Pr) (m : Pr) : keep d (o ++ [m]) = keep d o ++ (if m.1 = d then [] else [m]) := by
  unfold keep
  rw [List.filter_append]
  by_cases h : m.1 = d
  · have h1 : (m.1 == d) = true := beq_iff_eq.2 h
    simp only [if_pos h, List.filter, h1, Bool.not_true]
  · have h1 : (m.1 == d) = false := beq_eq_false_iff_ne.2 h
    simp only [if_neg h, List.filter, h1, Bool.not_false]
theorem keep_all (d : Int) (o : List Pr) (h : ∀ p, p ∈ o → p.1 ≠ d) : keep d o = o := by
  unfold keep
  refine List.filter_eq_self.2 fun p hp => ?_
  have h1 : (p.1 == d) = false := beq_eq_false_iff_ne.2 (h p hp)
  simp only [h1, Bool.not_false]
theorem take_snoc {l : List Pr} {j : Nat} (hj : j < l.length) : l.take (j + 1) = l.take j ++ [l.getD j (0, 0)] := by
  rw [List.take_add_one, List.getD_eq_getElem?_getD, List.getElem?_eq_getElem hj]
  rfl
theorem first_hit (d : Int) : ∀ (o : List Pr), (∀ p, p ∈ o → p.1 ≠ d) ∨ ∃ i, i < o.length ∧ (∀ j, j < i → (o.getD j (0, 0)).1 ≠ d) ∧ (o.getD i (0, 0)).1 = d
  | [] => .inl fun p hp => absurd hp List.not_mem_nil
  | x :: o => by
    by_cases hx : x.1 = d
    · exact .inr ⟨0, by simp, fun j hj => absurd hj (by omega), hx⟩
    · rcases first_hit d o with h | ⟨i, hi, hn, hy⟩
      · refine .inl fun p hp => ?_
        rcases List.mem_cons.1 hp with rfl | hp
        · exact hx
        · exact h p hp
      · refine .inr ⟨i + 1, by simpa using hi, fun j hj => ?_, hy⟩
        cases j with
        | zero => exact hx
        | succ j => exact hn j (by omega)
theorem mem_take_getD {o : List Pr} {i : Nat} {p : Pr} (hi : i ≤ o.length) (hp : p ∈ o.take i) : ∃ j, j < i ∧ o.getD j (0, 0) = p := by
  obtain ⟨j, hj, e⟩ := List.mem_iff_getElem.1 hp
  rw [List.length_take] at hj
  refine ⟨j, by omega, ?_⟩
  rw [← e, List.getElem_take, List.getD_eq_getElem?_getD, List.getElem?_eq_getElem (by omega)]
  rfl
theorem zeros (n : Nat) : (List.replicate n [PV.int .i64 0, .int .i64 0]).flatten = flat encP (List.replicate n ((0, 0) : Pr)) := by
  induction n with
  | zero => rfl
  | succ n ih => rw [List.replicate_succ, List.replicate_succ, List.flatten_cons, ih]; rfl
section
variable {cf : CF} (hcf : cf = ev env)
include hcf
theorem s78n (d : Int) (b : Bd) (rm : List Pr) (hb : Sm b) (hno : ∀ j, j < b.o.length → (b.o.getD j (0, 0)).1 ≠ d) :
    cf 78 [.own 0 2 0 b.o.length, .fn 79 [] [.ptr 1 0, .cp (.ptr 2 0)]] (hD d b b.c rm b.o) = some (.own 0 2 0 b.o.length, hD d b b.c rm b.o) := by
  have h63 := s63n hcf d b rm hb hno
  refine ev_ofC' hcf env78 ?_
  simp only [hD] at h63 ⊢
  conv => arg 2; simp only [ir78]
  conv => arg 3; simp only [ir78, Go.Proofs.YtcphpiboamlanaaEv.start, List.length, Nat.reduceAdd, Nat.reduceSub, List.reduceReplicate, List.append_eq, List.cons_append, List.nil_append]
  conv => arg 4; simp only [heapOf]
  try conv => arg 5; simp only [List.length, Nat.reduceAdd]
  try conv => arg 6; simp only [List.length, Nat.reduceAdd]
  refine EVgo9 trivial (h63) trivial trivial trivial trivial trivial trivial trivial trivial trivial trivial ?_
  exact WQ.ret rfl
end
end Go.Proofs.YtcphpiboamlanaaR
