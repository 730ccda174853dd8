/- Evf08PB: a part of the proof. -/
import Derived.Test.YtcphpiboamlanaaEvf08PA
open Go Go.Proofs.YtcphpiboamlanaaEv Go.Proofs.YtcphpiboamlanaaR Go.IntWalk
set_option maxRecDepth 20000
set_option maxHeartbeats 8000000
set_option linter.unusedVariables false
set_option linter.unusedSimpArgs false
namespace Go.Proofs.YtcphpiboamlanaaR
def kindsB (b : Bd) : List Int := b.m.map Prod.fst
theorem top_kinds {m : List Pr} {K : List Int} {k : Int} (h : m.map Prod.fst = K ++ [k]) : (topP m 0 k).2 = true ∧ (m.take (m.length - 1)).map Prod.fst = K := by
  have hl : m.length = K.length + 1 := by
    have := congrArg List.length h
    simpa using this
  have e : m.length - 1 = K.length := by omega
  refine ⟨?_, ?_⟩
  · have q : (m.getD (m.length - 1 - 0) (0, 0)).1 = k := by
      have hi : m.length - 1 - 0 < m.length := by omega
      have w : (m.map Prod.fst)[m.length - 1 - 0]? = some k := by
        rw [h, Nat.sub_zero, e, List.getElem?_append_right (Nat.le_refl _), Nat.sub_self]
        rfl
      rw [List.getElem?_map, List.getElem?_eq_getElem hi] at w
      rw [List.getD_eq_getElem?_getD, List.getElem?_eq_getElem hi]
      simpa using w
    unfold topP
    rw [if_pos ⟨by omega, q⟩]
  · rw [List.map_take, h, e]
    exact List.take_left' rfl
theorem top_kinds2 {m : List Pr} {K : List Int} {k2 k : Int} (h : m.map Prod.fst = K ++ [k2, k]) : (topP m 1 k2).2 = true ∧ (topP m 0 k).2 = true ∧ (m.take (m.length - 2)).map Prod.fst = K := by
  have hl : m.length = K.length + 2 := by
    have := congrArg List.length h
    simpa using this
  have e : m.length - 2 = K.length := by omega
  refine ⟨?_, (top_kinds (K := K ++ [k2]) (by rw [h]; simp)).1, ?_⟩
  · have q : (m.getD (m.length - 1 - 1) (0, 0)).1 = k2 := by
      have hi : m.length - 1 - 1 < m.length := by omega
      have w : (m.map Prod.fst)[m.length - 1 - 1]? = some k2 := by
        rw [h, show m.length - 1 - 1 = K.length by omega, List.getElem?_append_right (Nat.le_refl _), Nat.sub_self]
        rfl
      rw [List.getElem?_map, List.getElem?_eq_getElem hi] at w
      rw [List.getD_eq_getElem?_getD, List.getElem?_eq_getElem hi]
      simpa using w
    unfold topP
    rw [if_pos ⟨by omega, q⟩]
  · rw [List.map_take, h, e]
    exact List.take_left' rfl
/-- the kind of mark on top; 0: there is none -/
def topKind (m : List Pr) : Int := if 0 < m.length then (m.getD (m.length - 1) (0, 0)).1 else 0
theorem topP_kind {m : List Pr} {k : Int} (hk : k ≠ 0) : (topP m 0 k).2 = true ↔ topKind m = k := by
  unfold topP topKind
  by_cases h : 0 < m.length
  · rw [if_pos h, Nat.sub_zero]
    by_cases q : (m.getD (m.length - 1) (0, 0)).1 = k
    · rw [if_pos ⟨by omega, q⟩]; simp only [q]
    · rw [if_neg fun w => q w.2]; simp only [q, Bool.false_eq_true]
  · rw [if_neg h, if_neg fun w => by omega]
    simp only [Bool.false_eq_true, false_iff]
    exact fun w => hk w.symm
def FailF (f : Wf) : Prop := ∀ b, (f b).1 = 0 ∨ (((f b).1 = -8 ∨ (f b).1 = -22) ∧ (f b).2 = b)
theorem fail_openW (o k h : Int) : FailF (openW o k h) := fun b => by
  unfold openW
  (repeat' split) <;> simp
theorem fail_elseW : FailF elseW := fun b => by
  unfold elseW
  (repeat' split) <;> simp
theorem fail_thenW : FailF thenW := fun b => by
  unfold thenW
  (repeat' split) <;> simp
theorem fail_beginW : FailF beginW := fun b => by
  unfold beginW
  simp
theorem fail_backW (o k : Int) : FailF (backW o k) := fun b => by
  unfold backW
  (repeat' split) <;> simp
theorem fail_whileW : FailF whileW := fun b => by
  unfold whileW
  (repeat' split) <;> simp
theorem fail_repeatW : FailF repeatW := fun b => by
  unfold repeatW
  (repeat' split) <;> simp
theorem fail_mayW : FailF mayW := fun b => by
  unfold mayW
  (repeat' split) <;> simp
theorem fail_closeW (o : Int) : FailF (closeW o) := fun b => by
  unfold closeW
  (repeat' split) <;> simp
theorem fail_leaveW : FailF leaveW := fun b => by
  unfold leaveW
  (repeat' split) <;> simp
theorem lead_k {k : Nat} (hk : k < 13) : FailF (wordF k) := by
  match k, hk with
  | 0, _ => exact fail_openW _ _ _
  | 1, _ => exact fail_elseW
  | 2, _ => exact fail_thenW
  | 3, _ => exact fail_beginW
  | 4, _ => exact fail_backW _ _
  | 5, _ => exact fail_backW _ _
  | 6, _ => exact fail_whileW
  | 7, _ => exact fail_repeatW
  | 8, _ => exact fail_openW _ _ _
  | 9, _ => exact fail_mayW
  | 10, _ => exact fail_closeW _
  | 11, _ => exact fail_closeW _
  | 12, _ => exact fail_leaveW
structure InvB (b : Bd) (n : Nat) (K : List Int) : Prop where
  ok : Ok b
  j : Jn b.c.length b.c
  ln : b.c.length ≤ n
  k : kindsB b = K
  m : b.m.length ≤ n
  o : b.o.length ≤ n
theorem inv_of {b b' : Bd} {n : Nat} {K K' : List Int} (h : InvB b n K) (s : Step b b') (hk : kindsB b' = K') : InvB b' (n + 2) K' := ⟨s.ok, s.j h.j, by have := s.len; have := h.ln; omega, hk, by have := s.m1; have := h.m; omega, by have := s.o1; have := h.o; omega⟩
theorem InvB.few {b : Bd} {n : Nat} {K : List Int} (h : InvB b n K) (hn : n ≤ 100000) : Few b := ⟨by have := h.ln; omega, by have := h.m; omega, by have := h.o; omega⟩
theorem InvB.up {b : Bd} {n n' : Nat} {K : List Int} (h : InvB b n K) (hn : n ≤ n') : InvB b n' K := ⟨h.ok, h.j, by have := h.ln; omega, h.k, by have := h.m; omega, by have := h.o; omega⟩
theorem deep_kinds (b : Bd) : deep b.m = (kindsB b).countP (fun x => x == 3) := by unfold deep kindsB; rw [List.countP_map]; rfl
/-- what a word does that leads, and is taken -/
theorem wordB_take {b : Bd} {s : ByteArray} {k : Nat} (hk : k < 13) (hs : wordK s = k) (hb : Ok b) (h : (wordF k b).1 = 0) : wordB b s = ((wordF k b).2, true, 0) := by
  unfold wordB
  rw [if_neg (by omega), hs, Int.toNat_natCast, ownB_ok hb, if_pos h]
theorem wordB_none {b : Bd} {s : ByteArray} (hs : wordK s = -1) (hb : Ok b) : wordB b s = (b, false, 0) := by
  unfold wordB
  rw [if_pos hs, ownB_ok hb]
theorem wordB_fail {b : Bd} {s : ByteArray} {k : Nat} (hs : wordK s = k) (hb : Ok b) (h : (wordF k b).1 ≠ 0) : wordB b s = (b, true, (wordF k b).1) := by
  unfold wordB
  rw [if_neg (by omega), hs, Int.toNat_natCast, ownB_ok hb, if_neg h]
theorem wk (l : List UInt8) : wordK ⟨l.toArray⟩ = idxS (upL l) theWords 0 := by unfold wordK; rw [toL]
section
variable {b : Bd} {n : Nat} {K : List Int}
theorem t_open (o k bh : Int) (hk : (k = 1 ∧ bh = 0) ∨ (k = 3 ∧ bh = 1)) (h : InvB b n K) (hn : n + 1 ≤ 4096) : (openW o k bh b).1 = 0 ∧ InvB (openW o k bh b).2 (n + 2) (K ++ [k]) := by
  have e : openW o k bh b = _ := if_pos (by have := h.ln; omega)
  have e1 : (openW o k bh b).1 = 0 := by rw [e]
  refine ⟨e1, inv_of h (step_open o k bh hk h.ok e1) ?_⟩
  rw [e]
  show (b.m ++ [_]).map Prod.fst = _
  rw [List.map_append, show b.m.map Prod.fst = K from h.k]; rfl
theorem t_may (h : InvB b n K) (hn : n + 1 ≤ 4096) : (mayW b).1 = 0 ∧ InvB (mayW b).2 (n + 2) (K ++ [3]) := by
  have e : mayW b = _ := if_pos (by have := h.ln; omega)
  have e1 : (mayW b).1 = 0 := by rw [e]
  refine ⟨e1, inv_of h (step_may h.ok e1) ?_⟩
  rw [e]
  show (b.m ++ [_]).map Prod.fst = _
  rw [List.map_append, show b.m.map Prod.fst = K from h.k]; rfl
theorem t_begin (h : InvB b n K) : (beginW b).1 = 0 ∧ InvB (beginW b).2 (n + 2) (K ++ [2]) := by
  refine ⟨rfl, inv_of h (step_begin h.ok) ?_⟩
  show (b.m ++ [_]).map Prod.fst = _
  rw [List.map_append, show b.m.map Prod.fst = K from h.k]; rfl
theorem t_else (h : InvB b n (K ++ [1])) (hn : n + 1 ≤ 4096) : (elseW b).1 = 0 ∧ InvB (elseW b).2 (n + 2) (K ++ [1]) := by
  have q := top_kinds h.k
  have e : elseW b = _ := (if_pos q.1).trans (if_pos (by have := h.ln; omega))
  have e1 : (elseW b).1 = 0 := by rw [e]
  refine ⟨e1, inv_of h (step_else h.ok e1) ?_⟩
  rw [e]
  show (b.m.take _ ++ [_]).map Prod.fst = _
  rw [List.map_append, q.2]; rfl
theorem t_while (h : InvB b n (K ++ [2])) (hn : n + 1 ≤ 4096) : (whileW b).1 = 0 ∧ InvB (whileW b).2 (n + 2) (K ++ [1, 2]) := by
  have q := top_kinds h.k
  have e : whileW b = _ := (if_pos q.1).trans (if_pos (by have := h.ln; omega))
  have e1 : (whileW b).1 = 0 := by rw [e]
  refine ⟨e1, inv_of h (step_while h.ok e1) ?_⟩
  rw [e]
  show (b.m.take _ ++ [_] ++ [_]).map Prod.fst = _
  rw [List.map_append, List.map_append, q.2, List.append_assoc]; rfl
theorem t_leave (h : InvB b n (K ++ [3])) (hn : n + 2 ≤ 4096) : (leaveW b).1 = 0 ∧ InvB (leaveW b).2 (n + 2) (K ++ [3]) := by
  have hd : deep b.m ≠ 0 := by
    rw [deep_kinds, h.k, List.countP_append]
    simp
  have e : leaveW b = _ := (if_neg hd).trans (if_pos (by have := h.ln; omega))
  have e1 : (leaveW b).1 = 0 := by rw [e]
  refine ⟨e1, inv_of h (step_leave h.ok e1) ?_⟩
  rw [e]
  exact h.k
theorem t_then (h : InvB b n (K ++ [1])) : (thenW b).1 = 0 ∧ InvB (thenW b).2 (n + 2) K := by
  have q := top_kinds h.k
  have e : thenW b = _ := if_pos q.1
  have e1 : (thenW b).1 = 0 := by rw [e]
  refine ⟨e1, inv_of h (step_then h.ok e1) ?_⟩
  rw [e]
  exact q.2
theorem t_back (o : Int) (h : InvB b n (K ++ [2])) (hn : n + 1 ≤ 4096) : (backW o 2 b).1 = 0 ∧ InvB (backW o 2 b).2 (n + 2) K := by
  have q := top_kinds h.k
  have e : backW o 2 b = _ := (if_pos q.1).trans (if_pos (by have := h.ln; omega))
  have e1 : (backW o 2 b).1 = 0 := by rw [e]
  refine ⟨e1, inv_of h (step_back o 2 rfl h.ok e1) ?_⟩
  rw [e]
  exact q.2
theorem t_close (o : Int) (h : InvB b n (K ++ [3])) (hn : n + 1 ≤ 4096) : (closeW o b).1 = 0 ∧ InvB (closeW o b).2 (n + 2) K := by
  have q := top_kinds h.k
  have e : closeW o b = _ := (if_pos q.1).trans (if_pos (by have := h.ln; omega))
  have e1 : (closeW o b).1 = 0 := by rw [e]
  refine ⟨e1, inv_of h (step_close o h.ok e1) ?_⟩
  rw [e]
  exact q.2
theorem t_repeat (h : InvB b n (K ++ [1, 2])) (hn : n + 1 ≤ 4096) : (repeatW b).1 = 0 ∧ InvB (repeatW b).2 (n + 2) K := by
  have q := top_kinds2 h.k
  have e : repeatW b = _ := (if_pos ⟨q.1, q.2.1⟩).trans (if_pos (by have := h.ln; omega))
  have e1 : (repeatW b).1 = 0 := by rw [e]
  refine ⟨e1, inv_of h (step_repeat h.ok e1) ?_⟩
  rw [e]
  exact q.2.2
end
def firstL : List (List UInt8) := [[105, 102], [98, 101, 103, 105, 110], [100, 111], [63, 100, 111], [98, 101, 103, 105, 110], [105, 102]]
def midL : List (List UInt8) := [[101, 108, 115, 101], [], [108, 101, 97, 118, 101], [], [119, 104, 105, 108, 101], []]
def lastL : List (List UInt8) := [[116, 104, 101, 110], [117, 110, 116, 105, 108], [108, 111, 111, 112], [43, 108, 111, 111, 112], [114, 101, 112, 101, 97, 116], [116, 104, 101, 110]]
def segL : List (List Int) := [[1], [2], [3], [3], [1, 2], [1]]
def strAt (L : List (List UInt8)) (k : Nat) : ByteArray := ⟨(L.getD k []).toArray⟩
theorem up_ok {b : Bd} {n : Nat} {K : List Int} {k : Nat} (hk : k < 6) (h : InvB b n K) (hn : n + 4 ≤ 4096) : ∃ c d t, wordB b (strAt firstL k) = (c, true, 0) ∧ wordB c (strAt midL k) = (d, t, 0) ∧ Few c ∧ InvB d (n + 4) (K ++ segL.getD k []) := by
  match k, hk with
  | 0, _ =>
    have q := t_open 2 1 0 (.inl ⟨rfl, rfl⟩) h (by omega)
    have q2 := t_else q.2 (by omega)
    exact ⟨_, _, _, wordB_take (k := 0) (by omega) (wk _) h.ok q.1, wordB_take (k := 1) (by omega) (wk _) q.2.ok q2.1, q.2.few (by omega), q2.2⟩
  | 1, _ =>
    have q := t_begin h
    exact ⟨_, _, _, wordB_take (k := 3) (by omega) (wk _) h.ok q.1, wordB_none (wk _) q.2.ok, q.2.few (by omega), q.2.up (by omega)⟩
  | 2, _ =>
    have q := t_open 5 3 1 (.inr ⟨rfl, rfl⟩) h (by omega)
    have q2 := t_leave q.2 (by omega)
    exact ⟨_, _, _, wordB_take (k := 8) (by omega) (wk _) h.ok q.1, wordB_take (k := 12) (by omega) (wk _) q.2.ok q2.1, q.2.few (by omega), q2.2⟩
  | 3, _ =>
    have q := t_may h (by omega)
    exact ⟨_, _, _, wordB_take (k := 9) (by omega) (wk _) h.ok q.1, wordB_none (wk _) q.2.ok, q.2.few (by omega), q.2.up (by omega)⟩
  | 4, _ =>
    have q := t_begin h
    have q2 := t_while q.2 (by omega)
    exact ⟨_, _, _, wordB_take (k := 3) (by omega) (wk _) h.ok q.1, wordB_take (k := 6) (by omega) (wk _) q.2.ok q2.1, q.2.few (by omega), q2.2⟩
  | 5, _ =>
    have q := t_open 2 1 0 (.inl ⟨rfl, rfl⟩) h (by omega)
    exact ⟨_, _, _, wordB_take (k := 0) (by omega) (wk _) h.ok q.1, wordB_none (wk _) q.2.ok, q.2.few (by omega), q.2.up (by omega)⟩
theorem down_ok {b : Bd} {n : Nat} {K : List Int} {k : Nat} (hk : k < 6) (h : InvB b n (K ++ segL.getD k [])) (hn : n + 1 ≤ 4096) : ∃ c, wordB b (strAt lastL k) = (c, true, 0) ∧ endB b = ([], -22) ∧ InvB c (n + 2) K := by
  have he : endB b = ([], -22) := by
    unfold endB
    rw [ownB_ok h.ok, if_neg]
    intro hm
    have := h.k
    unfold kindsB at this
    rw [hm] at this
    have l0 := congrArg List.length this
    match k, hk with
    | 0, _ | 1, _ | 2, _ | 3, _ | 4, _ | 5, _ => simp [segL] at l0
  match k, hk with
  | 0, _ =>
    have q := t_then h
    exact ⟨_, wordB_take (k := 2) (by omega) (wk _) h.ok q.1, he, q.2⟩
  | 1, _ =>
    have q := t_back 2 h (by omega)
    exact ⟨_, wordB_take (k := 5) (by omega) (wk _) h.ok q.1, he, q.2⟩
  | 2, _ =>
    have q := t_close 7 h (by omega)
    exact ⟨_, wordB_take (k := 10) (by omega) (wk _) h.ok q.1, he, q.2⟩
  | 3, _ =>
    have q := t_close 8 h (by omega)
    exact ⟨_, wordB_take (k := 11) (by omega) (wk _) h.ok q.1, he, q.2⟩
  | 4, _ =>
    have q := t_repeat h (by omega)
    exact ⟨_, wordB_take (k := 7) (by omega) (wk _) h.ok q.1, he, q.2⟩
  | 5, _ =>
    have q := t_then h
    exact ⟨_, wordB_take (k := 2) (by omega) (wk _) h.ok q.1, he, q.2⟩
/-- does a thread lead nowhere else? -/
def astray (n : Nat) (p : Pr) : Bool := leadsB p.1 && (decide (p.2 < 0) || decide ((n : Int) ≤ p.2))
def wholeB (c : List Pr) : Bool := decide (0 < c.length) && ((c.getD (c.length - 1) (0, 0)).1 == 4 && !(c.any (astray c.length)))
theorem whole_end {c : List Pr} (h : Jn c.length c) : wholeB (c ++ [(4, 0)]) = true := by
  unfold wholeB
  have l1 : (c ++ [((4 : Int), (0 : Int))]).length = c.length + 1 := by simp
  have e : ((c ++ [((4 : Int), (0 : Int))]).getD (c.length + 1 - 1) (0, 0)) = (4, 0) := by
    rw [List.getD_eq_getElem?_getD, Nat.add_sub_cancel, List.getElem?_append_right (Nat.le_refl _), Nat.sub_self]
    rfl
  rw [l1, e]
  simp only [Nat.zero_lt_succ, decide_true, beq_self_eq_true, Bool.true_and, Bool.not_eq_true', List.any_eq_false, Bool.not_eq_true]
  intro p hp
  unfold astray
  cases hl : leadsB p.1 with
  | false => rfl
  | true =>
    have : 0 ≤ p.2 ∧ p.2 ≤ c.length := by
      rcases List.mem_append.1 hp with q | q
      · exact h p q hl
      · obtain rfl := List.mem_singleton.1 q
        cases hl
    simp only [Bool.true_and, Bool.or_eq_false_iff, decide_eq_false_iff_not]
    omega
theorem inv_emp : InvB emp 0 [] := ⟨ok_emp, fun p hp => absurd hp List.not_mem_nil, by decide, rfl, by decide, by decide⟩
theorem end_ok {b : Bd} {n : Nat} (h : InvB b n []) (hn : n + 1 ≤ 4096) : endB b = (b.c ++ [(4, 0)], 0) ∧ wholeB (b.c ++ [(4, 0)]) = true := by
  refine ⟨?_, whole_end h.j⟩
  unfold endB
  rw [ownB_ok h.ok, if_pos (by have := h.k; unfold kindsB at this; exact List.map_eq_nil_iff.1 this), if_pos (by have := h.ln; omega)]
section
variable {b : Bd}
theorem emit_y (ho : Ok b) {l : List Pr} (h : b.c.length + l.length ≤ 4096) : emitB b l = (⟨b.c ++ l, b.m, b.o⟩, 0) := by unfold emitB; rw [ownB_ok ho, if_pos h]
theorem emit_n (ho : Ok b) {l : List Pr} (h : ¬ b.c.length + l.length ≤ 4096) : emitB b l = (b, -8) := by unfold emitB; rw [ownB_ok ho, if_neg h]
end
end Go.Proofs.YtcphpiboamlanaaR
