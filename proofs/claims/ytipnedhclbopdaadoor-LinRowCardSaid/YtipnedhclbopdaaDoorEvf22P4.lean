/- LinRow: operations that do not overlap have one order. -/
import Derived.Test.YtipnedhclbopdaaDoorEvf22H1
open Go Go.Proofs.YtipnedhclbopdaaDoorEv Go.Proofs.YtipnedhclbopdaaDoorR Go.IntWalk Go.Proofs
set_option maxRecDepth 20000
set_option linter.unusedVariables false
set_option linter.unusedSimpArgs false
namespace Go.Proofs.YtipnedhclbopdaaDoorR
/-- one behind the other -/
def runs (n : Int) : List Ot → List Int → Bool
  | [], _ => true
  | o :: r, h => (applyT h o n).2 && runs n r (applyT h o n).1
def SeqT (l : List Ot) : Prop := ∀ k, k < l.length → fromT (l.getD k nilT) = 2 * (k : Int) ∧ toT (l.getD k nilT) = 2 * (k : Int) + 1
theorem seq_after {l : List Ot} {d : List Bool} {j k : Nat} (hs : SeqT l) (hj : j < l.length) (hk : k < l.length) (hd : ∀ i, i < l.length → isB d i = decide (i < j)) : afterN l d k = true ↔ k = j := by
  rw [after_iff, hd k hk]
  constructor
  · rintro ⟨h1, h2⟩
    have h3 : ¬ k < j := by simpa using h1
    rcases Nat.lt_or_ge j k with h4 | h4
    · have := h2 j hj (by rw [hd j hj]; simp) (decide_eq_true (by rw [(hs j hj).2]; omega))
      rw [(hs j hj).2, (hs k hk).1] at this
      omega
    · omega
  · rintro rfl
    refine ⟨by simp, fun i hi hb _ => ?_⟩
    rw [hd i hi] at hb
    have h3 : ¬ i < k := by simpa using hb
    rw [(hs i hi).2, (hs k hk).1]
    omega
theorem seq_ord {l : List Ot} {n : Int} (hs : SeqT l) : ∀ (m j : Nat) (d : List Bool) (h : List Int), j + m = l.length → d.length = l.length → (∀ i, i < l.length → isB d i = decide (i < j)) → (Ord l n d h ↔ runs n (l.drop j) h = true) := by
  intro m
  induction m with
  | zero =>
    intro j d h hj hd hi
    have e : l.drop j = [] := List.drop_eq_nil_of_le (by omega)
    rw [e]
    refine ⟨fun _ => rfl, fun _ => .stop (left_iff.2 fun k hk hb => ?_)⟩
    rw [hi k hk] at hb
    have : ¬ k < j := by simpa using hb
    omega
  | succ m ih =>
    intro j d h hj hd hi
    have hjl : j < l.length := by omega
    have e : l.drop j = l.getD j nilT :: l.drop (j + 1) := by
      rw [List.drop_eq_getElem_cons hjl, List.getD_eq_getElem?_getD, List.getElem?_eq_getElem hjl]
      rfl
    rw [e, runs, Bool.and_eq_true]
    have next : ∀ i, i < l.length → isB (d.set j true) i = decide (i < j + 1) := fun i hil => by
      rw [isB_set (by omega), hi i hil]
      by_cases q : i = j
      · rw [if_pos q]; simp; omega
      · rw [if_neg q]
        by_cases q2 : i < j
        · rw [decide_eq_true q2, decide_eq_true (by omega)]
        · rw [decide_eq_false q2, decide_eq_false (by omega)]
    have ih2 := ih (j + 1) (d.set j true) (applyT h (l.getD j nilT) n).1 (by omega) (by rw [List.length_set]; exact hd) next
    constructor
    · intro H
      cases H with
      | stop q =>
        have := left_iff.1 q j hjl (by rw [hi j hjl]; simp)
        have h2 : endT (l.getD j nilT) = true := decide_eq_true (by rw [(hs j hjl).2]; omega)
        rw [h2] at this; cases this
      | step k hk ha hb t =>
        have := (seq_after hs hjl hk hi).1 ha
        subst this
        exact ⟨hb, ih2.1 t⟩
    · rintro ⟨h1, h2⟩
      exact .step j hjl ((seq_after hs hjl hjl hi).2 rfl) h1 (ih2.2 h2)
theorem seq_has {l : List Ot} {n : Int} (hs : SeqT l) : HasO l n ↔ runs n l [] = true := by
  have := seq_ord (n := n) hs l.length 0 (fresh l) [] (by omega) (by simp [fresh]) (fun i _ => by unfold fresh; rw [isB_fresh]; simp)
  unfold HasO
  simpa using this
/-- the operation that a value stands for -/
def rowOp (pk tk : Int) (fifo : Bool) (room : Int) (i : Nat) (v : Int) (h : List Int) : Ot :=
  if andI (andI v 65535) 1 = 0 then (andI i 3, tk, 0, if h.length = 0 then 0 else if fifo = true then h.getD 0 0 else h.getD (h.length - 1) 0, decide (0 < (h.length : Int)), 2 * (i : Int), 2 * (i : Int) + 1)
  else (andI i 3, pk, andI v 65535, 0, decide ((h.length : Int) < room), 2 * (i : Int), 2 * (i : Int) + 1)
def rowL (pk tk : Int) (fifo : Bool) (room : Int) : Nat → List Int → List Int → List Ot
  | _, [], _ => []
  | i, v :: r, h => rowOp pk tk fifo room i v h :: rowL pk tk fifo room (i + 1) r (applyT h (rowOp pk tk fifo room i v h) room).1
def flip (x : Ot) : Ot := (x.1, x.2.1, x.2.2.1, x.2.2.2.1, !x.2.2.2.2.1, x.2.2.2.2.2.1, x.2.2.2.2.2.2)
theorem rowL_len {pk tk : Int} {fifo : Bool} {room : Int} : ∀ (r : List Int) (i : Nat) (h : List Int), (rowL pk tk fifo room i r h).length = r.length
  | [], _, _ => rfl
  | v :: r, i, h => by rw [rowL, List.length_cons, List.length_cons, rowL_len r]
theorem rowOp_ft {pk tk : Int} {fifo : Bool} {room : Int} {i : Nat} {v : Int} {h : List Int} : fromT (rowOp pk tk fifo room i v h) = 2 * (i : Int) ∧ toT (rowOp pk tk fifo room i v h) = 2 * (i : Int) + 1 := by
  unfold rowOp
  split <;> exact ⟨rfl, rfl⟩
theorem rowL_ft {pk tk : Int} {fifo : Bool} {room : Int} : ∀ (r : List Int) (i : Nat) (h : List Int) (k : Nat), k < r.length → fromT ((rowL pk tk fifo room i r h).getD k nilT) = 2 * ((i + k : Nat) : Int) ∧ toT ((rowL pk tk fifo room i r h).getD k nilT) = 2 * ((i + k : Nat) : Int) + 1
  | [], _, _, k, hk => by simp at hk
  | v :: r, i, h, 0, _ => by rw [rowL]; exact rowOp_ft
  | v :: r, i, h, k + 1, hk => by
    rw [rowL]
    have := rowL_ft (pk := pk) (tk := tk) (fifo := fifo) (room := room) r (i + 1) (applyT h (rowOp pk tk fifo room i v h) room).1 k (by simpa using hk)
    rw [show i + 1 + k = i + (k + 1) by omega] at this
    exact this
theorem row_seq {pk tk : Int} {fifo : Bool} {room : Int} (r h : List Int) : SeqT (rowL pk tk fifo room 0 r h) := fun k hk => by
  rw [rowL_len] at hk
  have := rowL_ft (pk := pk) (tk := tk) (fifo := fifo) (room := room) r 0 h k hk
  rwa [Nat.zero_add] at this
/-- the kinds that go together -/
structure Kinds (pk tk : Int) (fifo : Bool) : Prop where
  p : pk = if fifo = true then 2 else 0
  t : tk = if fifo = true then 3 else 1
theorem cI_room {room : Int} (h1 : 1 ≤ room) (h4 : room ≤ 4) : cI room = room := by
  have e : (if 1000 < room then 1000 else room) = room := if_neg (by omega)
  unfold cI
  rw [e, if_pos (by omega)]
theorem rowOp_ok {pk tk : Int} {fifo : Bool} {room : Int} (hK : Kinds pk tk fifo) (h1 : 1 ≤ room) (h4 : room ≤ 4) (i : Nat) (v : Int) (h : List Int) :
    (applyT h (rowOp pk tk fifo room i v h) room).2 = true ∧ (applyT h (flip (rowOp pk tk fifo room i v h)) room).2 = false := by
  obtain ⟨rfl, rfl⟩ := hK
  have hto : ∀ x : Ot, toT x = 2 * (i : Int) + 1 → endT x = true := fun x q => decide_eq_true (by rw [q]; omega)
  have hf := (rowOp_ft (pk := if fifo = true then 2 else 0) (tk := if fifo = true then 3 else 1) (fifo := fifo) (room := room) (i := i) (v := v) (h := h)).2
  generalize hx : rowOp (if fifo = true then 2 else 0) (if fifo = true then 3 else 1) fifo room i v h = x at hf ⊢
  have e1 := hto x hf
  have e2 := hto (flip x) hf
  unfold applyT addT takeT
  rw [e1, e2, cI_room h1 h4]
  unfold rowOp at hx
  by_cases hv : andI (andI v 65535) 1 = 0
  · rw [if_pos hv] at hx
    subst hx
    cases fifo <;> by_cases h0 : h.length = 0 <;> simp [kindT, flip, okT, resT, h0] <;> omega
  · rw [if_neg hv] at hx
    subst hx
    cases fifo <;> by_cases h0 : (h.length : Int) < room
    · have h0' : ¬ room ≤ (h.length : Int) := by omega
      simp [kindT, flip, okT, resT, h0, h0']
    · have h0' : room ≤ (h.length : Int) := by omega
      simp [kindT, flip, okT, resT, h0, h0']
    · have h0' : ¬ room ≤ (h.length : Int) := by omega
      simp [kindT, flip, okT, resT, h0, h0']
    · have h0' : room ≤ (h.length : Int) := by omega
      simp [kindT, flip, okT, resT, h0, h0']
theorem row_runs {pk tk : Int} {fifo : Bool} {room : Int} (hK : Kinds pk tk fifo) (h1 : 1 ≤ room) (h4 : room ≤ 4) : ∀ (r : List Int) (i : Nat) (h : List Int), runs room (rowL pk tk fifo room i r h) h = true
  | [], _, _ => rfl
  | v :: r, i, h => by rw [rowL, runs, (rowOp_ok hK h1 h4 i v h).1, Bool.true_and]; exact row_runs hK h1 h4 r (i + 1) _
theorem row_flip {pk tk : Int} {fifo : Bool} {room : Int} (hK : Kinds pk tk fifo) (h1 : 1 ≤ room) (h4 : room ≤ 4) : ∀ (r : List Int) (i : Nat) (h : List Int) (k : Nat), k < r.length →
    runs room ((rowL pk tk fifo room i r h).set k (flip ((rowL pk tk fifo room i r h).getD k nilT))) h = false
  | [], _, _, k, hk => by simp at hk
  | v :: r, i, h, 0, _ => by
    rw [rowL]
    show ((applyT h (flip (rowOp pk tk fifo room i v h)) room).2 && _) = false
    rw [(rowOp_ok hK h1 h4 i v h).2, Bool.false_and]
  | v :: r, i, h, k + 1, hk => by
    rw [rowL]
    have := row_flip hK h1 h4 r (i + 1) (applyT h (rowOp pk tk fifo room i v h) room).1 k (by simpa using hk)
    show ((applyT h (rowOp pk tk fifo room i v h) room).2 && runs room ((rowL pk tk fifo room (i + 1) r (applyT h (rowOp pk tk fifo room i v h) room).1).set k (flip ((rowL pk tk fifo room (i + 1) r (applyT h (rowOp pk tk fifo room i v h) room).1).getD k nilT))) (applyT h (rowOp pk tk fifo room i v h) room).1) = false
    rw [this, Bool.and_false]
theorem lin_row {pk tk : Int} {fifo : Bool} {room : Int} (hK : Kinds pk tk fifo) (h1 : 1 ≤ room) (h4 : room ≤ 4) (r : List Int) (h8 : r.length ≤ 8) : linT (rowL pk tk fifo room 0 r []) room = 1 :=
  (lin_iff (by rw [rowL_len]; exact h8)).2 ((seq_has (row_seq r [])).2 (row_runs hK h1 h4 r 0 []))
theorem lin_flip {pk tk : Int} {fifo : Bool} {room : Int} (hK : Kinds pk tk fifo) (h1 : 1 ≤ room) (h4 : room ≤ 4) (r : List Int) (h8 : r.length ≤ 8) (k : Nat) (hk : k < r.length) :
    linT ((rowL pk tk fifo room 0 r []).set k (flip ((rowL pk tk fifo room 0 r []).getD k nilT))) room = 0 := by
  have hs : SeqT ((rowL pk tk fifo room 0 r []).set k (flip ((rowL pk tk fifo room 0 r []).getD k nilT))) := fun j hj => by
    rw [List.length_set] at hj
    have := row_seq (pk := pk) (tk := tk) (fifo := fifo) (room := room) r [] j hj
    rw [getD_set (by rw [rowL_len]; exact hk)]
    split
    · next e => subst e; exact this
    · exact this
  refine (lin_not (by rw [List.length_set, rowL_len]; exact h8)).2 fun H => ?_
  rw [seq_has hs, row_flip hK h1 h4 r 0 [] k hk] at H
  cases H
end Go.Proofs.YtipnedhclbopdaaDoorR
