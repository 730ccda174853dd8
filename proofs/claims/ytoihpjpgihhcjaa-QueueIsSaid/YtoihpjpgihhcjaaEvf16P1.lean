/- Plain laws of queues. -/
import Derived.Test.YtoihpjpgihhcjaaEvf16D3
open Go Go.Proofs.YtoihpjpgihhcjaaEv Go.Proofs.YtoihpjpgihhcjaaR Go.IntWalk
set_option linter.unusedVariables false
set_option linter.unusedSimpArgs false
namespace Go.Proofs.YtoihpjpgihhcjaaR
def Ahd (a b : It) : Prop := b.2.1 < a.2.1 ∨ (a.2.1 = b.2.1 ∧ a.2.2 < b.2.2)
theorem ord_iff {a b : It} : ordI a b < 0 ↔ Ahd a b := by
  unfold ordI cmpI Ahd
  (repeat' split) <;> omega
theorem ahead_iff {a b : It} : aheadB a b = true ↔ Ahd a b := by unfold aheadB; rw [decide_eq_true_eq, ord_iff]
theorem Ahd.trans {a b c : It} (h : Ahd a b) (k : Ahd b c) : Ahd a c := by unfold Ahd at *; omega
theorem Ahd.asymm {a b : It} (h : Ahd a b) (k : Ahd b a) : False := by unfold Ahd at *; omega
theorem hasI_iff {q : List Int} {i : Int} : hasI q i = true ↔ i ∈ q := by
  unfold hasI
  rw [List.any_eq_true]
  constructor
  · rintro ⟨y, h1, h2⟩; rw [beq_iff_eq.1 h2]; exact h1
  · intro h; exact ⟨i, h, beq_self_eq_true i⟩
theorem hasI_no {q : List Int} {i : Int} : hasI q i = false ↔ i ∉ q := by rw [← Bool.not_eq_true, hasI_iff]
structure Fit (nx : Int) (l : List It) : Prop where
  n0 : 0 ≤ nx
  n1 : nx ≤ 1099511627776
  len : l.length ≤ 8
  may : ∀ x ∈ l, mayB nx x = true
  idn : l.Pairwise fun a b => a.1 ≠ b.1
  tnn : l.Pairwise fun a b => a.2.2 ≠ b.2.2
  srt : l.Pairwise Ahd
theorem last_ok {p : List It} {x : It} (hp : p.Pairwise Ahd) : lastOk p x = true ↔ ∀ y ∈ p, Ahd y x := by
  rcases List.eq_nil_or_concat p with rfl | ⟨q, z, rfl⟩
  · exact ⟨fun _ y hy => absurd hy List.not_mem_nil, fun _ => rfl⟩
  · rw [List.concat_eq_append] at *
    have e : lastOk (q ++ [z]) x = aheadB z x := by unfold lastOk; rw [List.getLast?_append]; rfl
    rw [e, ahead_iff]
    constructor
    · intro h y hy
      rcases List.mem_append.1 hy with hy | hy
      · exact ((List.pairwise_append.1 hp).2.2 y hy z (List.mem_singleton.2 rfl)).trans h
      · rw [List.mem_singleton.1 hy]; exact h
    · intro h; exact h z (List.mem_append_right _ (List.mem_singleton.2 rfl))
theorem okQ_iff {nx : Int} : ∀ {r p : List It}, p.Pairwise Ahd → (okQ nx p r = true ↔ (∀ x ∈ r, mayB nx x = true) ∧ r.Pairwise (fun a b => a.1 ≠ b.1) ∧ (∀ x ∈ r, x.1 ∉ ids p) ∧ r.Pairwise (fun a b => a.2.2 ≠ b.2.2) ∧ (∀ x ∈ r, x.2.2 ∉ tns p) ∧ (p ++ r).Pairwise Ahd)
  | [], p, hp => ⟨fun _ => ⟨fun x h => absurd h List.not_mem_nil, .nil, fun x h => absurd h List.not_mem_nil, .nil, fun x h => absurd h List.not_mem_nil, by rw [List.append_nil]; exact hp⟩, fun _ => rfl⟩
  | x :: r, p, hp => by
    have e : p ++ x :: r = (p ++ [x]) ++ r := by rw [List.append_assoc]; rfl
    have hi : ids (p ++ [x]) = ids p ++ [x.1] := by unfold ids; simp
    have ht : tns (p ++ [x]) = tns p ++ [x.2.2] := by unfold tns; simp
    show (mayB nx x && (!hasI (ids p) x.1 && (!hasI (tns p) x.2.2 && (lastOk p x && okQ nx (p ++ [x]) r)))) = true ↔ _
    rw [Bool.and_eq_true, Bool.and_eq_true, Bool.and_eq_true, Bool.and_eq_true, Bool.not_eq_true', Bool.not_eq_true', hasI_no, hasI_no, last_ok hp, e]
    constructor
    · rintro ⟨h1, h2, h3, h4, h5⟩
      have hpx : (p ++ [x]).Pairwise Ahd := List.pairwise_append.2 ⟨hp, List.pairwise_singleton _ _, fun a ha b hb => by rw [List.mem_singleton.1 hb]; exact h4 a ha⟩
      obtain ⟨k1, k2, k3, k4, k5, k6⟩ := (okQ_iff hpx).1 h5
      rw [hi] at k3
      rw [ht] at k5
      refine ⟨fun y hy => ?_, .cons (fun y hy => ?_) k2, fun y hy => ?_, .cons (fun y hy => ?_) k4, fun y hy => ?_, k6⟩
      · rcases List.mem_cons.1 hy with rfl | hy
        · exact h1
        · exact k1 y hy
      · exact fun q => k3 y hy (List.mem_append_right _ (List.mem_singleton.2 q.symm))
      · rcases List.mem_cons.1 hy with rfl | hy
        · exact h2
        · exact fun q => k3 y hy (List.mem_append_left _ q)
      · exact fun q => k5 y hy (List.mem_append_right _ (List.mem_singleton.2 q.symm))
      · rcases List.mem_cons.1 hy with rfl | hy
        · exact h3
        · exact fun q => k5 y hy (List.mem_append_left _ q)
    · rintro ⟨h1, h2, h3, h4, h5, h6⟩
      have hpx := (List.pairwise_append.1 h6).1
      refine ⟨h1 x List.mem_cons_self, h3 x List.mem_cons_self, h5 x List.mem_cons_self, fun y hy => (List.pairwise_append.1 hpx).2.2 y hy x (List.mem_singleton.2 rfl), (okQ_iff hpx).2 ⟨fun y hy => h1 y (List.mem_cons_of_mem _ hy), (List.pairwise_cons.1 h2).2, fun y hy q => ?_, (List.pairwise_cons.1 h4).2, fun y hy q => ?_, h6⟩⟩
      · rw [hi] at q
        rcases List.mem_append.1 q with q | q
        · exact h3 y (List.mem_cons_of_mem _ hy) q
        · exact (List.pairwise_cons.1 h2).1 y hy (List.mem_singleton.1 q).symm
      · rw [ht] at q
        rcases List.mem_append.1 q with q | q
        · exact h5 y (List.mem_cons_of_mem _ hy) q
        · exact (List.pairwise_cons.1 h4).1 y hy (List.mem_singleton.1 q).symm
theorem sane_iff {nx : Int} {l : List It} : saneB nx l = true ↔ Fit nx l := by
  unfold saneB
  rw [Bool.and_eq_true, Bool.and_eq_true, within_iff, decide_eq_true_eq, okQ_iff .nil, List.nil_append]
  constructor
  · rintro ⟨h1, h2, h3, h4, _, h5, _, h6⟩; exact ⟨h1.1, h1.2, h2, h3, h4, h5, h6⟩
  · rintro ⟨h1, h2, h3, h4, h5, h6, h7⟩; exact ⟨⟨h1, h2⟩, h3, h4, h5, fun x _ q => absurd q List.not_mem_nil, h6, fun x _ q => absurd q List.not_mem_nil, h7⟩
theorem fit0 : Fit 0 [] := ⟨Int.le_refl _, by decide, by decide, fun x h => absurd h List.not_mem_nil, .nil, .nil, .nil⟩
theorem saneQ_fit (q : Qu) : Fit (saneQ q).1 (saneQ q).2 := by
  unfold saneQ
  split
  · next h => exact sane_iff.1 h
  · exact fit0
theorem saneQ_id {q : Qu} (h : Fit q.1 q.2) : saneQ q = q := if_pos (sane_iff.2 h)
theorem Fit.sml {nx : Int} {l : List It} (h : Fit nx l) : ∀ x ∈ l, Sml x := fun x hx => may_sml (h.may x hx) (by have := h.n1; omega)
theorem Fit.sub {nx : Int} {l m : List It} (h : Fit nx l) (hs : m.Sublist l) : Fit nx m :=
  ⟨h.n0, h.n1, Nat.le_trans hs.length_le h.len, fun x hx => h.may x (hs.subset hx), h.idn.sublist hs, h.tnn.sublist hs, h.srt.sublist hs⟩
/-- where x is to stand -/
def posK (l : List It) (x : It) : Nat := (l.takeWhile fun y => aheadB y x).length
theorem posK_le (l : List It) (x : It) : posK l x ≤ l.length := (List.takeWhile_prefix _).length_le
theorem posK_ord (x : It) : ∀ {l : List It}, l.Pairwise Ahd → ∀ i, i < l.length → (ordI (l.getD i nilX) x < 0 ↔ i < posK l x)
  | y :: l, h, i, hi => by
    have hl := List.pairwise_cons.1 h
    unfold posK
    by_cases hy : aheadB y x = true
    · rw [List.takeWhile_cons_of_pos (p := fun y => aheadB y x) hy, List.length_cons]
      cases i with
      | zero => exact ⟨fun _ => by omega, fun _ => by rw [ord_iff]; exact ahead_iff.1 hy⟩
      | succ i =>
        have := posK_ord x hl.2 i (by simpa using hi)
        unfold posK at this
        show ordI (l.getD i nilX) x < 0 ↔ _
        rw [this]
        omega
    · rw [List.takeWhile_cons_of_neg (p := fun y => aheadB y x) hy]
      have hno : ∀ j, j < (y :: l).length → ¬ ordI ((y :: l).getD j nilX) x < 0 := fun j hj q => by
        rw [ord_iff] at q
        cases j with
        | zero => exact hy (ahead_iff.2 q)
        | succ j =>
          have hj' : j < l.length := by simpa using hj
          exact hy (ahead_iff.2 ((hl.1 _ (getD_mem hj')).trans q))
      exact ⟨fun q => absurd q (hno i hi), fun q => absurd q (Nat.not_lt_zero _)⟩
def insX (l : List It) (x : It) : List It := l.take (posK l x) ++ x :: l.drop (posK l x)
theorem mem_insX {l : List It} {x y : It} : y ∈ insX l x ↔ y = x ∨ y ∈ l := by
  unfold insX
  have e := List.take_append_drop (posK l x) l
  constructor
  · intro h
    rcases List.mem_append.1 h with h | h
    · exact .inr (List.mem_of_mem_take h)
    · rcases List.mem_cons.1 h with h | h
      · exact .inl h
      · exact .inr (List.mem_of_mem_drop h)
  · rintro (h | h)
    · exact List.mem_append_right _ (List.mem_cons.2 (.inl h))
    · rw [← e] at h
      rcases List.mem_append.1 h with h | h
      · exact List.mem_append_left _ h
      · exact List.mem_append_right _ (List.mem_cons_of_mem _ h)
theorem insX_len (l : List It) (x : It) : (insX l x).length = l.length + 1 := by
  have := posK_le l x
  unfold insX
  rw [List.length_append, List.length_cons, List.length_take, List.length_drop]
  omega
theorem ids_le {nx : Int} {l : List It} (hm : ∀ x ∈ l, mayB nx x = true) (hi : l.Pairwise fun a b => a.1 ≠ b.1) : l.length ≤ 8 := by
  have h1 : (l.map (·.1)).Nodup := List.pairwise_map.2 hi
  have h2 := List.Nodup.length_le_of_subset h1 (l₂ := [0, 1, 2, 3, 4, 5, 6, 7]) fun i hi => by
    obtain ⟨x, hx, rfl⟩ := List.mem_map.1 hi
    have := (may_iff.1 (hm x hx)).1
    have : x.1 = 0 ∨ x.1 = 1 ∨ x.1 = 2 ∨ x.1 = 3 ∨ x.1 = 4 ∨ x.1 = 5 ∨ x.1 = 6 ∨ x.1 = 7 := by omega
    simpa using this
  simpa using h2
theorem split_pair {l : List It} {R : It → It → Prop} (k : Nat) (h : l.Pairwise R) : (l.take k).Pairwise R ∧ (l.drop k).Pairwise R ∧ ∀ a ∈ l.take k, ∀ b ∈ l.drop k, R a b := by
  rw [← List.take_append_drop k l] at h
  exact List.pairwise_append.1 h
theorem Fit.put {nx : Int} {l : List It} {x : It} (h : Fit nx l) (hx : mayB (nx + 1) x = true) (ht : x.2.2 = nx) (hn : nx < 1099511627776) (hi : ∀ y ∈ l, y.1 ≠ x.1) : Fit (nx + 1) (insX l x) := by
  have hmay : ∀ y ∈ insX l x, mayB (nx + 1) y = true := fun y hy => by
    rcases mem_insX.1 hy with rfl | hy
    · exact hx
    · have := may_iff.1 (h.may y hy)
      exact may_iff.2 ⟨this.1, this.2.1, this.2.2.1, by omega⟩
  have htn : ∀ y ∈ l, y.2.2 < nx := fun y hy => by have := (may_iff.1 (h.may y hy)).2.2.2; omega
  have hid : (insX l x).Pairwise fun a b => a.1 ≠ b.1 := by
    have := split_pair (posK l x) h.idn
    refine List.pairwise_append.2 ⟨this.1, .cons (fun y hy => (hi y (List.mem_of_mem_drop hy)).symm) this.2.1, fun a ha b hb => ?_⟩
    rcases List.mem_cons.1 hb with rfl | hb
    · exact hi a (List.mem_of_mem_take ha)
    · exact this.2.2 a ha b hb
  have hpos := posK_ord x h.srt
  refine ⟨by have := h.n0; omega, by omega, ids_le hmay hid, hmay, hid, ?_, ?_⟩
  · have := split_pair (posK l x) h.tnn
    refine List.pairwise_append.2 ⟨this.1, .cons (fun y hy => ?_) this.2.1, fun a ha b hb => ?_⟩
    · have := htn y (List.mem_of_mem_drop hy); omega
    · rcases List.mem_cons.1 hb with rfl | hb
      · have := htn a (List.mem_of_mem_take ha); omega
      · exact this.2.2 a ha b hb
  · have := split_pair (posK l x) h.srt
    refine List.pairwise_append.2 ⟨this.1, .cons (fun y hy => ?_) this.2.1, fun a ha b hb => ?_⟩
    · obtain ⟨j, hj, rfl⟩ := List.getElem_of_mem hy
      rw [List.length_drop] at hj
      have h1 : ¬ ordI (l.getD (posK l x + j) nilX) x < 0 := fun q => absurd ((hpos (posK l x + j) (by omega)).1 q) (by omega)
      have e : l.getD (posK l x + j) nilX = (l.drop (posK l x))[j]'(by rw [List.length_drop]; omega) := by
        rw [List.getD_eq_getElem?_getD, List.getElem?_eq_getElem (by omega), List.getElem_drop]; rfl
      rw [e, ord_iff] at h1
      have h2 := htn _ (List.mem_of_mem_drop hy)
      unfold Ahd at *
      omega
    · have hax : Ahd a x := by
        obtain ⟨j, hj, rfl⟩ := List.getElem_of_mem ha
        rw [List.length_take] at hj
        have h1 := (hpos j (by omega)).2 (by omega)
        have e : l.getD j nilX = (l.take (posK l x))[j]'(by rw [List.length_take]; exact hj) := by
          rw [List.getD_eq_getElem?_getD, List.getElem?_eq_getElem (by omega), List.getElem_take]; rfl
        rw [e, ord_iff] at h1
        exact h1
      rcases List.mem_cons.1 hb with rfl | hb
      · exact hax
      · exact this.2.2 a ha b hb
theorem ix_first (i : Int) : ∀ (l : List It) (k : Nat), (ixX i l k = -1 ∧ ∀ y ∈ l, y.1 ≠ i) ∨ ∃ j, j < l.length ∧ (l.getD j nilX).1 = i ∧ (∀ t, t < j → (l.getD t nilX).1 ≠ i) ∧ ixX i l k = ((k + j : Nat) : Int)
  | [], k => .inl ⟨rfl, fun y h => absurd h List.not_mem_nil⟩
  | x :: l, k => by
    by_cases h : x.1 = i
    · exact .inr ⟨0, by simp, h, fun t ht => absurd ht (Nat.not_lt_zero _), if_pos h⟩
    · have e : ixX i (x :: l) k = ixX i l (k + 1) := if_neg h
      rcases ix_first i l (k + 1) with ⟨h1, h2⟩ | ⟨j, h1, h2, h3, h4⟩
      · refine .inl ⟨e.trans h1, fun y hy => ?_⟩
        rcases List.mem_cons.1 hy with rfl | hy
        · exact h
        · exact h2 y hy
      · refine .inr ⟨j + 1, by simpa using h1, h2, fun t ht => ?_, by rw [e, h4]; congr 1; omega⟩
        cases t with
        | zero => exact h
        | succ t => exact h3 t (by omega)
end Go.Proofs.YtoihpjpgihhcjaaR
