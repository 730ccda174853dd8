/- Plain laws of naps: what is sane; putting is filtering; who is due. -/
import Derived.Test.YtppnijapeepbnaaEvf17E4
open Go Go.Proofs.YtppnijapeepbnaaEv Go.Proofs.YtppnijapeepbnaaR Go.IntWalk
set_option linter.unusedVariables false
set_option linter.unusedSimpArgs false
namespace Go.Proofs.YtppnijapeepbnaaR
def Srt (l : List Np) : Prop := l.Pairwise fun a b => a.2 ≤ b.2
theorem srt_of : ∀ {l : List Np}, sortB l = true → Srt l
  | [], _ => .nil
  | [x], _ => List.pairwise_singleton _ _
  | x :: y :: r, h => by
    have h' : (!decide (y.2 < x.2) && sortB (y :: r)) = true := h
    rw [Bool.and_eq_true] at h'
    have h1 : ¬ y.2 < x.2 := by simpa using h'.1
    have ih := srt_of h'.2
    refine .cons (fun a ha => ?_) ih
    rcases List.mem_cons.1 ha with rfl | ha
    · omega
    · have := (List.pairwise_cons.1 ih).1 a ha
      omega
theorem srt_to : ∀ {l : List Np}, Srt l → sortB l = true
  | [], _ => rfl
  | [x], _ => rfl
  | x :: y :: r, h => sortB_good (by have := (List.pairwise_cons.1 h).1 y List.mem_cons_self; omega) (srt_to (List.pairwise_cons.1 h).2)
theorem hasN_iff {q : List Np} {i : Int} : hasN q i = true ↔ ∃ y ∈ q, y.1 = i := by
  unfold hasN
  rw [List.any_eq_true]
  constructor
  · rintro ⟨y, h1, h2⟩; exact ⟨y, h1, (beq_iff_eq.1 h2).symm⟩
  · rintro ⟨y, h1, h2⟩; exact ⟨y, h1, beq_iff_eq.2 h2.symm⟩
theorem hasN_no {q : List Np} {i : Int} : hasN q i = false ↔ ∀ y ∈ q, y.1 ≠ i := by
  rw [← Bool.not_eq_true, hasN_iff]
  constructor
  · intro h y hy e; exact h ⟨y, hy, e⟩
  · rintro h ⟨y, hy, e⟩; exact h y hy e
/-- apart from one another, each may be -/
structure Fit (l : List Np) : Prop where
  may : ∀ x ∈ l, mayB x = true
  nod : l.Pairwise fun a b => a.1 ≠ b.1
  srt : Srt l
theorem okN_iff : ∀ {r q : List Np}, okN q r = true ↔ (∀ x ∈ r, mayB x = true) ∧ r.Pairwise (fun a b => a.1 ≠ b.1) ∧ ∀ x ∈ r, ∀ y ∈ q, y.1 ≠ x.1
  | [], q => ⟨fun _ => ⟨fun x h => absurd h List.not_mem_nil, .nil, fun x h => absurd h List.not_mem_nil⟩, fun _ => rfl⟩
  | x :: r, q => by
    show (mayB x && (!hasN q x.1 && okN (q ++ [x]) r)) = true ↔ _
    rw [Bool.and_eq_true, Bool.and_eq_true, Bool.not_eq_true', hasN_no, okN_iff]
    constructor
    · rintro ⟨h1, h2, h3, h4, h5⟩
      refine ⟨fun y hy => ?_, .cons (fun y hy => ?_) h4, fun y hy z hz => ?_⟩
      · rcases List.mem_cons.1 hy with rfl | hy
        · exact h1
        · exact h3 y hy
      · exact h5 y hy x (List.mem_append_right _ (List.mem_singleton.2 rfl))
      · rcases List.mem_cons.1 hy with rfl | hy
        · exact h2 z hz
        · exact h5 y hy z (List.mem_append_left _ hz)
    · rintro ⟨h1, h2, h3⟩
      refine ⟨h1 x List.mem_cons_self, h3 x List.mem_cons_self, fun y hy => h1 y (List.mem_cons_of_mem _ hy), (List.pairwise_cons.1 h2).2, fun y hy z hz => ?_⟩
      rcases List.mem_append.1 hz with hz | hz
      · exact h3 y (List.mem_cons_of_mem _ hy) z hz
      · rw [List.mem_singleton.1 hz]; exact (List.pairwise_cons.1 h2).1 y hy
theorem sane_iff {l : List Np} : saneB l = true ↔ Fit l := by
  unfold saneB
  rw [Bool.and_eq_true, okN_iff]
  constructor
  · rintro ⟨⟨h1, h2, _⟩, h3⟩; exact ⟨h1, h2, srt_of h3⟩
  · rintro ⟨h1, h2, h3⟩; exact ⟨⟨h1, h2, fun x _ y hy => absurd hy List.not_mem_nil⟩, srt_to h3⟩
theorem saneL_fit (l : List Np) : Fit (saneL l) := by
  unfold saneL
  split
  · next h => exact sane_iff.1 h
  · exact ⟨fun x h => absurd h List.not_mem_nil, .nil, .nil⟩
theorem saneL_id {l : List Np} (h : Fit l) : saneL l = l := if_pos (sane_iff.2 h)
theorem may_iff {x : Np} : mayB x = true ↔ (0 ≤ x.1 ∧ x.1 ≤ 7) ∧ 0 ≤ x.2 ∧ x.2 ≤ 1125899906842624 := by
  unfold mayB withinB
  simp
theorem Fit.len {l : List Np} (h : Fit l) : l.length ≤ 8 := by
  have h1 : (l.map (·.1)).Nodup := List.pairwise_map.2 h.nod
  have h2 := List.Nodup.length_le_of_subset h1 (l₂ := [0, 1, 2, 3, 4, 5, 6, 7]) fun i hi => by
    obtain ⟨x, hx, rfl⟩ := List.mem_map.1 hi
    have := (may_iff.1 (h.may x hx)).1
    have : x.1 = 0 ∨ x.1 = 1 ∨ x.1 = 2 ∨ x.1 = 3 ∨ x.1 = 4 ∨ x.1 = 5 ∨ x.1 = 6 ∨ x.1 = 7 := by omega
    simpa using this
  simpa using h2
theorem Fit.filter {l : List Np} (h : Fit l) (p : Np → Bool) : Fit (l.filter p) :=
  ⟨fun x hx => h.may x (List.mem_filter.1 hx).1, h.nod.filter _, h.srt.filter _⟩
/-- x put where it belongs -/
def putF (m : List Np) (x : Np) : List Np := m.filter (fun y => decide (y.2 ≤ x.2)) ++ x :: m.filter (fun y => decide (x.2 < y.2))
theorem filter_nil' {p : Np → Bool} {l : List Np} (h : ∀ x ∈ l, p x = false) : l.filter p = [] := List.filter_eq_nil_iff.2 fun x hx => by rw [h x hx]; simp
theorem ins_eq (x : Np) : ∀ (q s : List Np), Srt q.reverse → insR x q s = q.reverse.filter (fun y => decide (y.2 ≤ x.2)) ++ x :: (q.reverse.filter (fun y => decide (x.2 < y.2)) ++ s)
  | [], s, _ => rfl
  | y :: q, s, h => by
    rw [List.reverse_cons] at h ⊢
    have hq := List.pairwise_append.1 h
    unfold insR
    by_cases hxy : x.2 < y.2
    · rw [if_pos hxy, ins_eq x q (y :: s) hq.1, List.filter_append, List.filter_append, List.filter_cons_of_neg (by simpa using hxy), List.filter_cons_of_pos (by simpa using hxy)]
      simp
    · rw [if_neg hxy, List.filter_append, List.filter_append, List.filter_cons_of_pos (by simp; omega), List.filter_cons_of_neg (by simpa using hxy)]
      have hle : ∀ z ∈ q.reverse, z.2 ≤ y.2 := fun z hz => hq.2.2 z hz y (List.mem_singleton.2 rfl)
      rw [List.filter_eq_self.2 fun z hz => by have := hle z hz; simp; omega, filter_nil' (p := fun y => decide (x.2 < y.2)) fun z hz => by have := hle z hz; simp; omega]
      simp
theorem sortR_app : ∀ (r p t : List Np), sortR p (r ++ t) = sortR (sortR p r) t
  | [], p, t => rfl
  | x :: r, p, t => sortR_app r _ t
theorem sortR_id : ∀ (r p : List Np), Srt (p ++ r) → sortR p r = p ++ r
  | [], p, _ => (List.append_nil p).symm
  | x :: r, p, h => by
    have e : p ++ x :: r = (p ++ [x]) ++ r := by rw [List.append_assoc]; rfl
    have h1 := (List.pairwise_append.1 (e ▸ h)).1
    have hp := List.pairwise_append.1 h1
    have hle : ∀ z ∈ p, z.2 ≤ x.2 := fun z hz => hp.2.2 z hz x (List.mem_singleton.2 rfl)
    have hi : insR x p.reverse [] = p ++ [x] := by
      rw [ins_eq x _ _ (by rw [List.reverse_reverse]; exact hp.1), List.reverse_reverse, List.filter_eq_self.2 fun z hz => by simpa using hle z hz, filter_nil' fun z hz => by have := hle z hz; simp; omega]
      rfl
    show sortR (insR x p.reverse []) r = _
    rw [hi, sortR_id r _ (e ▸ h), e]
theorem sort_put {m : List Np} (h : Srt m) (x : Np) : sortR [] (m ++ [x]) = putF m x := by
  rw [sortR_app, sortR_id m [] h]
  show insR x m.reverse [] = _
  rw [ins_eq x _ _ (by rw [List.reverse_reverse]; exact h), List.reverse_reverse, List.append_nil]
  rfl
theorem putL_eq (l : List Np) (x : Np) : putL l x = if mayB x = true ∧ hasN (saneL l) x.1 = false then putF (saneL l) x else saneL l := by
  unfold putL
  split
  · exact sort_put (saneL_fit l).srt x
  · rfl
theorem srt_split {t : Int} : ∀ {l : List Np}, Srt l → l.filter (fun y => decide (y.2 ≤ t)) ++ l.filter (fun y => decide (t < y.2)) = l
  | [], _ => rfl
  | x :: l, h => by
    have hl := List.pairwise_cons.1 h
    by_cases hx : x.2 ≤ t
    · rw [List.filter_cons_of_pos (by simpa using hx), List.filter_cons_of_neg (by simp; omega), List.cons_append, srt_split hl.2]
    · rw [List.filter_cons_of_neg (by simpa using hx), List.filter_cons_of_pos (by simp; omega), filter_nil' (p := fun y => decide (y.2 ≤ t)) fun z hz => by have := hl.1 z hz; simp; omega, List.filter_eq_self.2 fun z hz => by have := hl.1 z hz; simp; omega]
      rfl
theorem mem_putF {m : List Np} {x y : Np} : y ∈ putF m x ↔ y = x ∨ y ∈ m := by
  unfold putF
  rw [List.mem_append, List.mem_cons, List.mem_filter, List.mem_filter]
  constructor
  · rintro (h | h | h)
    · exact .inr h.1
    · exact .inl h
    · exact .inr h.1
  · rintro (h | h)
    · exact .inr (.inl h)
    · by_cases hx : y.2 ≤ x.2
      · exact .inl ⟨h, by simpa using hx⟩
      · exact .inr (.inr ⟨h, by simp; omega⟩)
theorem Fit.put {m : List Np} {x : Np} (h : Fit m) (hm : mayB x = true) (hn : hasN m x.1 = false) : Fit (putF m x) := by
  rw [hasN_no] at hn
  refine ⟨fun y hy => ?_, ?_, ?_⟩
  · rcases mem_putF.1 hy with rfl | hy
    · exact hm
    · exact h.may y hy
  · refine List.pairwise_append.2 ⟨h.nod.filter _, .cons (fun y hy => ?_) (h.nod.filter _), fun a ha b hb => ?_⟩
    · exact fun e => hn y (List.mem_filter.1 hy).1 e.symm
    · rcases List.mem_cons.1 hb with rfl | hb
      · exact hn a (List.mem_filter.1 ha).1
      · have h' := h.nod
        rw [← srt_split (t := x.2) h.srt] at h'
        exact (List.pairwise_append.1 h').2.2 a ha b hb
  · refine List.pairwise_append.2 ⟨h.srt.filter _, .cons (fun y hy => ?_) (h.srt.filter _), fun a ha b hb => ?_⟩
    · have := of_decide_eq_true (List.mem_filter.1 hy).2
      omega
    · have ha := of_decide_eq_true (List.mem_filter.1 ha).2
      rcases List.mem_cons.1 hb with rfl | hb
      · exact ha
      · have := of_decide_eq_true (List.mem_filter.1 hb).2
        omega
theorem putF_len (m : List Np) (x : Np) (h : Srt m) : (putF m x).length = m.length + 1 := by
  have := congrArg List.length (srt_split (t := x.2) h)
  rw [List.length_append] at this
  unfold putF
  rw [List.length_append, List.length_cons]
  omega
theorem due_filter {t : Int} : ∀ {l : List Np}, Srt l → dueL t l = l.filter (fun y => decide (y.2 ≤ t))
  | [], _ => rfl
  | x :: l, h => by
    have hl := List.pairwise_cons.1 h
    unfold dueL
    by_cases hx : x.2 ≤ t
    · rw [List.takeWhile_cons_of_pos (by simpa using hx), List.filter_cons_of_pos (by simpa using hx)]
      exact congrArg _ (due_filter hl.2)
    · rw [List.takeWhile_cons_of_neg (by simpa using hx), List.filter_cons_of_neg (by simpa using hx), filter_nil' fun z hz => by have := hl.1 z hz; simp; omega]
theorem rest_filter {t : Int} {l : List Np} : restL t l = (saneL l).filter (fun y => decide (t < y.2)) := by
  have h := (saneL_fit l).srt
  unfold restL
  rw [due_filter h]
  conv => lhs; arg 2; rw [← srt_split (t := t) h]
  exact List.drop_left
theorem due_eq (t : Int) (l : List Np) : dueP t l = .tup [slN ((saneL l).filter (fun y => decide (t < y.2))), .sl ((saneL l).filter (fun y => decide (y.2 ≤ t))).length false (idsP ((saneL l).filter (fun y => decide (y.2 ≤ t))))] := by
  unfold dueP
  rw [rest_filter, due_filter (saneL_fit l).srt]
/-- without one -/
def keepN (d : Int) (o : List Np) : List Np := o.filter (fun p => !(p.1 == d))
theorem keepN_none {d : Int} {o : List Np} (h : hasN o d = false) : keepN d o = o := List.filter_eq_self.2 fun p hp => by
  have := hasN_no.1 h p hp
  simpa using this
theorem keepN_put {m : List Np} {x : Np} (h : Srt m) (hn : hasN m x.1 = false) : keepN x.1 (putF m x) = m := by
  have hf : ∀ p : Np → Bool, keepN x.1 (m.filter p) = m.filter p := fun p => keepN_none (hasN_no.2 fun y hy => hasN_no.1 hn y (List.mem_filter.1 hy).1)
  have : keepN x.1 (putF m x) = keepN x.1 (m.filter (fun y => decide (y.2 ≤ x.2))) ++ keepN x.1 (m.filter (fun y => decide (x.2 < y.2))) := by
    unfold putF keepN
    rw [List.filter_append, List.filter_cons_of_neg (by simp)]
  rw [this, hf, hf, srt_split h]
end Go.Proofs.YtppnijapeepbnaaR
