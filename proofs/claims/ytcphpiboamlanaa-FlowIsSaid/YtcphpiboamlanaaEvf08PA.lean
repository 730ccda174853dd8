/- Evf08PA: a part of the proof. -/
import Derived.Test.YtcphpiboamlanaaEvf08R0
open Go Go.Proofs.YtcphpiboamlanaaEv Go.Proofs.YtcphpiboamlanaaR Go.IntWalk
set_option maxRecDepth 20000
set_option maxHeartbeats 8000000
set_option linter.unusedVariables false
set_option linter.unusedSimpArgs false
namespace Go.Proofs.YtcphpiboamlanaaR
/-- does an instruction lead to a place? -/
def leadsB (o : Int) : Bool := o == 1 || (o == 2 || (o == 6 || (o == 7 || o == 8)))
def MOk (n : Nat) (p : Pr) : Prop := 1 ≤ p.1 ∧ p.1 ≤ 3 ∧ 0 ≤ p.2 ∧ p.2 ≤ n ∧ (p.1 = 1 → p.2 < n)
def OOk (d n : Nat) (p : Pr) : Prop := 1 ≤ p.1 ∧ p.1 ≤ d ∧ 0 ≤ p.2 ∧ p.2 < n
structure Ok (b : Bd) : Prop where
  c : b.c.length ≤ 4096
  m : ∀ p ∈ b.m, MOk b.c.length p
  o : ∀ p ∈ b.o, OOk (deep b.m) b.c.length p
theorem saneB_iff (b : Bd) : saneB b = true ↔ Ok b := by
  unfold saneB
  simp only [Bool.and_eq_true, decide_eq_true_eq, Bool.not_eq_true', List.any_eq_false, Bool.not_eq_true]
  constructor
  · rintro ⟨h1, h2, h3⟩
    refine ⟨by omega, fun p hp => ?_, fun p hp => ?_⟩
    · have := h2 p hp
      simp only [badM, Bool.or_eq_false_iff, decide_eq_false_iff_not, Bool.and_eq_false_iff, beq_eq_false_iff_ne, ne_eq] at this
      unfold MOk
      omega
    · have := h3 p hp
      simp only [outM, Bool.or_eq_false_iff, decide_eq_false_iff_not] at this
      unfold OOk
      omega
  · rintro ⟨h1, h2, h3⟩
    refine ⟨by omega, fun p hp => ?_, fun p hp => ?_⟩
    · have := h2 p hp
      unfold MOk at this
      simp only [badM, Bool.or_eq_false_iff, decide_eq_false_iff_not, Bool.and_eq_false_iff, beq_eq_false_iff_ne, ne_eq]
      omega
    · have := h3 p hp
      unfold OOk at this
      simp only [outM, Bool.or_eq_false_iff, decide_eq_false_iff_not]
      omega
theorem MOk.mono {n n' : Nat} {p : Pr} (h : MOk n p) (hn : n ≤ n') : MOk n' p := by unfold MOk at *; omega
theorem OOk.mono {d d' n n' : Nat} {p : Pr} (h : OOk d n p) (hd : d ≤ d') (hn : n ≤ n') : OOk d' n' p := by unfold OOk at *; omega
/-- each instruction that leads, leads to a place, or the end -/
def Jn (n : Nat) (c : List Pr) : Prop := ∀ p ∈ c, leadsB p.1 = true → 0 ≤ p.2 ∧ p.2 ≤ n
theorem Jn.mono {n n' : Nat} {c : List Pr} (h : Jn n c) (hn : n ≤ n') : Jn n' c := fun p hp hl => by have := h p hp hl; omega
theorem Jn.snoc {n : Nat} {c : List Pr} (h : Jn n c) {o a : Int} (ha : leadsB o = true → 0 ≤ a ∧ a ≤ n) : Jn n (c ++ [(o, a)]) := fun p hp hl => by
  rcases List.mem_append.1 hp with q | q
  · exact h p q hl
  · obtain rfl := List.mem_singleton.1 q
    exact ha hl
theorem Jn.res {n : Nat} {c : List Pr} (h : Jn n c) (hc : c.length ≤ n) (a : Nat) : Jn n (resC c a) := fun p hp hl => by
  unfold resC resR at hp
  rcases List.mem_append.1 hp with q | q
  · rcases List.mem_append.1 q with q | q
    · exact h p (List.mem_of_mem_take q) hl
    · obtain rfl := List.mem_singleton.1 q
      show 0 ≤ (c.length : Int) ∧ (c.length : Int) ≤ n
      omega
  · exact h p (List.mem_of_mem_drop q) hl
theorem Jn.kill {n : Nat} (d : Int) : ∀ {o : List Pr} {c : List Pr}, Jn n c → OutOk n o → c.length = n → Jn n (killC d c o)
  | [], c, h, _, hc => h
  | x :: o, c, h, ho, hc => by
    obtain ⟨k, ek, hk⟩ := ho x (List.mem_cons_self)
    unfold killC
    by_cases hx : x.1 = d
    · rw [if_pos hx]
      refine Jn.kill d (h.res (by omega) _) (fun p hp => ho p (List.mem_cons_of_mem _ hp)) ?_
      rw [ek, Int.toNat_natCast, resC_len c (by omega), hc]
    · rw [if_neg hx]
      exact Jn.kill d h (fun p hp => ho p (List.mem_cons_of_mem _ hp)) hc
theorem ops_res {c : List Pr} {a : Nat} (h : a < c.length) : (resC c a).map Prod.fst = c.map Prod.fst := by
  unfold resC resR
  have e : c = c.take a ++ [c.getD a (0, 0)] ++ c.drop (a + 1) := by
    rw [← take_snoc h, List.take_append_drop]
  conv => rhs; rw [e]
  simp only [List.map_append, List.map_cons, List.map_nil]
theorem ops_kill {n : Nat} (d : Int) : ∀ {o : List Pr} {c : List Pr}, OutOk n o → c.length = n → (killC d c o).map Prod.fst = c.map Prod.fst
  | [], c, _, hc => rfl
  | x :: o, c, ho, hc => by
    obtain ⟨k, ek, hk⟩ := ho x (List.mem_cons_self)
    unfold killC
    by_cases hx : x.1 = d
    · rw [if_pos hx, ops_kill d (fun p hp => ho p (List.mem_cons_of_mem _ hp)) (by rw [ek, Int.toNat_natCast, resC_len c (by omega), hc]), ek, Int.toNat_natCast, ops_res (by omega)]
    · rw [if_neg hx]
      exact ops_kill d (fun p hp => ho p (List.mem_cons_of_mem _ hp)) hc
theorem deep_append (l r : List Pr) : deep (l ++ r) = deep l + deep r := by unfold deep; rw [List.countP_append]
theorem deep_one (p : Pr) : deep [p] = if p.1 = 3 then 1 else 0 := by
  unfold deep
  simp only [List.countP_cons, List.countP_nil, beq_iff_eq, Nat.zero_add]
/-- the mark on top -/
theorem topP_snoc {m : List Pr} {k : Int} (h : (topP m 0 k).2 = true) : ∃ l, m = l ++ [(k, (topP m 0 k).1)] ∧ m.take (m.length - 1) = l := by
  have ht : topP m 0 k = ((topP m 0 k).1, true) := Prod.ext rfl h
  have q := topP_ok ht
  refine ⟨m.take (m.length - 1), ?_, rfl⟩
  have e := take_snoc (l := m) (j := m.length - 1) (by omega)
  rw [Nat.sub_zero] at q
  rw [show m.length - 1 + 1 = m.length by omega, List.take_length, q.2] at e
  exact e
theorem topP_snoc2 {m : List Pr} {k k2 : Int} (h : (topP m 0 k).2 = true) (h2 : (topP m 1 k2).2 = true) : ∃ l, m = l ++ [(k2, (topP m 1 k2).1), (k, (topP m 0 k).1)] ∧ m.take (m.length - 2) = l := by
  have q := topP_ok (Prod.ext rfl h : topP m 0 k = ((topP m 0 k).1, true))
  have q2 := topP_ok (Prod.ext rfl h2 : topP m 1 k2 = ((topP m 1 k2).1, true))
  refine ⟨m.take (m.length - 2), ?_, rfl⟩
  rw [Nat.sub_zero] at q
  have e := take_snoc (l := m) (j := m.length - 1) (by omega)
  have e2 := take_snoc (l := m) (j := m.length - 1 - 1) (by omega)
  rw [show m.length - 1 - 1 + 1 = m.length - 1 by omega, q2.2] at e2
  rw [show m.length - 1 + 1 = m.length by omega, List.take_length, q.2, e2] at e
  rw [show m.length - 2 = m.length - 1 - 1 by omega]
  rw [List.append_assoc] at e
  exact e
structure Step (b b' : Bd) : Prop where
  ok : Ok b'
  j : Jn b.c.length b.c → Jn b'.c.length b'.c
  ops : ∃ t : List Int, t.length ≤ 2 ∧ b'.c.map Prod.fst = b.c.map Prod.fst ++ t
  m1 : b'.m.length ≤ b.m.length + 1
  m2 : b.m.length ≤ b'.m.length + 2
  o1 : b'.o.length ≤ b.o.length + 1
theorem Step.len {b b' : Bd} (h : Step b b') : b.c.length ≤ b'.c.length ∧ b'.c.length ≤ b.c.length + 2 := by
  obtain ⟨t, ht, e⟩ := h.ops
  have := congrArg List.length e
  rw [List.length_map, List.length_append, List.length_map] at this
  omega
theorem step_open (o k bh : Int) (hk : (k = 1 ∧ bh = 0) ∨ (k = 3 ∧ bh = 1)) {b : Bd} (hb : Ok b) (h : (openW o k bh b).1 = 0) : Step b (openW o k bh b).2 := by
  by_cases h1 : b.c.length + 1 ≤ 4096
  · have e : openW o k bh b = _ := if_pos h1
    rw [e]
    have lc : (b.c ++ [(o, (0 : Int))]).length = b.c.length + 1 := by simp
    refine ⟨⟨by show (b.c ++ [_]).length ≤ _; omega, fun p hp => ?_, fun p hp => ?_⟩, fun hj => ?_, ⟨[o], by simp, by simp⟩, by simp, by simp; omega, Nat.le_succ _⟩
    · show MOk (b.c ++ [_]).length p
      rw [lc]
      rcases List.mem_append.1 hp with q | q
      · exact (hb.m p q).mono (by omega)
      · obtain rfl := List.mem_singleton.1 q
        unfold MOk
        simp only
        omega
    · show OOk (deep (b.m ++ _)) (b.c ++ [_]).length p
      rw [lc, deep_append]
      exact (hb.o p hp).mono (by omega) (by omega)
    · show Jn (b.c ++ [_]).length (b.c ++ [_])
      rw [lc]
      exact (hj.mono (by omega)).snoc fun _ => by omega
  · have e : openW o k bh b = _ := if_neg h1
    rw [e] at h
    simp at h
theorem step_may {b : Bd} (hb : Ok b) (h : (mayW b).1 = 0) : Step b (mayW b).2 := by
  by_cases h1 : b.c.length + 1 ≤ 4096
  · have e : mayW b = _ := if_pos h1
    rw [e]
    have lc : (b.c ++ [((6 : Int), (0 : Int))]).length = b.c.length + 1 := by simp
    have ld : deep (b.m ++ [(3, (b.c.length : Int) + 1)]) = deep b.m + 1 := by rw [deep_append, deep_one, if_pos rfl]
    refine ⟨⟨by show (b.c ++ [_]).length ≤ _; omega, fun p hp => ?_, fun p hp => ?_⟩, fun hj => ?_, ⟨[6], by simp, by simp⟩, by simp, by simp; omega, by simp⟩
    · show MOk (b.c ++ [_]).length p
      rw [lc]
      rcases List.mem_append.1 hp with q | q
      · exact (hb.m p q).mono (by omega)
      · obtain rfl := List.mem_singleton.1 q
        unfold MOk
        simp only
        omega
    · show OOk (deep (b.m ++ _)) (b.c ++ [_]).length p
      rw [lc, ld]
      rcases List.mem_append.1 hp with q | q
      · exact (hb.o p q).mono (by omega) (by omega)
      · obtain rfl := List.mem_singleton.1 q
        unfold OOk
        simp only [ld]
        omega
    · show Jn (b.c ++ [_]).length (b.c ++ [_])
      rw [lc]
      exact (hj.mono (by omega)).snoc fun _ => by omega
  · have e : mayW b = _ := if_neg h1
    rw [e] at h
    simp at h
theorem step_begin {b : Bd} (hb : Ok b) : Step b (beginW b).2 := by
  refine ⟨⟨hb.c, fun p hp => ?_, fun p hp => ?_⟩, fun hj => hj, ⟨[], by simp, by simp [beginW]⟩, by simp [beginW], by simp [beginW]; omega, Nat.le_succ _⟩
  · rcases List.mem_append.1 hp with q | q
    · exact hb.m p q
    · obtain rfl := List.mem_singleton.1 q
      show MOk b.c.length _
      unfold MOk
      simp only
      omega
  · show OOk (deep (b.m ++ _)) b.c.length p
    rw [deep_append]
    exact (hb.o p hp).mono (by omega) (by omega)
theorem step_then {b : Bd} (hb : Ok b) (h : (thenW b).1 = 0) : Step b (thenW b).2 := by
  by_cases ht : (topP b.m 0 1).2 = true
  · have e : thenW b = _ := if_pos ht
    rw [e]
    obtain ⟨l, em, el⟩ := topP_snoc ht
    generalize (topP b.m 0 1).1 = a at em ⊢
    have hm := hb.m (1, a) (by rw [em]; simp)
    have hm1 : a < b.c.length := hm.2.2.2.2 rfl
    have hm0 : 0 ≤ a := hm.2.2.1
    have ha : a.toNat < b.c.length := by omega
    have lc := resC_len b.c ha
    have ld : deep b.m = deep l := by rw [em, deep_append, deep_one, if_neg (by simp)]; rfl
    rw [el]
    refine ⟨⟨by show (resC _ _).length ≤ _; rw [lc]; exact hb.c, fun p hp => ?_, fun p hp => ?_⟩, fun hj => ?_, ⟨[], by simp, ?_⟩, ?_, ?_, Nat.le_succ _⟩
    · show MOk (resC _ _).length p
      rw [lc]
      exact hb.m p (by rw [em]; exact List.mem_append_left _ hp)
    · show OOk (deep l) (resC _ _).length p
      rw [lc, ← ld]
      exact hb.o p hp
    · show Jn (resC _ _).length (resC _ _)
      rw [lc]
      exact hj.res (Nat.le_refl _) _
    · show (resC _ _).map _ = _
      rw [ops_res ha, List.append_nil]
    · show l.length ≤ _
      rw [em]; simp; omega
    · show b.m.length ≤ l.length + 2
      rw [em]; simp
  · have e : thenW b = _ := if_neg ht
    rw [e] at h
    simp at h
theorem step_else {b : Bd} (hb : Ok b) (h : (elseW b).1 = 0) : Step b (elseW b).2 := by
  by_cases ht : (topP b.m 0 1).2 = true
  · by_cases h1 : b.c.length + 1 ≤ 4096
    · have e : elseW b = _ := (if_pos ht).trans (if_pos h1)
      rw [e]
      obtain ⟨l, em, el⟩ := topP_snoc ht
      generalize (topP b.m 0 1).1 = a at em ⊢
      have hm := hb.m (1, a) (by rw [em]; simp)
      unfold MOk at hm
      simp only at hm
      have l1 : (b.c ++ [((1 : Int), (0 : Int))]).length = b.c.length + 1 := by simp
      have ha : a.toNat < (b.c ++ [((1 : Int), (0 : Int))]).length := by omega
      have lc := (resC_len _ ha).trans l1
      have ld : deep b.m = deep l := by rw [em, deep_append, deep_one, if_neg (by simp)]; rfl
      rw [el]
      refine ⟨⟨by show (resC _ _).length ≤ _; rw [lc]; exact h1, fun p hp => ?_, fun p hp => ?_⟩, fun hj => ?_, ⟨[1], by simp, ?_⟩, ?_, ?_, Nat.le_succ _⟩
      · show MOk (resC _ _).length p
        rw [lc]
        rcases List.mem_append.1 hp with q | q
        · exact (hb.m p (by rw [em]; exact List.mem_append_left _ q)).mono (by omega)
        · obtain rfl := List.mem_singleton.1 q
          unfold MOk
          simp only
          omega
      · show OOk (deep (l ++ _)) (resC _ _).length p
        rw [lc, deep_append, ← ld]
        exact (hb.o p hp).mono (by omega) (by omega)
      · show Jn (resC _ _).length (resC _ _)
        rw [lc]
        exact ((hj.mono (Nat.le_succ _)).snoc fun _ => by omega).res (by rw [l1]; omega) _
      · show (resC _ _).map _ = _
        rw [ops_res ha]; simp
      · show (l ++ _).length ≤ _
        rw [em]; simp
      · show b.m.length ≤ (l ++ _).length + 2
        rw [em]; simp
    · have e : elseW b = _ := (if_pos ht).trans (if_neg h1)
      rw [e] at h
      simp at h
  · have e : elseW b = _ := if_neg ht
    rw [e] at h
    simp at h
theorem step_back (o k : Int) (hk : k = 2) {b : Bd} (hb : Ok b) (h : (backW o k b).1 = 0) : Step b (backW o k b).2 := by
  by_cases ht : (topP b.m 0 k).2 = true
  · by_cases h1 : b.c.length + 1 ≤ 4096
    · have e : backW o k b = _ := (if_pos ht).trans (if_pos h1)
      rw [e]
      obtain ⟨l, em, el⟩ := topP_snoc ht
      generalize (topP b.m 0 k).1 = a at em ⊢
      have hm := hb.m (k, a) (by rw [em]; simp)
      unfold MOk at hm
      simp only at hm
      have lc : (b.c ++ [(o, a)]).length = b.c.length + 1 := by simp
      have ld : deep b.m = deep l := by rw [em, deep_append, deep_one, if_neg (by simp; omega)]; rfl
      rw [el]
      refine ⟨⟨by show (b.c ++ _).length ≤ _; rw [lc]; exact h1, fun p hp => ?_, fun p hp => ?_⟩, fun hj => ?_, ⟨[o], by simp, by simp⟩, ?_, ?_, Nat.le_succ _⟩
      · show MOk (b.c ++ _).length p
        rw [lc]
        exact (hb.m p (by rw [em]; exact List.mem_append_left _ hp)).mono (by omega)
      · show OOk (deep l) (b.c ++ _).length p
        rw [lc, ← ld]
        exact (hb.o p hp).mono (by omega) (by omega)
      · show Jn (b.c ++ _).length (b.c ++ _)
        rw [lc]
        exact (hj.mono (Nat.le_succ _)).snoc fun _ => by omega
      · show l.length ≤ _
        rw [em]; simp; omega
      · show b.m.length ≤ l.length + 2
        rw [em]; simp
    · have e : backW o k b = _ := (if_pos ht).trans (if_neg h1)
      rw [e] at h
      simp at h
  · have e : backW o k b = _ := if_neg ht
    rw [e] at h
    simp at h
theorem step_while {b : Bd} (hb : Ok b) (h : (whileW b).1 = 0) : Step b (whileW b).2 := by
  by_cases ht : (topP b.m 0 2).2 = true
  · by_cases h1 : b.c.length + 1 ≤ 4096
    · have e : whileW b = _ := (if_pos ht).trans (if_pos h1)
      rw [e]
      obtain ⟨l, em, el⟩ := topP_snoc ht
      generalize (topP b.m 0 2).1 = a at em ⊢
      have hm := hb.m (2, a) (by rw [em]; simp)
      unfold MOk at hm
      simp only at hm
      have lc : (b.c ++ [((2 : Int), (0 : Int))]).length = b.c.length + 1 := by simp
      have ld : deep b.m = deep l := by rw [em, deep_append, deep_one, if_neg (by simp)]; rfl
      rw [el]
      refine ⟨⟨by show (b.c ++ _).length ≤ _; rw [lc]; exact h1, fun p hp => ?_, fun p hp => ?_⟩, fun hj => ?_, ⟨[2], by simp, by simp⟩, ?_, ?_, Nat.le_succ _⟩
      · show MOk (b.c ++ _).length p
        rw [lc]
        rcases List.mem_append.1 hp with q | q
        · rcases List.mem_append.1 q with q | q
          · exact (hb.m p (by rw [em]; exact List.mem_append_left _ q)).mono (by omega)
          · obtain rfl := List.mem_singleton.1 q
            unfold MOk
            simp only
            omega
        · obtain rfl := List.mem_singleton.1 q
          unfold MOk
          simp only
          omega
      · show OOk (deep (l ++ _ ++ _)) (b.c ++ _).length p
        rw [lc, deep_append, deep_append, ← ld]
        exact (hb.o p hp).mono (by omega) (by omega)
      · show Jn (b.c ++ _).length (b.c ++ _)
        rw [lc]
        exact (hj.mono (Nat.le_succ _)).snoc fun _ => by omega
      · show (l ++ _ ++ _).length ≤ _
        rw [em]; simp
      · show b.m.length ≤ (l ++ _ ++ _).length + 2
        rw [em]; simp
    · have e : whileW b = _ := (if_pos ht).trans (if_neg h1)
      rw [e] at h
      simp at h
  · have e : whileW b = _ := if_neg ht
    rw [e] at h
    simp at h
theorem step_repeat {b : Bd} (hb : Ok b) (h : (repeatW b).1 = 0) : Step b (repeatW b).2 := by
  by_cases ht : (topP b.m 1 1).2 = true ∧ (topP b.m 0 2).2 = true
  · by_cases h1 : b.c.length + 1 ≤ 4096
    · have e : repeatW b = _ := (if_pos ht).trans (if_pos h1)
      rw [e]
      obtain ⟨l, em, el⟩ := topP_snoc2 ht.2 ht.1
      generalize (topP b.m 1 1).1 = a at em ⊢
      generalize (topP b.m 0 2).1 = a2 at em ⊢
      have hm := hb.m (1, a) (by rw [em]; simp)
      have hm2 := hb.m (2, a2) (by rw [em]; simp)
      unfold MOk at hm hm2
      simp only at hm hm2
      have l1 : (b.c ++ [((1 : Int), a2)]).length = b.c.length + 1 := by simp
      have ha : a.toNat < (b.c ++ [((1 : Int), a2)]).length := by omega
      have lc := (resC_len _ ha).trans l1
      have ld : deep b.m = deep l := by rw [em, deep_append]; rfl
      rw [el]
      refine ⟨⟨by show (resC _ _).length ≤ _; rw [lc]; exact h1, fun p hp => ?_, fun p hp => ?_⟩, fun hj => ?_, ⟨[1], by simp, ?_⟩, ?_, ?_, Nat.le_succ _⟩
      · show MOk (resC _ _).length p
        rw [lc]
        exact (hb.m p (by rw [em]; exact List.mem_append_left _ hp)).mono (by omega)
      · show OOk (deep l) (resC _ _).length p
        rw [lc, ← ld]
        exact (hb.o p hp).mono (by omega) (by omega)
      · show Jn (resC _ _).length (resC _ _)
        rw [lc]
        exact ((hj.mono (Nat.le_succ _)).snoc fun _ => by omega).res (by rw [l1]; omega) _
      · show (resC _ _).map _ = _
        rw [ops_res ha]; simp
      · show l.length ≤ _
        rw [em]; simp; omega
      · show b.m.length ≤ l.length + 2
        rw [em]; simp
    · have e : repeatW b = _ := (if_pos ht).trans (if_neg h1)
      rw [e] at h
      simp at h
  · have e : repeatW b = _ := if_neg ht
    rw [e] at h
    simp at h
theorem step_leave {b : Bd} (hb : Ok b) (h : (leaveW b).1 = 0) : Step b (leaveW b).2 := by
  by_cases ht : deep b.m = 0
  · have e : leaveW b = _ := if_pos ht
    rw [e] at h
    simp at h
  · by_cases h1 : b.c.length + 2 ≤ 4096
    · have e : leaveW b = _ := (if_neg ht).trans (if_pos h1)
      rw [e]
      have lc : (b.c ++ [((9 : Int), (0 : Int)), (1, 0)]).length = b.c.length + 2 := by simp
      refine ⟨⟨by show (b.c ++ _).length ≤ _; omega, fun p hp => ?_, fun p hp => ?_⟩, fun hj => ?_, ⟨[9, 1], by simp, by simp⟩, by simp, by simp, by simp⟩
      · show MOk (b.c ++ _).length p
        rw [lc]
        exact (hb.m p hp).mono (by omega)
      · show OOk (deep b.m) (b.c ++ _).length p
        rw [lc]
        rcases List.mem_append.1 hp with q | q
        · exact (hb.o p q).mono (by omega) (by omega)
        · obtain rfl := List.mem_singleton.1 q
          unfold OOk
          simp only
          omega
      · show Jn (b.c ++ _).length (b.c ++ _)
        rw [lc, show b.c ++ [((9 : Int), (0 : Int)), (1, 0)] = (b.c ++ [(9, 0)]) ++ [(1, 0)] by simp]
        exact ((hj.mono (by omega)).snoc fun _ => by omega).snoc fun _ => by omega
    · have e : leaveW b = _ := (if_neg ht).trans (if_neg h1)
      rw [e] at h
      simp at h
theorem step_close (o : Int) {b : Bd} (hb : Ok b) (h : (closeW o b).1 = 0) : Step b (closeW o b).2 := by
  by_cases ht : (topP b.m 0 3).2 = true
  · by_cases h1 : b.c.length + 1 ≤ 4096
    · have e : closeW o b = _ := (if_pos ht).trans (if_pos h1)
      rw [e]
      obtain ⟨l, em, el⟩ := topP_snoc ht
      generalize (topP b.m 0 3).1 = a at em ⊢
      have hm := hb.m (3, a) (by rw [em]; simp)
      unfold MOk at hm
      simp only at hm
      have l1 : (b.c ++ [(o, a)]).length = b.c.length + 1 := by simp
      have ho : OutOk (b.c.length + 1) b.o := fun p hp => by
        have := hb.o p hp
        unfold OOk at this
        exact ⟨p.2.toNat, by omega, by omega⟩
      have lc := killC_len (deep b.m : Nat) _ ho l1
      have ld : deep b.m = deep l + 1 := by rw [em, deep_append, deep_one, if_pos rfl]
      rw [el]
      refine ⟨⟨by show (killC _ _ _).length ≤ _; rw [lc]; exact h1, fun p hp => ?_, fun p hp => ?_⟩, fun hj => ?_, ⟨[o], by simp, ?_⟩, ?_, ?_, Nat.le_succ_of_le (List.length_filter_le _ _)⟩
      · show MOk (killC _ _ _).length p
        rw [lc]
        exact (hb.m p (by rw [em]; exact List.mem_append_left _ hp)).mono (by omega)
      · show OOk (deep l) (killC _ _ _).length p
        rw [lc]
        have q := List.mem_filter.1 (show p ∈ b.o.filter (fun p => !(p.1 == ((deep b.m : Nat) : Int))) from hp)
        have w := hb.o p q.1
        have ne : p.1 ≠ ((deep b.m : Nat) : Int) := by simpa using q.2
        unfold OOk at w ⊢
        omega
      · show Jn (killC _ _ _).length (killC _ _ _)
        rw [lc]
        exact ((hj.mono (Nat.le_succ _)).snoc fun _ => by omega).kill _ ho l1
      · show (killC _ _ _).map _ = _
        rw [ops_kill _ ho l1]; simp
      · show l.length ≤ _
        rw [em]; simp; omega
      · show b.m.length ≤ l.length + 2
        rw [em]; simp
    · have e : closeW o b = _ := (if_pos ht).trans (if_neg h1)
      rw [e] at h
      simp at h
  · have e : closeW o b = _ := if_neg ht
    rw [e] at h
    simp at h
theorem step_word {k : Nat} (hk : k < 13) {b : Bd} (hb : Ok b) (h : (wordF k b).1 = 0) : Step b (wordF k b).2 := by
  match k, hk with
  | 0, _ => exact step_open 2 1 0 (.inl ⟨rfl, rfl⟩) hb h
  | 1, _ => exact step_else hb h
  | 2, _ => exact step_then hb h
  | 3, _ => exact step_begin hb
  | 4, _ => exact step_back 1 2 rfl hb h
  | 5, _ => exact step_back 2 2 rfl hb h
  | 6, _ => exact step_while hb h
  | 7, _ => exact step_repeat hb h
  | 8, _ => exact step_open 5 3 1 (.inr ⟨rfl, rfl⟩) hb h
  | 9, _ => exact step_may hb h
  | 10, _ => exact step_close 7 hb h
  | 11, _ => exact step_close 8 hb h
  | 12, _ => exact step_leave hb h
theorem ownB_ok {b : Bd} (h : Ok b) : ownB b = b := if_pos ((saneB_iff b).2 h)
theorem ok_emp : Ok emp := ⟨by decide, fun p hp => absurd hp List.not_mem_nil, fun p hp => absurd hp List.not_mem_nil⟩
theorem ok_ownB (b : Bd) : Ok (ownB b) := by
  unfold ownB
  split
  · next h => exact (saneB_iff b).1 h
  · exact ok_emp
end Go.Proofs.YtcphpiboamlanaaR
