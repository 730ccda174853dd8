/- Evf17F4: a part of the proof. -/
import Derived.Test.YtppnijapeepbnaaEvf17F3
open Go Go.Proofs.YtppnijapeepbnaaEv Go.Proofs.YtppnijapeepbnaaR Go.IntWalk Go.Proofs
set_option maxRecDepth 20000
set_option maxHeartbeats 8000000
set_option linter.unusedVariables false
set_option linter.unusedSimpArgs false
namespace Go.Proofs.YtppnijapeepbnaaR
theorem lenIds (l : List Np) : (idsP l).length = l.length := by unfold idsP; simp
theorem allIds (l : List Np) : (idsP l).take l.length = idsP l := List.take_of_length_le (by rw [lenIds]; exact Nat.le_refl _)
theorem snocIds (l : List Np) (x y : Int) : idsP l ++ [PV.int .i64 x] = idsP (l ++ [(x, y)]) := by unfold idsP; simp
theorem sortB_snoc {p : List Np} {y x : Np} (h : sortB (p ++ [y]) = true) (hx : ¬ x.2 < y.2) : sortB (p ++ [y] ++ [x]) = true := by
  have h1 := srt_of h
  refine srt_to (List.pairwise_append.2 ⟨h1, List.pairwise_singleton _ _, fun a ha b hb => ?_⟩)
  rw [List.mem_singleton.1 hb]
  rcases List.mem_append.1 ha with ha | ha
  · have := (List.pairwise_append.1 h1).2.2 a ha y (List.mem_singleton.2 rfl)
    omega
  · rw [List.mem_singleton.1 ha]; omega
theorem bad {m : List Np} (h : okN [] m = false) : saneB m = false := by unfold saneB; rw [h]; rfl
section
variable {cf : CF} (hcf : cf = ev env)
include hcf
theorem s32 (m : List Np) (i : Int) (hl : m.length ≤ 1000000) : Sp cf 32 [slN m, .int .i64 i] (.bool (hasN m i)) := by
  refine sp_of hcf env32 ?_
  simp only [slN]
  conv => arg 2; simp only [ir32]
  conv => arg 3; simp only [ir32, Go.Proofs.YtppnijapeepbnaaEv.start, List.length, Nat.reduceAdd, Nat.reduceSub, List.reduceReplicate, List.append_eq, List.cons_append, List.nil_append]
  conv => arg 4; simp only [heapOf]
  try conv => arg 5; simp only [List.length, Nat.reduceAdd]
  try conv => arg 6; simp only [List.length, Nat.reduceAdd]
  refine EVgo9 trivial trivial trivial trivial trivial trivial trivial trivial trivial trivial trivial trivial ?_
  refine WC.loop (T' := _) (H' := _) (n' := _) rfl ((?_ : ∀ (r p : List Np), p ++ r = m → hasN m i = hasN r i →
    WC cf _ (mkT 19 [(0, .sl m.length false (flat encN m)), (1, .int .i64 i), (5, .int .i64 (p.length : Nat))]) [] 0 0 _) m [] rfl rfl)
  intro r
  induction r with
  | nil =>
    intro p hp hh
    rw [List.append_nil] at hp
    subst hp
    rw [hh]
    conv => arg 3; simp only [mkT, putT, List.reduceReplicate, List.set]
    refine EVgl9 trivial trivial trivial trivial trivial trivial trivial trivial trivial trivial trivial trivial ?_
    exact EVret trivial
  | cons x r ih =>
    intro p hp hh
    obtain ⟨x, y⟩ := x
    have hlen : m.length = p.length + (r.length + 1) := by rw [← hp]; simp
    have hlt : (p.length : Int) < (m.length : Int) := by omega
    have hw : IntKind.i64.wrap ((p.length : Int) + 1) = ((p.length + 1 : Nat) : Int) := by rw [i64_in _ (by omega)]; simp
    have e0 := mid_N hp
    have hpx : (p ++ [(x, y)]) ++ r = m := by rw [List.append_assoc]; exact hp
    have hih := ih (p ++ [(x, y)]) hpx
    rw [snoc_len] at hih
    have hh' : hasN m i = ((i == x) || hasN r i) := hh
    by_cases hx : x = i
    · have hx' : (x == i) = true := beq_iff_eq.2 hx
      rw [beq_iff_eq.2 hx.symm, Bool.true_or] at hh'
      rw [hh']
      conv => arg 3; simp only [mkT, putT, List.reduceReplicate, List.set]
      refine EVgo9 (And.intro (hlt) ( And.intro (e0) (hx'))) trivial trivial trivial trivial trivial trivial trivial trivial trivial trivial trivial ?_
      exact EVret trivial
    · have hx' : (x == i) = false := beq_eq_false_iff_ne.2 hx
      rw [beq_eq_false_iff_ne.2 (Ne.symm hx), Bool.false_or] at hh'
      conv => arg 3; simp only [mkT, putT, List.reduceReplicate, List.set]
      refine EVgo9 (And.intro (hlt) ( And.intro (e0) ( And.intro (hx') (hw)))) trivial trivial trivial trivial trivial trivial trivial trivial trivial trivial trivial ?_
      exact WC.loop rfl (hih hh')
theorem s21 (m : List Np) (hl : m.length ≤ 1000000) : Sp cf 21 [slN m] (.bool (saneB m)) := by
  refine sp_of hcf env21 ?_
  simp only [slN]
  conv => arg 2; simp only [ir21]
  conv => arg 3; simp only [ir21, Go.Proofs.YtppnijapeepbnaaEv.start, List.length, Nat.reduceAdd, Nat.reduceSub, List.reduceReplicate, List.append_eq, List.cons_append, List.nil_append]
  conv => arg 4; simp only [heapOf]
  try conv => arg 5; simp only [List.length, Nat.reduceAdd]
  try conv => arg 6; simp only [List.length, Nat.reduceAdd]
  refine EVgo9 trivial trivial trivial trivial trivial trivial trivial trivial trivial trivial trivial trivial ?_
  refine WC.loop (T' := _) (H' := _) (n' := _) rfl ((?_ : ∀ (r p : List Np), p ++ r = m → okN [] m = okN p r → sortB p = true →
    WC cf _ (mkT 78 [(0, .sl m.length false (flat encN m)), (3, .int .i64 (p.length : Nat))]) [] 0 0 _) m [] rfl rfl rfl)
  intro r
  induction r with
  | nil =>
    intro p hp hok hso
    rw [List.append_nil] at hp
    subst hp
    have e : saneB p = true := by unfold saneB; rw [hok, hso]; rfl
    have h8 : (p.length : Int) ≤ 8 := by have := (sane_iff.1 e).len; omega
    rw [e]
    conv => arg 3; simp only [mkT, putT, List.reduceReplicate, List.set]
    refine EVgl9 trivial trivial trivial trivial trivial trivial trivial trivial trivial trivial trivial trivial ?_
    refine EVgo9 (h8) trivial trivial trivial trivial trivial trivial trivial trivial trivial trivial trivial ?_
    exact EVret trivial
  | cons x r ih =>
    intro p hp hok hso
    obtain ⟨x, y⟩ := x
    have hlen : m.length = p.length + (r.length + 1) := by rw [← hp]; simp
    have hlt : (p.length : Int) < (m.length : Int) := by omega
    have hw : IntKind.i64.wrap ((p.length : Int) + 1) = ((p.length + 1 : Nat) : Int) := by rw [i64_in _ (by omega)]; simp
    have e0 := mid_N hp
    have hpx : (p ++ [(x, y)]) ++ r = m := by rw [List.append_assoc]; exact hp
    have hok' : okN [] m = (mayB (x, y) && (!hasN p x && okN (p ++ [(x, y)]) r)) := hok
    have hno : mayB (x, y) = false → saneB m = false := fun h => bad (by rw [hok', h]; rfl)
    by_cases h1 : x < 0
    · rw [hno (by rw [← Bool.not_eq_true, may_iff]; simp; omega)]
      conv => arg 3; simp only [mkT, putT, List.reduceReplicate, List.set]
      refine EVgo9 (And.intro (hlt) ( And.intro (e0) (h1))) trivial trivial trivial trivial trivial trivial trivial trivial trivial trivial trivial ?_
      exact EVret trivial
    by_cases h2 : x > 7
    · rw [hno (by rw [← Bool.not_eq_true, may_iff]; simp; omega)]
      conv => arg 3; simp only [mkT, putT, List.reduceReplicate, List.set]
      refine EVgo9 (And.intro (hlt) ( And.intro (e0) ( And.intro (h1) (h2)))) trivial trivial trivial trivial trivial trivial trivial trivial trivial trivial trivial ?_
      exact EVret trivial
    by_cases h3 : y < 0
    · rw [hno (by rw [← Bool.not_eq_true, may_iff]; simp; omega)]
      conv => arg 3; simp only [mkT, putT, List.reduceReplicate, List.set]
      refine EVgo9 (And.intro (hlt) ( And.intro (e0) ( And.intro (h1) ( And.intro (h2) (h3))))) trivial trivial trivial trivial trivial trivial trivial trivial trivial trivial trivial ?_
      exact EVret trivial
    by_cases h4 : y > 1125899906842624
    · rw [hno (by rw [← Bool.not_eq_true, may_iff]; simp; omega)]
      conv => arg 3; simp only [mkT, putT, List.reduceReplicate, List.set]
      refine EVgo9 (And.intro (hlt) ( And.intro (e0) ( And.intro (h1) ( And.intro (h2) ( And.intro (h3) (h4)))))) trivial trivial trivial trivial trivial trivial trivial trivial trivial trivial trivial ?_
      exact EVret trivial
    have hmay : mayB (x, y) = true := may_iff.2 (by simp; omega)
    have hok2 : okN [] m = (!hasN p x && okN (p ++ [(x, y)]) r) := by rw [hok', hmay]; rfl
    have hok : okN [] m = (mayB (x, y) && (!hasN p x && okN (p ++ [(x, y)]) r)) := hok'
    rcases List.eq_nil_or_concat p with hp0 | ⟨p0, y0, hp0⟩
    · have hng : ¬ ((p.length : Int) > 0) := by rw [hp0]; decide
      have hih : hasN p x = hasN [] x → _ := fun hs => ih (p ++ [(x, y)]) hpx (by rw [hok2, hs]; rfl) (by rw [hp0]; rfl)
      rw [snoc_len] at hih
      conv => arg 3; simp only [mkT, putT, List.reduceReplicate, List.set]
      refine EVgo9 (And.intro (hlt) ( And.intro (e0) ( And.intro (h1) ( And.intro (h2) ( And.intro (h3) ( And.intro (h4) (hng))))))) trivial trivial trivial trivial trivial trivial trivial trivial trivial trivial trivial ?_
      refine WC.loop (T' := _) (H' := _) (n' := _) rfl ((?_ : ∀ (s q : List Np), q ++ s = p → hasN p x = hasN s x →
        WC cf _ (mkT 78 [(0, .sl m.length false (flat encN m)), (3, .int .i64 (p.length : Nat)), (4, .int .i64 (q.length : Nat))]) [] 0 0 _) p [] rfl rfl)
      intro s
      induction s with
      | nil =>
        intro q hq hs
        rw [List.append_nil] at hq
        subst hq
        have hih' := hih hs
        conv => arg 3; simp only [mkT, putT, List.reduceReplicate, List.set]
        refine EVgl9 (hw) trivial trivial trivial trivial trivial trivial trivial trivial trivial trivial trivial ?_
        exact WC.loop rfl hih'
      | cons z s ihs =>
        intro q hq hs
        obtain ⟨z1, z2⟩ := z
        have hlq : p.length = q.length + (s.length + 1) := by rw [← hq]; simp
        have hlt1 : (q.length : Int) < (p.length : Int) := by omega
        have hlt2 : (q.length : Int) < (m.length : Int) := by omega
        have hwq : IntKind.i64.wrap ((q.length : Int) + 1) = ((q.length + 1 : Nat) : Int) := by rw [i64_in _ (by omega)]; simp
        have eq0 := mid_N (m := m) (p := q) (r := s ++ (x, y) :: r) (x := z1) (y := z2) (by rw [← hp, ← hq]; simp)
        have hihs := ihs (q ++ [(z1, z2)]) (by rw [List.append_assoc]; exact hq)
        rw [snoc_len] at hihs
        by_cases hz : z1 = x
        · have hz' : (z1 == x) = true := beq_iff_eq.2 hz
          have e : saneB m = false := bad (by
            rw [hok, hmay, hs, show hasN ((z1, z2) :: s) x = true from by show ((x == z1) || hasN s x) = true; rw [beq_iff_eq.2 hz.symm]; rfl]
            rfl)
          rw [e]
          conv => arg 3; simp only [mkT, putT, List.reduceReplicate, List.set]
          refine EVgo9 (And.intro (hlt1) ( And.intro (hlt2) ( And.intro (hlt) ( And.intro (eq0) ( And.intro (e0) (hz')))))) trivial trivial trivial trivial trivial trivial trivial trivial trivial trivial trivial ?_
          exact EVret trivial
        · have hz' : (z1 == x) = false := beq_eq_false_iff_ne.2 hz
          have hs' : hasN p x = hasN s x := by
            rw [hs]
            show ((x == z1) || hasN s x) = _
            rw [beq_eq_false_iff_ne.2 (Ne.symm hz)]; rfl
          conv => arg 3; simp only [mkT, putT, List.reduceReplicate, List.set]
          refine EVgo9 (And.intro (hlt1) ( And.intro (hlt2) ( And.intro (hlt) ( And.intro (eq0) ( And.intro (e0) ( And.intro (hz') (hwq))))))) trivial trivial trivial trivial trivial trivial trivial trivial trivial trivial trivial ?_
          exact WC.loop rfl (hihs hs')
    · rw [List.concat_eq_append] at hp0
      obtain ⟨y1, y2⟩ := y0
      have hpl : p.length = p0.length + 1 := by rw [hp0, snoc_len]
      have hng : ((p.length : Int) > 0) := by omega
      have w1 : IntKind.i64.wrap ((p.length : Int) - 1) = (p0.length : Int) := by rw [i64_in _ (by omega)]; omega
      have hl0 : (p0.length : Int) < (m.length : Int) := by omega
      have e1 := mid_N (m := m) (p := p0) (r := (x, y) :: r) (x := y1) (y := y2) (by rw [← hp, hp0]; simp)
      by_cases h5 : y < y2
      · have e : saneB m = false := by
          unfold saneB
          have : m = p0 ++ (y1, y2) :: (x, y) :: r := by rw [← hp, hp0]; simp
          rw [this, sortB_bad h5, Bool.and_false]
        rw [e]
        conv => arg 3; simp only [mkT, putT, List.reduceReplicate, List.set]
        refine EVgo9 (And.intro (hlt) ( And.intro (e0) ( And.intro (h1) ( And.intro (h2) ( And.intro (h3) ( And.intro (h4) ( And.intro (hng) ( And.intro (w1) ( And.intro (hl0) ( And.intro (e1) (h5))))))))))) trivial trivial trivial trivial trivial trivial trivial trivial trivial trivial trivial ?_
        exact EVret trivial
      · have hih : hasN p x = hasN [] x → _ := fun hs => ih (p ++ [(x, y)]) hpx (by rw [hok2, hs]; rfl) (by rw [hp0] at hso ⊢; exact sortB_snoc hso h5)
        rw [snoc_len] at hih
        conv => arg 3; simp only [mkT, putT, List.reduceReplicate, List.set]
        refine EVgo9 (And.intro (hlt) ( And.intro (e0) ( And.intro (h1) ( And.intro (h2) ( And.intro (h3) ( And.intro (h4) ( And.intro (hng) ( And.intro (w1) ( And.intro (hl0) ( And.intro (e1) (h5))))))))))) trivial trivial trivial trivial trivial trivial trivial trivial trivial trivial trivial ?_
        refine WC.loop (T' := _) (H' := _) (n' := _) rfl ((?_ : ∀ (s q : List Np), q ++ s = p → hasN p x = hasN s x →
          WC cf _ (mkT 78 [(0, .sl m.length false (flat encN m)), (3, .int .i64 (p.length : Nat)), (4, .int .i64 (q.length : Nat))]) [] 0 0 _) p [] rfl rfl)
        intro s
        induction s with
        | nil =>
          intro q hq hs
          rw [List.append_nil] at hq
          subst hq
          have hih' := hih hs
          conv => arg 3; simp only [mkT, putT, List.reduceReplicate, List.set]
          refine EVgl9 (hw) trivial trivial trivial trivial trivial trivial trivial trivial trivial trivial trivial ?_
          exact WC.loop rfl hih'
        | cons z s ihs =>
          intro q hq hs
          obtain ⟨z1, z2⟩ := z
          have hlq : p.length = q.length + (s.length + 1) := by rw [← hq]; simp
          have hlt1 : (q.length : Int) < (p.length : Int) := by omega
          have hlt2 : (q.length : Int) < (m.length : Int) := by omega
          have hwq : IntKind.i64.wrap ((q.length : Int) + 1) = ((q.length + 1 : Nat) : Int) := by rw [i64_in _ (by omega)]; simp
          have eq0 := mid_N (m := m) (p := q) (r := s ++ (x, y) :: r) (x := z1) (y := z2) (by rw [← hp, ← hq]; simp)
          have hihs := ihs (q ++ [(z1, z2)]) (by rw [List.append_assoc]; exact hq)
          rw [snoc_len] at hihs
          by_cases hz : z1 = x
          · have hz' : (z1 == x) = true := beq_iff_eq.2 hz
            have e : saneB m = false := bad (by
              rw [hok, hmay, hs, show hasN ((z1, z2) :: s) x = true from by show ((x == z1) || hasN s x) = true; rw [beq_iff_eq.2 hz.symm]; rfl]
              rfl)
            rw [e]
            conv => arg 3; simp only [mkT, putT, List.reduceReplicate, List.set]
            refine EVgo9 (And.intro (hlt1) ( And.intro (hlt2) ( And.intro (hlt) ( And.intro (eq0) ( And.intro (e0) (hz')))))) trivial trivial trivial trivial trivial trivial trivial trivial trivial trivial trivial ?_
            exact EVret trivial
          · have hz' : (z1 == x) = false := beq_eq_false_iff_ne.2 hz
            have hs' : hasN p x = hasN s x := by
              rw [hs]
              show ((x == z1) || hasN s x) = _
              rw [beq_eq_false_iff_ne.2 (Ne.symm hz)]; rfl
            conv => arg 3; simp only [mkT, putT, List.reduceReplicate, List.set]
            refine EVgo9 (And.intro (hlt1) ( And.intro (hlt2) ( And.intro (hlt) ( And.intro (eq0) ( And.intro (e0) ( And.intro (hz') (hwq))))))) trivial trivial trivial trivial trivial trivial trivial trivial trivial trivial trivial ?_
            exact WC.loop rfl (hihs hs')
theorem s31 (l : List Np) (hl : l.length ≤ 1000000) : Sp cf 31 [slN l] (slN (saneL l)) := by
  have h10 := s21 hcf l hl
  refine sp_of hcf env31 ?_
  unfold saneL
  cases hs : saneB l with
  | true =>
    rw [hs] at h10
    rw [if_pos rfl]
    simp only [slN] at h10 ⊢
    conv => arg 2; simp only [ir31]
    conv => arg 3; simp only [ir31, Go.Proofs.YtppnijapeepbnaaEv.start, List.length, Nat.reduceAdd, Nat.reduceSub, List.reduceReplicate, List.append_eq, List.cons_append, List.nil_append]
    conv => arg 4; simp only [heapOf]
    try conv => arg 5; simp only [List.length, Nat.reduceAdd]
    try conv => arg 6; simp only [List.length, Nat.reduceAdd]
    refine EVgo9 trivial (h10) trivial trivial trivial trivial trivial trivial trivial trivial trivial trivial ?_
    exact EVret trivial
  | false =>
    rw [hs] at h10
    rw [if_neg (by simp), show slN [] = .sl 0 false [] from rfl]
    simp only [slN] at h10 ⊢
    conv => arg 2; simp only [ir31]
    conv => arg 3; simp only [ir31, Go.Proofs.YtppnijapeepbnaaEv.start, List.length, Nat.reduceAdd, Nat.reduceSub, List.reduceReplicate, List.append_eq, List.cons_append, List.nil_append]
    conv => arg 4; simp only [heapOf]
    try conv => arg 5; simp only [List.length, Nat.reduceAdd]
    try conv => arg 6; simp only [List.length, Nat.reduceAdd]
    refine EVgo9 trivial (h10) trivial trivial trivial trivial trivial trivial trivial trivial trivial trivial ?_
    exact EVret trivial
theorem s19 (l : List Np) (hl : l.length ≤ 1000000) : Sp cf 19 [slN l] (nextN (saneL l)) := by
  have hs := (saneL_fit l).len
  have h31 := s31 hcf l hl
  generalize saneL l = m at *
  refine sp_of hcf env19 ?_
  cases m with
  | nil =>
    unfold nextN
    simp only [slN] at *
    simp only [List.length, flat_nil, Int.cast_ofNat_Int] at h31
    conv => arg 2; simp only [ir19]
    conv => arg 3; simp only [ir19, Go.Proofs.YtppnijapeepbnaaEv.start, List.length, Nat.reduceAdd, Nat.reduceSub, List.reduceReplicate, List.append_eq, List.cons_append, List.nil_append]
    conv => arg 4; simp only [heapOf]
    try conv => arg 5; simp only [List.length, Nat.reduceAdd]
    try conv => arg 6; simp only [List.length, Nat.reduceAdd]
    refine EVgo9 trivial (h31) trivial trivial trivial trivial trivial trivial trivial trivial trivial trivial ?_
    exact EVret trivial
  | cons x m =>
    obtain ⟨x, y⟩ := x
    unfold nextN
    have hgt : (((m.length + 1 : Nat) : Int) == 0) = false := beq_eq_false_iff_ne.2 (by omega)
    have hgt2 : ((0 : Int) < ((m.length + 1 : Nat) : Int)) := by omega
    have hfc : flat encN ((x, y) :: m) = .int .i64 x :: .int .i64 y :: flat encN m := rfl
    simp only [slN, List.length, hfc] at *
    conv => arg 2; simp only [ir19]
    conv => arg 3; simp only [ir19, Go.Proofs.YtppnijapeepbnaaEv.start, List.length, Nat.reduceAdd, Nat.reduceSub, List.reduceReplicate, List.append_eq, List.cons_append, List.nil_append]
    conv => arg 4; simp only [heapOf]
    try conv => arg 5; simp only [List.length, Nat.reduceAdd]
    try conv => arg 6; simp only [List.length, Nat.reduceAdd]
    refine EVgo9 (And.intro (hgt) (hgt2)) (h31) trivial trivial trivial trivial trivial trivial trivial trivial trivial trivial ?_
    exact EVret trivial
theorem s17 (l : List Np) (i : Int) (hl : l.length ≤ 1000000) : Sp cf 17 [slN l, .int .i64 i] (.tup [slN (keepN i (saneL l)), .bool (decide (((keepN i (saneL l)).length : Int) < ((saneL l).length : Int)))]) := by
  have hs := (saneL_fit l).len
  have h31 := s31 hcf l hl
  generalize saneL l = m at *
  refine sp_of hcf env17 ?_
  simp only [slN] at *
  conv => arg 2; simp only [ir17]
  conv => arg 3; simp only [ir17, Go.Proofs.YtppnijapeepbnaaEv.start, List.length, Nat.reduceAdd, Nat.reduceSub, List.reduceReplicate, List.append_eq, List.cons_append, List.nil_append]
  conv => arg 4; simp only [heapOf]
  try conv => arg 5; simp only [List.length, Nat.reduceAdd]
  try conv => arg 6; simp only [List.length, Nat.reduceAdd]
  refine EVgo9 trivial (h31) trivial trivial trivial trivial trivial trivial trivial trivial trivial trivial ?_
  refine WC.loop (T' := _) (H' := _) (n' := _) rfl ((?_ : ∀ (r p a : List Np), p ++ r = m → a = keepN i p →
    WC cf _ (mkT 36 [(0, .sl m.length false (flat encN m)), (1, .int .i64 i), (6, .own 0 2 0 a.length), (7, .int .i64 (p.length : Nat))]) [(0, .row (flat encN a))] 0 1 _) m [] [] rfl rfl)
  intro r
  induction r with
  | nil =>
    intro p a hp ha
    rw [List.append_nil] at hp
    subst hp
    rw [← ha]
    conv => arg 3; simp only [mkT, putT, List.reduceReplicate, List.set]
    refine EVgl9 trivial trivial trivial trivial trivial trivial trivial trivial trivial trivial trivial trivial ?_
    exact EVret (allN)
  | cons x r ih =>
    intro p a hp ha
    obtain ⟨x, y⟩ := x
    have hlen : m.length = p.length + (r.length + 1) := by rw [← hp]; simp
    have hlt : (p.length : Int) < (m.length : Int) := by omega
    have hw : IntKind.i64.wrap ((p.length : Int) + 1) = ((p.length + 1 : Nat) : Int) := by rw [i64_in _ (by omega)]; simp
    have e0 := mid_N hp
    have hpx : (p ++ [(x, y)]) ++ r = m := by rw [List.append_assoc]; exact hp
    have hal : a.length ≤ p.length := by rw [ha]; exact List.length_filter_le _ _
    by_cases hx : x = i
    · have hx' : (x != i) = false := by rw [hx]; exact bne_self_eq_false _
      have hih := ih (p ++ [(x, y)]) a hpx (by rw [keepN_snoc, if_pos hx, List.append_nil]; exact ha)
      rw [snoc_len] at hih
      conv => arg 3; simp only [mkT, putT, List.reduceReplicate, List.set]
      refine EVgo9 (And.intro (hlt) ( And.intro (e0) ( And.intro (hx') (hw)))) trivial trivial trivial trivial trivial trivial trivial trivial trivial trivial trivial ?_
      exact WC.loop rfl hih
    · have hx' : (x != i) = true := bne_iff_ne.2 hx
      have hih := ih (p ++ [(x, y)]) (a ++ [(x, y)]) hpx (by rw [keepN_snoc, if_neg hx, ha])
      rw [snoc_len, snoc_len] at hih
      conv => arg 3; simp only [mkT, putT, List.reduceReplicate, List.set]
      refine EVgo9 (And.intro (hlt) ( And.intro (e0) ( And.intro (hx') ( And.intro (hw) ( And.intro (lenN) ( And.intro (allN) (snocN))))))) trivial trivial trivial trivial trivial trivial trivial trivial trivial trivial trivial ?_
      exact WC.loop rfl hih
theorem s15 (l : List Np) (t : Int) (hl : l.length ≤ 1000000) : Sp cf 15 [slN l, .int .i64 t] (dueP t l) := by
  have hs := (saneL_fit l).len
  have h31 := s31 hcf l hl
  rw [due_eq]
  generalize saneL l = m at *
  refine sp_of hcf env15 ?_
  simp only [slN] at *
  conv => arg 2; simp only [ir15]
  conv => arg 3; simp only [ir15, Go.Proofs.YtppnijapeepbnaaEv.start, List.length, Nat.reduceAdd, Nat.reduceSub, List.reduceReplicate, List.append_eq, List.cons_append, List.nil_append]
  conv => arg 4; simp only [heapOf]
  try conv => arg 5; simp only [List.length, Nat.reduceAdd]
  try conv => arg 6; simp only [List.length, Nat.reduceAdd]
  refine EVgo9 trivial (h31) trivial trivial trivial trivial trivial trivial trivial trivial trivial trivial ?_
  refine WC.loop (T' := _) (H' := _) (n' := _) rfl ((?_ : ∀ (r p a b : List Np), p ++ r = m → a = p.filter (fun y => decide (t < y.2)) → b = p.filter (fun y => decide (y.2 ≤ t)) →
    WC cf _ (mkT 41 [(0, .sl m.length false (flat encN m)), (1, .int .i64 t), (6, .own 0 2 0 a.length), (7, .own 1 1 0 b.length), (8, .int .i64 (p.length : Nat))]) [(0, .row (flat encN a)), (1, .row (idsP b))] 0 2 _) m [] [] [] rfl rfl rfl)
  intro r
  induction r with
  | nil =>
    intro p a b hp ha hb
    rw [List.append_nil] at hp
    subst hp
    rw [← ha, ← hb]
    conv => arg 3; simp only [mkT, putT, List.reduceReplicate, List.set]
    refine EVgl9 trivial trivial trivial trivial trivial trivial trivial trivial trivial trivial trivial trivial ?_
    exact EVret (And.intro (allN) (allIds))
  | cons x r ih =>
    intro p a b hp ha hb
    obtain ⟨x, y⟩ := x
    have hlen : m.length = p.length + (r.length + 1) := by rw [← hp]; simp
    have hlt : (p.length : Int) < (m.length : Int) := by omega
    have hw : IntKind.i64.wrap ((p.length : Int) + 1) = ((p.length + 1 : Nat) : Int) := by rw [i64_in _ (by omega)]; simp
    have e0 := mid_N hp
    have hpx : (p ++ [(x, y)]) ++ r = m := by rw [List.append_assoc]; exact hp
    have hal : a.length ≤ p.length := by rw [ha]; exact List.length_filter_le _ _
    have hbl : b.length ≤ p.length := by rw [hb]; exact List.length_filter_le _ _
    by_cases hx : y > t
    · have hih := ih (p ++ [(x, y)]) (a ++ [(x, y)]) b hpx (by rw [List.filter_append, List.filter_cons_of_pos (by simpa using hx), ha]; rfl) (by rw [List.filter_append, List.filter_cons_of_neg (by simpa using hx), hb]; simp)
      rw [snoc_len, snoc_len] at hih
      conv => arg 3; simp only [mkT, putT, List.reduceReplicate, List.set]
      refine EVgo9 (And.intro (hlt) ( And.intro (e0) ( And.intro (hx) ( And.intro (hw) ( And.intro (lenN) ( And.intro (allN) (snocN))))))) trivial trivial trivial trivial trivial trivial trivial trivial trivial trivial trivial ?_
      exact WC.loop rfl hih
    · have hih := ih (p ++ [(x, y)]) a (b ++ [(x, y)]) hpx (by rw [List.filter_append, List.filter_cons_of_neg (by simpa using hx), ha]; simp) (by rw [List.filter_append, List.filter_cons_of_pos (by simpa using hx), hb]; rfl)
      rw [snoc_len, snoc_len] at hih
      conv => arg 3; simp only [mkT, putT, List.reduceReplicate, List.set]
      have hsn := snocIds b x y
      refine EVgo9 (And.intro (hlt) ( And.intro (e0) ( And.intro (hx) ( And.intro (hw) ( And.intro (lenIds) ( And.intro (allIds) (hsn))))))) trivial trivial trivial trivial trivial trivial trivial trivial trivial trivial trivial ?_
      exact WC.loop rfl hih
theorem s14 (l : List Np) (x : Np) (hl : l.length ≤ 1000000) : Sp cf 14 [slN l, .int .i64 x.1, .int .i64 x.2] (.tup [slN (putL l x), .bool (putOk l x)]) := by
  have hs := (saneL_fit l).len
  have h31 := s31 hcf l hl
  have h32 := s32 hcf (saneL l) x.1 (by omega)
  rw [putL_eq]
  unfold putOk
  generalize saneL l = m at *
  obtain ⟨u, v⟩ := x
  refine sp_of hcf env14 ?_
  have hno : mayB (u, v) = false → (if mayB (u, v) = true ∧ hasN m u = false then putF m (u, v) else m) = m ∧ (mayB (u, v) && !hasN m u) = false := fun h => by rw [h]; exact ⟨if_neg (by simp), rfl⟩
  by_cases h1 : u < 0
  · rw [(hno (by rw [← Bool.not_eq_true, may_iff]; simp; omega)).1, (hno (by rw [← Bool.not_eq_true, may_iff]; simp; omega)).2]
    simp only [slN] at *
    conv => arg 2; simp only [ir14]
    conv => arg 3; simp only [ir14, Go.Proofs.YtppnijapeepbnaaEv.start, List.length, Nat.reduceAdd, Nat.reduceSub, List.reduceReplicate, List.append_eq, List.cons_append, List.nil_append]
    conv => arg 4; simp only [heapOf]
    try conv => arg 5; simp only [List.length, Nat.reduceAdd]
    try conv => arg 6; simp only [List.length, Nat.reduceAdd]
    refine EVgo9 (h1) (h31) (h32) trivial trivial trivial trivial trivial trivial trivial trivial trivial ?_
    exact EVret trivial
  by_cases h2 : u > 7
  · rw [(hno (by rw [← Bool.not_eq_true, may_iff]; simp; omega)).1, (hno (by rw [← Bool.not_eq_true, may_iff]; simp; omega)).2]
    simp only [slN] at *
    conv => arg 2; simp only [ir14]
    conv => arg 3; simp only [ir14, Go.Proofs.YtppnijapeepbnaaEv.start, List.length, Nat.reduceAdd, Nat.reduceSub, List.reduceReplicate, List.append_eq, List.cons_append, List.nil_append]
    conv => arg 4; simp only [heapOf]
    try conv => arg 5; simp only [List.length, Nat.reduceAdd]
    try conv => arg 6; simp only [List.length, Nat.reduceAdd]
    refine EVgo9 (And.intro (h1) (h2)) (h31) (h32) trivial trivial trivial trivial trivial trivial trivial trivial trivial ?_
    exact EVret trivial
  by_cases h3 : v < 0
  · rw [(hno (by rw [← Bool.not_eq_true, may_iff]; simp; omega)).1, (hno (by rw [← Bool.not_eq_true, may_iff]; simp; omega)).2]
    simp only [slN] at *
    conv => arg 2; simp only [ir14]
    conv => arg 3; simp only [ir14, Go.Proofs.YtppnijapeepbnaaEv.start, List.length, Nat.reduceAdd, Nat.reduceSub, List.reduceReplicate, List.append_eq, List.cons_append, List.nil_append]
    conv => arg 4; simp only [heapOf]
    try conv => arg 5; simp only [List.length, Nat.reduceAdd]
    try conv => arg 6; simp only [List.length, Nat.reduceAdd]
    refine EVgo9 (And.intro (h1) ( And.intro (h2) (h3))) (h31) (h32) trivial trivial trivial trivial trivial trivial trivial trivial trivial ?_
    exact EVret trivial
  by_cases h4 : v > 1125899906842624
  · rw [(hno (by rw [← Bool.not_eq_true, may_iff]; simp; omega)).1, (hno (by rw [← Bool.not_eq_true, may_iff]; simp; omega)).2]
    simp only [slN] at *
    conv => arg 2; simp only [ir14]
    conv => arg 3; simp only [ir14, Go.Proofs.YtppnijapeepbnaaEv.start, List.length, Nat.reduceAdd, Nat.reduceSub, List.reduceReplicate, List.append_eq, List.cons_append, List.nil_append]
    conv => arg 4; simp only [heapOf]
    try conv => arg 5; simp only [List.length, Nat.reduceAdd]
    try conv => arg 6; simp only [List.length, Nat.reduceAdd]
    refine EVgo9 (And.intro (h1) ( And.intro (h2) ( And.intro (h3) (h4)))) (h31) (h32) trivial trivial trivial trivial trivial trivial trivial trivial trivial ?_
    exact EVret trivial
  have hmay : mayB (u, v) = true := may_iff.2 (by simp; omega)
  rw [hmay]
  cases hh : hasN m u with
  | true =>
    rw [hh] at h32
    rw [if_neg (by simp)]
    simp only [slN] at *
    conv => arg 2; simp only [ir14]
    conv => arg 3; simp only [ir14, Go.Proofs.YtppnijapeepbnaaEv.start, List.length, Nat.reduceAdd, Nat.reduceSub, List.reduceReplicate, List.append_eq, List.cons_append, List.nil_append]
    conv => arg 4; simp only [heapOf]
    try conv => arg 5; simp only [List.length, Nat.reduceAdd]
    try conv => arg 6; simp only [List.length, Nat.reduceAdd]
    refine EVgo9 (And.intro (h1) ( And.intro (h2) ( And.intro (h3) (h4)))) (h31) (h32) trivial trivial trivial trivial trivial trivial trivial trivial trivial ?_
    exact EVret trivial
  | false =>
    rw [hh] at h32
    rw [if_pos ⟨rfl, rfl⟩]
    simp only [slN] at *
    conv => arg 2; simp only [ir14]
    conv => arg 3; simp only [ir14, Go.Proofs.YtppnijapeepbnaaEv.start, List.length, Nat.reduceAdd, Nat.reduceSub, List.reduceReplicate, List.append_eq, List.cons_append, List.nil_append]
    conv => arg 4; simp only [heapOf]
    try conv => arg 5; simp only [List.length, Nat.reduceAdd]
    try conv => arg 6; simp only [List.length, Nat.reduceAdd]
    refine EVgo9 (And.intro (h1) ( And.intro (h2) ( And.intro (h3) (h4)))) (h31) (h32) trivial trivial trivial trivial trivial trivial trivial trivial trivial ?_
    refine WC.loop (T' := _) (H' := _) (n' := _) rfl ((?_ : ∀ (r p a : List Np), p ++ r = m → a = p.filter (fun y => decide (y.2 ≤ v)) →
      WC cf _ (mkT 80 [(0, .sl m.length false (flat encN m)), (1, .int .i64 u), (2, .int .i64 v), (8, .own 0 2 0 a.length), (9, .int .i64 (p.length : Nat))]) [(0, .row (flat encN a))] 0 1 _) m [] [] rfl rfl)
    intro r
    induction r with
    | nil =>
      intro p a hp ha
      rw [List.append_nil] at hp
      subst hp
      have hal : a.length ≤ p.length := by rw [ha]; exact List.length_filter_le _ _
      obtain ⟨n, hn⟩ : ∃ n, p.length = n := ⟨_, rfl⟩
      rw [hn]
      have hz := snoc_len a ((u, v) : Np)
      conv => arg 3; simp only [mkT, putT, List.reduceReplicate, List.set]
      refine EVgl9 trivial trivial trivial trivial trivial trivial trivial trivial trivial trivial trivial trivial ?_
      refine EVgo9 (And.intro (lenN) ( And.intro (allN) (snocN))) trivial trivial trivial trivial trivial trivial trivial trivial trivial trivial trivial ?_
      generalize hA : a ++ [(u, v)] = A at *
      rw [show a.length + 1 = A.length from hz.symm]
      refine WC.loop (T' := _) (H' := _) (n' := _) rfl ((?_ : ∀ (r q b : List Np), q ++ r = p → b = A ++ q.filter (fun y => decide (v < y.2)) →
        WC cf _ (mkT 80 [(0, .sl n false (flat encN p)), (2, .int .i64 v), (8, .own 0 2 0 b.length), (10, .int .i64 (q.length : Nat))]) [(0, .row (flat encN b))] 0 1 _) p [] A rfl (by simp))
      intro r
      induction r with
      | nil =>
        intro q b hq hb
        rw [List.append_nil] at hq
        subst hq
        have hF : b = putF q (u, v) := by rw [hb, ← hA, ha]; unfold putF; simp
        rw [← hF]
        rw [← hn]
        conv => arg 3; simp only [mkT, putT, List.reduceReplicate, List.set]
        refine EVgl9 trivial trivial trivial trivial trivial trivial trivial trivial trivial trivial trivial trivial ?_
        exact EVret (allN)
      | cons x r ih =>
        intro q b hq hb
        obtain ⟨x, y⟩ := x
        have hlen : n = q.length + (r.length + 1) := by rw [← hn, ← hq]; simp
        have hlt : (q.length : Int) < (n : Int) := by omega
        have hw : IntKind.i64.wrap ((q.length : Int) + 1) = ((q.length + 1 : Nat) : Int) := by rw [i64_in _ (by omega)]; simp
        have e0 := mid_N hq
        have hqx : (q ++ [(x, y)]) ++ r = p := by rw [List.append_assoc]; exact hq
        have hbl : b.length ≤ 100 := by rw [hb, List.length_append, hz]; have := List.length_filter_le (fun y : Np => decide (v < y.2)) q; omega
        by_cases hx : y > v
        · have hih := ih (q ++ [(x, y)]) (b ++ [(x, y)]) hqx (by rw [List.filter_append, List.filter_cons_of_pos (by simpa using hx), hb]; simp)
          rw [snoc_len, snoc_len] at hih
          conv => arg 3; simp only [mkT, putT, List.reduceReplicate, List.set]
          refine EVgo9 (And.intro (hlt) ( And.intro (e0) ( And.intro (hx) ( And.intro (hw) ( And.intro (lenN) ( And.intro (allN) (snocN))))))) trivial trivial trivial trivial trivial trivial trivial trivial trivial trivial trivial ?_
          exact WC.loop rfl hih
        · have hih := ih (q ++ [(x, y)]) b hqx (by rw [List.filter_append, List.filter_cons_of_neg (by simpa using hx), hb]; simp)
          rw [snoc_len] at hih
          conv => arg 3; simp only [mkT, putT, List.reduceReplicate, List.set]
          refine EVgo9 (And.intro (hlt) ( And.intro (e0) ( And.intro (hx) (hw)))) trivial trivial trivial trivial trivial trivial trivial trivial trivial trivial trivial ?_
          exact WC.loop rfl hih
    | cons x r ih =>
      intro p a hp ha
      obtain ⟨x, y⟩ := x
      have hlen : m.length = p.length + (r.length + 1) := by rw [← hp]; simp
      have hlt : (p.length : Int) < (m.length : Int) := by omega
      have hw : IntKind.i64.wrap ((p.length : Int) + 1) = ((p.length + 1 : Nat) : Int) := by rw [i64_in _ (by omega)]; simp
      have e0 := mid_N hp
      have hpx : (p ++ [(x, y)]) ++ r = m := by rw [List.append_assoc]; exact hp
      have hal : a.length ≤ p.length := by rw [ha]; exact List.length_filter_le _ _
      by_cases hx : y ≤ v
      · have hih := ih (p ++ [(x, y)]) (a ++ [(x, y)]) hpx (by rw [List.filter_append, List.filter_cons_of_pos (by simpa using hx), ha]; rfl)
        rw [snoc_len, snoc_len] at hih
        conv => arg 3; simp only [mkT, putT, List.reduceReplicate, List.set]
        refine EVgo9 (And.intro (hlt) ( And.intro (e0) ( And.intro (hx) ( And.intro (hw) ( And.intro (lenN) ( And.intro (allN) (snocN))))))) trivial trivial trivial trivial trivial trivial trivial trivial trivial trivial trivial ?_
        exact WC.loop rfl hih
      · have hih := ih (p ++ [(x, y)]) a hpx (by rw [List.filter_append, List.filter_cons_of_neg (by simpa using hx), ha]; simp)
        rw [snoc_len] at hih
        conv => arg 3; simp only [mkT, putT, List.reduceReplicate, List.set]
        refine EVgo9 (And.intro (hlt) ( And.intro (e0) ( And.intro (hx) (hw)))) trivial trivial trivial trivial trivial trivial trivial trivial trivial trivial trivial ?_
        exact WC.loop rfl hih
end
end Go.Proofs.YtppnijapeepbnaaR
