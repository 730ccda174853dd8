/- The document's answer: ahead, Sane, sane, without, Nth, Take, Drop, Same, Ids. -/
import Derived.Test.YtoihpjpgihhcjaaEvf16F3
open Go Go.Proofs.YtoihpjpgihhcjaaEv Go.Proofs.YtoihpjpgihhcjaaR Go.IntWalk Go.Proofs
set_option maxRecDepth 20000
set_option maxHeartbeats 8000000
set_option linter.unusedVariables false
set_option linter.unusedSimpArgs false
namespace Go.Proofs.YtoihpjpgihhcjaaR
def goodR (x y : It) : Bool := !(y.1 == x.1) && (!(y.2.2 == x.2.2) && aheadB y x)
def okR (nx : Int) (p : List It) : List It → Bool
  | [] => true
  | x :: r => mayB nx x && (p.all (goodR x) && okR nx (p ++ [x]) r)
theorem all_good {p : List It} {x : It} (hp : p.Pairwise Ahd) : p.all (goodR x) = (!hasI (ids p) x.1 && (!hasI (tns p) x.2.2 && lastOk p x)) := by
  rw [Bool.eq_iff_iff, Bool.and_eq_true, Bool.and_eq_true, Bool.not_eq_true', Bool.not_eq_true', hasI_no, hasI_no, last_ok hp, List.all_eq_true]
  unfold ids tns goodR
  constructor
  · intro h
    refine ⟨fun q => ?_, fun q => ?_, fun y hy => ?_⟩
    · obtain ⟨y, hy, e⟩ := List.mem_map.1 q
      have := h y hy
      rw [e, beq_self_eq_true] at this
      exact absurd this (by simp)
    · obtain ⟨y, hy, e⟩ := List.mem_map.1 q
      have := h y hy
      rw [e, beq_self_eq_true] at this
      exact absurd this (by simp)
    · have := h y hy
      rw [Bool.and_eq_true, Bool.and_eq_true] at this
      exact ahead_iff.1 this.2.2
  · rintro ⟨h1, h2, h3⟩ y hy
    have e1 : (y.1 == x.1) = false := beq_eq_false_iff_ne.2 fun e => h1 (List.mem_map.2 ⟨y, hy, e⟩)
    have e2 : (y.2.2 == x.2.2) = false := beq_eq_false_iff_ne.2 fun e => h2 (List.mem_map.2 ⟨y, hy, e⟩)
    rw [e1, e2, ahead_iff.2 (h3 y hy)]
    rfl
theorem okR_eq {nx : Int} : ∀ {r p : List It}, p.Pairwise Ahd → okR nx p r = okQ nx p r
  | [], _, _ => rfl
  | x :: r, p, hp => by
    show (mayB nx x && (p.all (goodR x) && okR nx (p ++ [x]) r)) = (mayB nx x && (!hasI (ids p) x.1 && (!hasI (tns p) x.2.2 && (lastOk p x && okQ nx (p ++ [x]) r))))
    have e := all_good (x := x) hp
    cases ha : p.all (goodR x) with
    | true =>
      rw [ha] at e
      have hl : lastOk p x = true := by
        have := e.symm
        rw [Bool.and_eq_true, Bool.and_eq_true] at this
        exact this.2.2
      have hpx : (p ++ [x]).Pairwise Ahd := List.pairwise_append.2 ⟨hp, List.pairwise_singleton _ _, fun a ha b hb => by rw [List.mem_singleton.1 hb]; exact (last_ok hp).1 hl a ha⟩
      rw [okR_eq hpx, ← Bool.and_assoc (!hasI (tns p) x.2.2), ← Bool.and_assoc (!hasI (ids p) x.1), ← e]
    | false =>
      rw [ha] at e
      rw [← Bool.and_assoc (!hasI (tns p) x.2.2), ← Bool.and_assoc (!hasI (ids p) x.1), ← e, Bool.false_and, Bool.false_and]
theorem saneB_R (nx : Int) (l : List It) : saneB nx l = (withinB nx 1099511627776 && (decide (l.length ≤ 8) && okR nx [] l)) := by
  unfold saneB
  rw [okR_eq .nil]
theorem not_may {nx : Int} {x : It} (h : ¬ ((0 ≤ x.1 ∧ x.1 ≤ 7) ∧ (0 ≤ x.2.1 ∧ x.2.1 ≤ 4) ∧ 0 ≤ x.2.2 ∧ x.2.2 ≤ nx - 1)) : mayB nx x = false := by rw [← Bool.not_eq_true, may_iff]; exact h
section
variable {cf : CF} (hcf : cf = ev env)
include hcf
theorem s35 (x y : It) : Sp cf 35 [.agg (encX x), .agg (encX y)] (.bool (aheadB x y)) := by
  refine sp_of hcf env35 ?_
  have hi := @ahead_iff x y
  obtain ⟨a, b, c⟩ := x
  obtain ⟨d, e, f⟩ := y
  unfold Ahd at hi
  simp only at hi
  simp only [encX]
  by_cases h1 : b > e
  · have hB : aheadB (a, b, c) (d, e, f) = true := hi.2 (by omega)
    rw [hB]
    conv => arg 2; simp only [ir35]
    conv => arg 3; simp only [ir35, Go.Proofs.YtoihpjpgihhcjaaEv.start, List.length, Nat.reduceAdd, Nat.reduceSub, List.reduceReplicate, List.append_eq, List.cons_append, List.nil_append]
    conv => arg 4; simp only [heapOf]
    try conv => arg 5; simp only [List.length, Nat.reduceAdd]
    try conv => arg 6; simp only [List.length, Nat.reduceAdd]
    refine EVgo9 (h1) trivial trivial trivial trivial trivial trivial trivial trivial trivial trivial trivial ?_
    exact EVret trivial
  · by_cases h2 : b = e
    · have h2' : (b == e) = true := beq_iff_eq.2 h2
      by_cases h3 : c < f
      · have hB : aheadB (a, b, c) (d, e, f) = true := hi.2 (by omega)
        rw [hB]
        conv => arg 2; simp only [ir35]
        conv => arg 3; simp only [ir35, Go.Proofs.YtoihpjpgihhcjaaEv.start, List.length, Nat.reduceAdd, Nat.reduceSub, List.reduceReplicate, List.append_eq, List.cons_append, List.nil_append]
        conv => arg 4; simp only [heapOf]
        try conv => arg 5; simp only [List.length, Nat.reduceAdd]
        try conv => arg 6; simp only [List.length, Nat.reduceAdd]
        refine EVgo9 (And.intro (h1) ( And.intro (h2') (h3))) trivial trivial trivial trivial trivial trivial trivial trivial trivial trivial trivial ?_
        exact EVret trivial
      · have hB : aheadB (a, b, c) (d, e, f) = false := by rw [← Bool.not_eq_true, hi]; omega
        rw [hB]
        conv => arg 2; simp only [ir35]
        conv => arg 3; simp only [ir35, Go.Proofs.YtoihpjpgihhcjaaEv.start, List.length, Nat.reduceAdd, Nat.reduceSub, List.reduceReplicate, List.append_eq, List.cons_append, List.nil_append]
        conv => arg 4; simp only [heapOf]
        try conv => arg 5; simp only [List.length, Nat.reduceAdd]
        try conv => arg 6; simp only [List.length, Nat.reduceAdd]
        refine EVgo9 (And.intro (h1) ( And.intro (h2') (h3))) trivial trivial trivial trivial trivial trivial trivial trivial trivial trivial trivial ?_
        exact EVret trivial
    · have h2' : (b == e) = false := beq_eq_false_iff_ne.2 h2
      have hB : aheadB (a, b, c) (d, e, f) = false := by rw [← Bool.not_eq_true, hi]; omega
      rw [hB]
      conv => arg 2; simp only [ir35]
      conv => arg 3; simp only [ir35, Go.Proofs.YtoihpjpgihhcjaaEv.start, List.length, Nat.reduceAdd, Nat.reduceSub, List.reduceReplicate, List.append_eq, List.cons_append, List.nil_append]
      conv => arg 4; simp only [heapOf]
      try conv => arg 5; simp only [List.length, Nat.reduceAdd]
      try conv => arg 6; simp only [List.length, Nat.reduceAdd]
      refine EVgo9 (And.intro (h1) (h2')) trivial trivial trivial trivial trivial trivial trivial trivial trivial trivial trivial ?_
      exact EVret trivial
theorem s24 (q : Qu) (hl : q.2.length ≤ 9223372036854775807) : Sp cf 24 [encQ q] (.bool (saneB q.1 q.2)) := by
  obtain ⟨nx, l⟩ := q
  refine sp_of hcf env24 ?_
  simp only
  rw [saneB_R]
  simp only [encQ, slX] at *
  by_cases n0 : nx < 0
  · rw [show withinB nx 1099511627776 = false by rw [← Bool.not_eq_true, within_iff]; omega, Bool.false_and]
    conv => arg 2; simp only [ir24]
    conv => arg 3; simp only [ir24, Go.Proofs.YtoihpjpgihhcjaaEv.start, List.length, Nat.reduceAdd, Nat.reduceSub, List.reduceReplicate, List.append_eq, List.cons_append, List.nil_append]
    conv => arg 4; simp only [heapOf]
    try conv => arg 5; simp only [List.length, Nat.reduceAdd]
    try conv => arg 6; simp only [List.length, Nat.reduceAdd]
    refine EVgo9 (n0) trivial trivial trivial trivial trivial trivial trivial trivial trivial trivial trivial ?_
    exact EVret trivial
  by_cases n1 : nx > 1099511627776
  · rw [show withinB nx 1099511627776 = false by rw [← Bool.not_eq_true, within_iff]; omega, Bool.false_and]
    conv => arg 2; simp only [ir24]
    conv => arg 3; simp only [ir24, Go.Proofs.YtoihpjpgihhcjaaEv.start, List.length, Nat.reduceAdd, Nat.reduceSub, List.reduceReplicate, List.append_eq, List.cons_append, List.nil_append]
    conv => arg 4; simp only [heapOf]
    try conv => arg 5; simp only [List.length, Nat.reduceAdd]
    try conv => arg 6; simp only [List.length, Nat.reduceAdd]
    refine EVgo9 (And.intro (n0) (n1)) trivial trivial trivial trivial trivial trivial trivial trivial trivial trivial trivial ?_
    exact EVret trivial
  rw [show withinB nx 1099511627776 = true from within_iff.2 (by omega), Bool.true_and]
  by_cases h8 : l.length ≤ 8
  rotate_left
  · have h8' : (l.length : Int) > 8 := by omega
    rw [decide_eq_false h8, Bool.false_and]
    conv => arg 2; simp only [ir24]
    conv => arg 3; simp only [ir24, Go.Proofs.YtoihpjpgihhcjaaEv.start, List.length, Nat.reduceAdd, Nat.reduceSub, List.reduceReplicate, List.append_eq, List.cons_append, List.nil_append]
    conv => arg 4; simp only [heapOf]
    try conv => arg 5; simp only [List.length, Nat.reduceAdd]
    try conv => arg 6; simp only [List.length, Nat.reduceAdd]
    refine EVgo9 (And.intro (n0) ( And.intro (n1) (h8'))) trivial trivial trivial trivial trivial trivial trivial trivial trivial trivial trivial ?_
    exact EVret trivial
  have h8' : ¬ (l.length : Int) > 8 := by omega
  rw [decide_eq_true h8, Bool.true_and]
  generalize hB : okR nx [] l = B
  conv => arg 2; simp only [ir24]
  conv => arg 3; simp only [ir24, Go.Proofs.YtoihpjpgihhcjaaEv.start, List.length, Nat.reduceAdd, Nat.reduceSub, List.reduceReplicate, List.append_eq, List.cons_append, List.nil_append]
  conv => arg 4; simp only [heapOf]
  try conv => arg 5; simp only [List.length, Nat.reduceAdd]
  try conv => arg 6; simp only [List.length, Nat.reduceAdd]
  refine EVgo9 (And.intro (n0) ( And.intro (n1) (h8'))) trivial trivial trivial trivial trivial trivial trivial trivial trivial trivial trivial ?_
  refine WC.loop (T' := _) (H' := _) (n' := _) rfl ((?_ : ∀ (r p : List It), p ++ r = l → B = okR nx p r →
    WC cf _ (mkT 97 [(1, .ptr 0 0), (3, .int .i64 (p.length : Nat))]) [(0, .box [.int .i64 nx, .sl l.length false (flat encX l)])] 0 1 _) l [] rfl hB.symm)
  intro r
  induction r with
  | nil =>
    intro p hp hok
    rw [List.append_nil] at hp
    subst hp
    rw [show B = true from hok]
    conv => arg 3; simp only [mkT, putT, List.reduceReplicate, List.set]
    refine EVgl9 trivial trivial trivial trivial trivial trivial trivial trivial trivial trivial trivial trivial ?_
    exact EVret trivial
  | cons x r ih =>
    intro p hp hok
    have hln : l.length = p.length + (r.length + 1) := by rw [← hp]; simp
    have hlt : (p.length : Int) < (l.length : Int) := by omega
    have hw : IntKind.i64.wrap ((p.length : Int) + 1) = ((p.length + 1 : Nat) : Int) := by rw [i64_in _ (by omega)]; simp
    have hih := ih (p ++ [x]) (by rw [List.append_assoc]; exact hp)
    rw [snoc_len] at hih
    have hok' : B = (mayB nx x && (p.all (goodR x) && okR nx (p ++ [x]) r)) := hok
    have hmy := fun h => (not_may (nx := nx) (x := x) h)
    obtain ⟨a, b, c⟩ := x
    have eK := mid_X hp
    simp only at hmy
    by_cases b1 : a < 0
    · rw [hok', hmy (by omega), Bool.false_and]
      conv => arg 3; simp only [mkT, putT, List.reduceReplicate, List.set]
      refine EVgo9 (And.intro (hlt) ( And.intro (eK) (b1))) trivial trivial trivial trivial trivial trivial trivial trivial trivial trivial trivial ?_
      exact EVret trivial
    by_cases b2 : a > 7
    · rw [hok', hmy (by omega), Bool.false_and]
      conv => arg 3; simp only [mkT, putT, List.reduceReplicate, List.set]
      refine EVgo9 (And.intro (hlt) ( And.intro (eK) ( And.intro (b1) (b2)))) trivial trivial trivial trivial trivial trivial trivial trivial trivial trivial trivial ?_
      exact EVret trivial
    by_cases b3 : b < 0
    · rw [hok', hmy (by omega), Bool.false_and]
      conv => arg 3; simp only [mkT, putT, List.reduceReplicate, List.set]
      refine EVgo9 (And.intro (hlt) ( And.intro (eK) ( And.intro (b1) ( And.intro (b2) (b3))))) trivial trivial trivial trivial trivial trivial trivial trivial trivial trivial trivial ?_
      exact EVret trivial
    by_cases b4 : b > 4
    · rw [hok', hmy (by omega), Bool.false_and]
      conv => arg 3; simp only [mkT, putT, List.reduceReplicate, List.set]
      refine EVgo9 (And.intro (hlt) ( And.intro (eK) ( And.intro (b1) ( And.intro (b2) ( And.intro (b3) (b4)))))) trivial trivial trivial trivial trivial trivial trivial trivial trivial trivial trivial ?_
      exact EVret trivial
    by_cases b5 : c < 0
    · rw [hok', hmy (by omega), Bool.false_and]
      conv => arg 3; simp only [mkT, putT, List.reduceReplicate, List.set]
      refine EVgo9 (And.intro (hlt) ( And.intro (eK) ( And.intro (b1) ( And.intro (b2) ( And.intro (b3) ( And.intro (b4) (b5))))))) trivial trivial trivial trivial trivial trivial trivial trivial trivial trivial trivial ?_
      exact EVret trivial
    by_cases b6 : c ≥ nx
    · rw [hok', hmy (by omega), Bool.false_and]
      conv => arg 3; simp only [mkT, putT, List.reduceReplicate, List.set]
      refine EVgo9 (And.intro (hlt) ( And.intro (eK) ( And.intro (b1) ( And.intro (b2) ( And.intro (b3) ( And.intro (b4) ( And.intro (b5) (b6)))))))) trivial trivial trivial trivial trivial trivial trivial trivial trivial trivial trivial ?_
      exact EVret trivial
    have hmx : mayB nx (a, b, c) = true := may_iff.2 (by simp only; omega)
    rw [hmx, Bool.true_and] at hok'
    have h35 := fun y => s35 hcf y (a, b, c)
    conv => arg 3; simp only [mkT, putT, List.reduceReplicate, List.set]
    refine EVgo9 (And.intro (hlt) ( And.intro (eK) ( And.intro (b1) ( And.intro (b2) ( And.intro (b3) ( And.intro (b4) ( And.intro (b5) (b6)))))))) trivial trivial trivial trivial trivial trivial trivial trivial trivial trivial trivial ?_
    refine WC.loop (T' := _) (H' := _) (n' := _) rfl ((?_ : ∀ (r' q : List It), q ++ r' = p → p.all (goodR (a, b, c)) = r'.all (goodR (a, b, c)) →
      WC cf _ (mkT 97 [(1, .ptr 0 0), (3, .int .i64 (p.length : Nat)), (4, .ptr 1 0), (5, .int .i64 (q.length : Nat))]) [(0, .box [.int .i64 nx, .sl l.length false (flat encX l)]), (1, .box [.int .i64 a, .int .i64 b, .int .i64 c])] 0 2 _) p [] rfl rfl)
    intro r'
    induction r' with
    | nil =>
      intro q hq ha
      rw [List.append_nil] at hq
      rw [hq]
      rw [show p.all (goodR (a, b, c)) = true from ha, Bool.true_and] at hok'
      have hN := hih hok'
      conv => arg 3; simp only [mkT, putT, List.reduceReplicate, List.set]
      refine EVgl9 (hw) trivial trivial trivial trivial trivial trivial trivial trivial trivial trivial trivial ?_
      exact WC.loop rfl hN
    | cons y r' ih2 =>
      intro q hq ha
      have hlq : p.length = q.length + (r'.length + 1) := by rw [← hq]; simp
      have hlt2 : (q.length : Int) < (p.length : Int) := by omega
      have hlt3 : (q.length : Int) < (l.length : Int) := by omega
      have hwq : IntKind.i64.wrap ((q.length : Int) + 1) = ((q.length + 1 : Nat) : Int) := by rw [i64_in _ (by omega)]; simp
      have hi2 := ih2 (q ++ [y]) (by rw [List.append_assoc]; exact hq)
      rw [snoc_len] at hi2
      have h35 := h35 y
      have ha' : p.all (goodR (a, b, c)) = (goodR (a, b, c) y && r'.all (goodR (a, b, c))) := ha
      have hgd : goodR (a, b, c) y = (!(y.1 == a) && (!(y.2.2 == c) && aheadB y (a, b, c))) := rfl
      generalize aheadB y (a, b, c) = hd at *
      obtain ⟨d, e, f⟩ := y
      have eQ := mid_X (m := l) (p := q) (r := r' ++ (a, b, c) :: r) (a := d) (b := e) (c := f) (by rw [← hp, ← hq]; simp)
      simp only [encX] at h35
      simp only at hgd
      by_cases g1 : d = a
      · have g1' : (d == a) = true := beq_iff_eq.2 g1
        rw [hok', ha', hgd, g1']
        conv => arg 3; simp only [mkT, putT, List.reduceReplicate, List.set]
        refine EVgo9 (And.intro (hlt2) ( And.intro (hlt3) ( And.intro (eQ) (g1')))) trivial trivial trivial trivial trivial trivial trivial trivial trivial trivial trivial ?_
        exact EVret trivial
      have g1' : (d == a) = false := beq_eq_false_iff_ne.2 g1
      by_cases g2 : f = c
      · have g2' : (f == c) = true := beq_iff_eq.2 g2
        rw [hok', ha', hgd, g1', g2']
        conv => arg 3; simp only [mkT, putT, List.reduceReplicate, List.set]
        refine EVgo9 (And.intro (hlt2) ( And.intro (hlt3) ( And.intro (eQ) ( And.intro (g1') (g2'))))) trivial trivial trivial trivial trivial trivial trivial trivial trivial trivial trivial ?_
        exact EVret trivial
      have g2' : (f == c) = false := beq_eq_false_iff_ne.2 g2
      rw [g1', g2', Bool.not_false, Bool.true_and, Bool.true_and] at hgd
      cases hd with
      | false =>
        rw [hok', ha', hgd]
        conv => arg 3; simp only [mkT, putT, List.reduceReplicate, List.set]
        refine EVgo9 (And.intro (hlt2) ( And.intro (hlt3) ( And.intro (eQ) ( And.intro (g1') (g2'))))) (h35) trivial trivial trivial trivial trivial trivial trivial trivial trivial trivial ?_
        exact EVret trivial
      | true =>
        rw [hgd, Bool.true_and] at ha'
        have hN := hi2 ha'
        conv => arg 3; simp only [mkT, putT, List.reduceReplicate, List.set]
        refine EVgo9 (And.intro (hlt2) ( And.intro (hlt3) ( And.intro (eQ) ( And.intro (g1') ( And.intro (g2') (hwq)))))) (h35) trivial trivial trivial trivial trivial trivial trivial trivial trivial trivial ?_
        exact WC.loop rfl hN
theorem s34 (q : Qu) (hl : q.2.length ≤ 9223372036854775807) : Sp cf 34 [encQ q] (encQ (saneQ q)) := by
  have h9 := s24 hcf q hl
  obtain ⟨nx, l⟩ := q
  refine sp_of hcf env34 ?_
  unfold saneQ
  cases hs : saneB nx l with
  | true =>
    rw [hs] at h9
    rw [if_pos rfl]
    simp only [encQ, slX] at *
    conv => arg 2; simp only [ir34]
    conv => arg 3; simp only [ir34, Go.Proofs.YtoihpjpgihhcjaaEv.start, List.length, Nat.reduceAdd, Nat.reduceSub, List.reduceReplicate, List.append_eq, List.cons_append, List.nil_append]
    conv => arg 4; simp only [heapOf]
    try conv => arg 5; simp only [List.length, Nat.reduceAdd]
    try conv => arg 6; simp only [List.length, Nat.reduceAdd]
    refine EVgo9 trivial (h9) trivial trivial trivial trivial trivial trivial trivial trivial trivial trivial ?_
    exact EVret trivial
  | false =>
    rw [hs] at h9
    rw [if_neg (by simp)]
    simp only [encQ, slX, flat_nil, List.length] at *
    conv => arg 2; simp only [ir34]
    conv => arg 3; simp only [ir34, Go.Proofs.YtoihpjpgihhcjaaEv.start, List.length, Nat.reduceAdd, Nat.reduceSub, List.reduceReplicate, List.append_eq, List.cons_append, List.nil_append]
    conv => arg 4; simp only [heapOf]
    try conv => arg 5; simp only [List.length, Nat.reduceAdd]
    try conv => arg 6; simp only [List.length, Nat.reduceAdd]
    refine EVgo9 trivial (h9) trivial trivial trivial trivial trivial trivial trivial trivial trivial trivial ?_
    exact EVret trivial
theorem s36 (nx : Int) (l : List It) (k : Nat) (hk : k < l.length) (hl : l.length ≤ 1000000) : Sp cf 36 [encQ (nx, l), .int .i64 (k : Nat)] (encQ (nx, delK l k)) := by
  refine sp_of hcf env36 ?_
  have hDl := delK_len hk
  have w2 : IntKind.i64.wrap ((k : Int) + 1) = ((k + 1 : Nat) : Int) := by rw [i64_in _ (by omega)]; simp
  have fA : (flat encX l).take (k * 3) = flat encX (l.take k) := takeX l k
  have lA : (flat encX (l.take k)).length = k * 3 := by rw [lenX, List.length_take]; congr 1; omega
  have fA2 : (flat encX (l.take k)).take (k * 3) = flat encX (l.take k) := List.take_of_length_le (by omega)
  have fB : (flat encX l).drop ((k + 1) * 3) = flat encX (l.drop (k + 1)) := dropX l (k + 1)
  obtain ⟨n2, hn2⟩ : ∃ n2, l.length - (k + 1) = n2 := ⟨_, rfl⟩
  have lB : (flat encX (l.drop (k + 1))).length = n2 * 3 := by rw [lenX, List.length_drop]; congr 1
  have fB2 : (flat encX (l.drop (k + 1))).take (n2 * 3) = flat encX (l.drop (k + 1)) := List.take_of_length_le (by omega)
  have fAB : flat encX (l.take k) ++ flat encX (l.drop (k + 1)) = flat encX (delK l k) := appX _ _
  have fN : k + n2 = (delK l k).length := by omega
  have eT : ((k : Nat) : Int).toNat = k := Int.toNat_natCast k
  have hE := allX (delK l k)
  generalize l.take k = A at *
  generalize l.drop (k + 1) = B at *
  generalize delK l k = E at *
  simp only [encQ, slX]
  conv => arg 2; simp only [ir36]
  conv => arg 3; simp only [ir36, Go.Proofs.YtoihpjpgihhcjaaEv.start, List.length, Nat.reduceAdd, Nat.reduceSub, List.reduceReplicate, List.append_eq, List.cons_append, List.nil_append]
  conv => arg 4; simp only [heapOf]
  try conv => arg 5; simp only [List.length, Nat.reduceAdd]
  try conv => arg 6; simp only [List.length, Nat.reduceAdd]
  refine EVgo9 (And.intro (w2) ( And.intro (fA) ( And.intro (lA) ( And.intro (fA2) ( And.intro (fB) ( And.intro (hn2) ( And.intro (lB) ( And.intro (fB2) ( And.intro (fAB) ( And.intro (fN) ( And.intro (hE) (eT)))))))))))) trivial trivial trivial trivial trivial trivial trivial trivial trivial trivial trivial ?_
  exact EVret (hE)
theorem s19 (q : Qu) (n : Int) (hl : q.2.length ≤ 9223372036854775807) : Sp cf 19 [encQ q, .int .i64 n] (encN (nthQ q n)) := by
  have h28 := s34 hcf q hl
  have hf := saneQ_fit q
  refine sp_of hcf env19 ?_
  unfold nthQ
  generalize saneQ q = s at *
  obtain ⟨nx, l⟩ := s
  obtain ⟨qn, ql⟩ := q
  simp only at *
  have hlen := hf.len
  by_cases h0 : l = []
  · subst h0
    rw [if_pos rfl]
    have hz : (((([] : List It).length : Nat) : Int) == 0) = true := rfl
    simp only [encN, encQ, slX] at *
    conv => arg 2; simp only [ir19]
    conv => arg 3; simp only [ir19, Go.Proofs.YtoihpjpgihhcjaaEv.start, List.length, Nat.reduceAdd, Nat.reduceSub, List.reduceReplicate, List.append_eq, List.cons_append, List.nil_append]
    conv => arg 4; simp only [heapOf]
    try conv => arg 5; simp only [List.length, Nat.reduceAdd]
    try conv => arg 6; simp only [List.length, Nat.reduceAdd]
    refine EVgo9 (hz) (h28) trivial trivial trivial trivial trivial trivial trivial trivial trivial trivial ?_
    exact EVret trivial
  · have hpos : 0 < l.length := List.length_pos_iff.2 h0
    have hz : (((l.length : Nat) : Int) == 0) = false := beq_eq_false_iff_ne.2 (by omega)
    have hne : ((l.length : Nat) : Int) ≠ 0 := by omega
    rw [if_neg h0]
    have hmx : (if n > 0 then n else 0) = ((n.toNat : Nat) : Int) := by split <;> omega
    have hrem : ((n.toNat : Nat) : Int).tmod ((l.length : Nat) : Int) = ((n.toNat % l.length : Nat) : Int) := (Int.ofNat_tmod _ _).symm
    have hk : n.toNat % l.length < l.length := Nat.mod_lt _ hpos
    generalize n.toNat % l.length = k at *
    have hlt : (k : Int) < (l.length : Int) := by omega
    have h33 := s36 hcf nx l k hk (by omega)
    have eK := at_X hk
    simp only [encN, encQ, slX] at *
    generalize delK l k = m at *
    generalize l.getD k nilX = x at *
    conv => arg 2; simp only [ir19]
    conv => arg 3; simp only [ir19, Go.Proofs.YtoihpjpgihhcjaaEv.start, List.length, Nat.reduceAdd, Nat.reduceSub, List.reduceReplicate, List.append_eq, List.cons_append, List.nil_append]
    conv => arg 4; simp only [heapOf]
    try conv => arg 5; simp only [List.length, Nat.reduceAdd]
    try conv => arg 6; simp only [List.length, Nat.reduceAdd]
    refine EVgo9 (hz) (h28) trivial trivial trivial trivial trivial trivial trivial trivial (k_max0 hmx) (k_rem hne) ?_
    refine EVgo9 (And.intro (hrem) ( And.intro (hlt) (eK))) (h33) trivial trivial trivial trivial trivial trivial trivial trivial trivial trivial ?_
    exact EVret trivial
theorem s20 (q : Qu) (hl : q.2.length ≤ 9223372036854775807) : Sp cf 20 [encQ q] (encN (nthQ q 0)) := by
  have h17 := s19 hcf q 0 hl
  refine sp_of hcf env20 ?_
  generalize nthQ q 0 = x at *
  simp only [encN, encQ, slX] at *
  conv => arg 2; simp only [ir20]
  conv => arg 3; simp only [ir20, Go.Proofs.YtoihpjpgihhcjaaEv.start, List.length, Nat.reduceAdd, Nat.reduceSub, List.reduceReplicate, List.append_eq, List.cons_append, List.nil_append]
  conv => arg 4; simp only [heapOf]
  try conv => arg 5; simp only [List.length, Nat.reduceAdd]
  try conv => arg 6; simp only [List.length, Nat.reduceAdd]
  refine EVgo9 trivial (h17) trivial trivial trivial trivial trivial trivial trivial trivial trivial trivial ?_
  exact EVret trivial
theorem s21 (q : Qu) (id : Int) (hl : q.2.length ≤ 9223372036854775807) : Sp cf 21 [encQ q, .int .i64 id] (encB (dropQ q id)) := by
  have h28 := s34 hcf q hl
  have hf := saneQ_fit q
  refine sp_of hcf env21 ?_
  unfold dropQ
  generalize saneQ q = s at *
  obtain ⟨nx, l⟩ := s
  obtain ⟨qn, ql⟩ := q
  simp only at *
  have hlen := hf.len
  have h33 := fun k hk => s36 hcf nx l k hk (by omega)
  have hB : ∀ k : Nat, ixX id l 0 = (k : Int) → (if ixX id l 0 < 0 then (((nx, l), false) : Qu × Bool) else ((nx, delK l (ixX id l 0).toNat), true)) = ((nx, delK l k), true) := fun k h => by rw [h, if_neg (by omega), Int.toNat_natCast]
  have hB0 : ixX id l 0 = -1 → (if ixX id l 0 < 0 then (((nx, l), false) : Qu × Bool) else ((nx, delK l (ixX id l 0).toNat), true)) = ((nx, l), false) := fun h => by rw [h, if_pos (by decide)]
  generalize (if ixX id l 0 < 0 then (((nx, l), false) : Qu × Bool) else ((nx, delK l (ixX id l 0).toNat), true)) = Z at *
  simp only [encB, encQ, slX] at *
  conv => arg 2; simp only [ir21]
  conv => arg 3; simp only [ir21, Go.Proofs.YtoihpjpgihhcjaaEv.start, List.length, Nat.reduceAdd, Nat.reduceSub, List.reduceReplicate, List.append_eq, List.cons_append, List.nil_append]
  conv => arg 4; simp only [heapOf]
  try conv => arg 5; simp only [List.length, Nat.reduceAdd]
  try conv => arg 6; simp only [List.length, Nat.reduceAdd]
  refine EVgo9 trivial (h28) trivial trivial trivial trivial trivial trivial trivial trivial trivial trivial ?_
  refine WC.loop (T' := _) (H' := _) (n' := _) rfl ((?_ : ∀ (r p : List It), p ++ r = l → ixX id l 0 = ixX id r p.length →
    WC cf _ (mkT 28 [(1, .int .i64 id), (2, .ptr 0 0), (4, .ptr 1 0), (6, .int .i64 (p.length : Nat))]) [(0, .box [.int .i64 nx, .sl l.length false (flat encX l)]), (1, .box [.int .i64 0, .nil])] 0 2 _) l [] rfl rfl)
  intro r
  induction r with
  | nil =>
    intro p hp hok
    rw [List.append_nil] at hp
    subst hp
    rw [hB0 hok]
    conv => arg 3; simp only [mkT, putT, List.reduceReplicate, List.set]
    refine EVgl9 trivial trivial trivial trivial trivial trivial trivial trivial trivial trivial trivial trivial ?_
    exact EVret trivial
  | cons x r ih =>
    intro p hp hok
    have hih := ih (p ++ [x]) (by rw [List.append_assoc]; exact hp)
    rw [snoc_len] at hih
    have hok' : ixX id l 0 = if x.1 = id then (p.length : Int) else ixX id r (p.length + 1) := hok
    obtain ⟨a, b, c⟩ := x
    have hln : l.length = p.length + (r.length + 1) := by rw [← hp]; simp
    have hlt : (p.length : Int) < (l.length : Int) := by omega
    have hw : IntKind.i64.wrap ((p.length : Int) + 1) = ((p.length + 1 : Nat) : Int) := by rw [i64_in _ (by omega)]; simp
    have eK := mid_X hp
    by_cases hx : a = id
    · rw [if_pos hx] at hok'
      have hx' : (a == id) = true := beq_iff_eq.2 hx
      have h33 := h33 p.length (by omega)
      rw [hB _ hok']
      generalize delK l p.length = m at *
      conv => arg 3; simp only [mkT, putT, List.reduceReplicate, List.set]
      refine EVgo9 (And.intro (hlt) ( And.intro (eK) (hx'))) (h33) trivial trivial trivial trivial trivial trivial trivial trivial trivial trivial ?_
      exact EVret trivial
    · rw [if_neg hx] at hok'
      have hx' : (a == id) = false := beq_eq_false_iff_ne.2 hx
      have hN := hih hok'
      conv => arg 3; simp only [mkT, putT, List.reduceReplicate, List.set]
      refine EVgo9 (And.intro (hlt) ( And.intro (eK) ( And.intro (hx') (hw)))) trivial trivial trivial trivial trivial trivial trivial trivial trivial trivial trivial ?_
      exact WC.loop rfl hN
theorem s22 (q : Qu) (hl : q.2.length ≤ 1000000) : Sp cf 22 [encQ q, encQ q] (.bool true) := by
  refine sp_of hcf env22 ?_
  obtain ⟨nx, l⟩ := q
  simp only [encQ, slX] at *
  have hne : ((l.length : Int) != (l.length : Int)) = false := bne_self_eq_false _
  have hnx : (nx != nx) = false := bne_self_eq_false _
  conv => arg 2; simp only [ir22]
  conv => arg 3; simp only [ir22, Go.Proofs.YtoihpjpgihhcjaaEv.start, List.length, Nat.reduceAdd, Nat.reduceSub, List.reduceReplicate, List.append_eq, List.cons_append, List.nil_append]
  conv => arg 4; simp only [heapOf]
  try conv => arg 5; simp only [List.length, Nat.reduceAdd]
  try conv => arg 6; simp only [List.length, Nat.reduceAdd]
  refine EVgo9 (And.intro (hne) (hnx)) trivial trivial trivial trivial trivial trivial trivial trivial trivial trivial trivial ?_
  refine WC.loop (T' := _) (H' := _) (n' := _) rfl ((?_ : ∀ (r p : List It), p ++ r = l →
    WC cf _ (mkT 38 [(2, .ptr 0 0), (3, .ptr 1 0), (5, .int .i64 (p.length : Nat))]) [(0, .box [.int .i64 nx, .sl l.length false (flat encX l)]), (1, .box [.int .i64 nx, .sl l.length false (flat encX l)])] 0 2 _) l [] rfl)
  intro r
  induction r with
  | nil =>
    intro p hp
    rw [List.append_nil] at hp
    subst hp
    conv => arg 3; simp only [mkT, putT, List.reduceReplicate, List.set]
    refine EVgl9 trivial trivial trivial trivial trivial trivial trivial trivial trivial trivial trivial trivial ?_
    exact EVret trivial
  | cons x r ih =>
    intro p hp
    obtain ⟨x, y, z⟩ := x
    have hlen : l.length = p.length + (r.length + 1) := by rw [← hp]; simp
    have hlt : (p.length : Int) < (l.length : Int) := by omega
    have hw : IntKind.i64.wrap ((p.length : Int) + 1) = ((p.length + 1 : Nat) : Int) := by rw [i64_in _ (by omega)]; simp
    have eK := mid_X hp
    have hih := ih (p ++ [(x, y, z)]) (by rw [List.append_assoc]; exact hp)
    rw [snoc_len] at hih
    conv => arg 3; simp only [mkT, putT, List.reduceReplicate, List.set]
    refine EVgo9 (And.intro (hlt) ( And.intro (hw) (eK))) trivial trivial trivial trivial trivial trivial trivial trivial trivial (@k_eqS3 cf) trivial ?_
    exact WC.loop rfl hih
theorem s23 (q : Qu) (hl : q.2.length ≤ 9223372036854775807) : Sp cf 23 [encQ q] (.sl (saneQ q).2.length false (idsP (saneQ q).2)) := by
  have h28 := s34 hcf q hl
  have hf := saneQ_fit q
  refine sp_of hcf env23 ?_
  generalize saneQ q = s at *
  obtain ⟨nx, l⟩ := s
  obtain ⟨qn, ql⟩ := q
  simp only [encQ, slX] at *
  have hlen := hf.len
  conv => arg 2; simp only [ir23]
  conv => arg 3; simp only [ir23, Go.Proofs.YtoihpjpgihhcjaaEv.start, List.length, Nat.reduceAdd, Nat.reduceSub, List.reduceReplicate, List.append_eq, List.cons_append, List.nil_append]
  conv => arg 4; simp only [heapOf]
  try conv => arg 5; simp only [List.length, Nat.reduceAdd]
  try conv => arg 6; simp only [List.length, Nat.reduceAdd]
  refine EVgo9 trivial (h28) trivial trivial trivial trivial trivial trivial trivial trivial trivial trivial ?_
  refine WC.loop (T' := _) (H' := _) (n' := _) rfl ((?_ : ∀ (r p : List It), p ++ r = l →
    WC cf _ (mkT 24 [(1, .ptr 0 0), (3, .own 1 1 0 p.length), (4, .int .i64 (p.length : Nat))]) [(0, .box [.int .i64 nx, .sl l.length false (flat encX l)]), (1, .row (idsP p))] 0 2 _) l [] rfl)
  intro r
  induction r with
  | nil =>
    intro p hp
    rw [List.append_nil] at hp
    subst hp
    conv => arg 3; simp only [mkT, putT, List.reduceReplicate, List.set]
    refine EVgl9 trivial trivial trivial trivial trivial trivial trivial trivial trivial trivial trivial trivial ?_
    exact EVret (allIds)
  | cons x r ih =>
    intro p hp
    have hih := ih (p ++ [x]) (by rw [List.append_assoc]; exact hp)
    rw [snoc_len] at hih
    obtain ⟨a, b, c⟩ := x
    have hln : l.length = p.length + (r.length + 1) := by rw [← hp]; simp
    have hlt : (p.length : Int) < (l.length : Int) := by omega
    have hw : IntKind.i64.wrap ((p.length : Int) + 1) = ((p.length + 1 : Nat) : Int) := by rw [i64_in _ (by omega)]; simp
    have eK := mid_X hp
    have hsn := snocIds p a b c
    conv => arg 3; simp only [mkT, putT, List.reduceReplicate, List.set]
    refine EVgo9 (And.intro (hlt) ( And.intro (hw) ( And.intro (eK) ( And.intro (lenIds) ( And.intro (allIds) (hsn)))))) trivial trivial trivial trivial trivial trivial trivial trivial trivial trivial trivial ?_
    exact WC.loop rfl hih
end
end Go.Proofs.YtoihpjpgihhcjaaR
