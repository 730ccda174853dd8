/- Evf11H1: a part of the proof. -/
import Derived.Test.YtbgihgkobojfaaaEvf11G1
open Go Go.Proofs.YtbgihgkobojfaaaEv Go.Proofs.YtbgihgkobojfaaaR Go.IntWalk Go.Proofs
set_option maxRecDepth 20000
set_option maxHeartbeats 8000000
set_option linter.unusedVariables false
set_option linter.unusedSimpArgs false
namespace Go.Proofs.YtbgihgkobojfaaaR
theorem lenE (l : List En) : (flat encE l).length = l.length * 6 := flat_length (enc := encE) (es := 6) (fun _ => rfl) l
theorem allE (l : List En) : (flat encE l).take (l.length * 6) = flat encE l := List.take_of_length_le (by rw [lenE]; exact Nat.le_refl _)
theorem snocE (l : List En) (a : ByteArray) (b : Bool) (c d e f : Int) : flat encE l ++ [PV.str a, .bool b, .int .i64 c, .int .i64 d, .int .i64 e, .int .i64 f] = flat encE (l ++ [(a, b, c, d, e, f)]) := (flat_append l [(a, b, c, d, e, f)]).symm
theorem mid_E {m p r : List En} {a : ByteArray} {b : Bool} {c d e f : Int} (h : p ++ (a, b, c, d, e, f) :: r = m) : (flat encE m).drop (p.length * 6) = PV.str a :: .bool b :: .int .i64 c :: .int .i64 d :: .int .i64 e :: .int .i64 f :: flat encE r := by
  subst h
  rw [flat_drop (enc := encE) (es := 6) (fun _ => rfl), List.drop_left]
  rfl
theorem snoc_len {α : Type} (p : List α) (x : α) : (p ++ [x]).length = p.length + 1 := by simp
def zeroP (t a : Int) : Bool := (t == 0 && a == 0)
def kindB (k v t a : Int) : Bool := if k = 0 then visV v && zeroP t a else if k = 1 ∨ k = 4 then decide (addrV t a ≥ 0) else (k == 2 || k == 3)
def saneE (e : En) : Bool := namedB e.1.toList && kindB e.2.2.1 e.2.2.2.1 e.2.2.2.2.1 e.2.2.2.2.2
def fewB (l : List En) : Bool := l.all (fun e => decide (e.1.size ≤ 100)) && decide (l.length ≤ 600)
theorem k_eqS6 {cf : CF} {new : Nat} {T : List PV} {H : Heap} {x y : X} {a : ByteArray} {b : Bool} {c d e f : Int} (hx : valT T x = .agg [PV.str a, .bool b, .int .i64 c, .int .i64 d, .int .i64 e, .int .i64 f]) (hy : valT T y = .agg [PV.str a, .bool b, .int .i64 c, .int .i64 d, .int .i64 e, .int .i64 f]) : EK cf (.eqS true [2, 1, 0, 0, 0, 0] x y) new T H (.bool false) [] := ⟨by
  simp only [evalK, hx, hy, List.map_cons, List.map_nil, kindOf, if_true, cellsEq, cellEq, beq_self_eq_true, Bool.and_self, Bool.not_true]⟩
theorem k_eqS2 {cf : CF} {new : Nat} {T : List PV} {H : Heap} {x y : X} {a b : Int} (hx : valT T x = .agg [.int .i64 a, .int .i64 b]) (hy : valT T y = .agg [.int .i64 a, .int .i64 b]) : EK cf (.eqS true [0, 0] x y) new T H (.bool false) [] := ⟨by
  simp only [evalK, hx, hy, List.map_cons, List.map_nil, kindOf, if_true, cellsEq, cellEq, beq_self_eq_true, Bool.and_self, Bool.not_true]⟩
theorem k_eqS0 {cf : CF} {new : Nat} {T : List PV} {H : Heap} {x y : X} {t a : Int} (hx : valT T x = .agg [.int .i64 t, .int .i64 a]) (hy : valT T y = .agg [.int .i64 0, .int .i64 0]) : EK cf (.eqS false [0, 0] x y) new T H (.bool (zeroP t a)) [] := ⟨by
  simp only [evalK, hx, hy, List.map_cons, List.map_nil, kindOf, if_true, cellsEq, cellEq, Bool.and_true]
  rfl⟩
abbrev Pr := Int × Int
def encP (p : Pr) : List PV := [.int .i64 p.1, .int .i64 p.2]
def slP (l : List Pr) : PV := .sl l.length false (flat encP l)
theorem mid_P {m p r : List Pr} {x y : Int} (h : p ++ (x, y) :: r = m) : (flat encP m).drop (p.length * 2) = .int .i64 x :: .int .i64 y :: flat encP r := by
  subst h
  rw [flat_drop (enc := encP) (es := 2) (fun _ => rfl), List.drop_left]
  rfl
section
variable {cf : CF} (hcf : cf = ev env)
include hcf
theorem s15 (e : En) (hl : e.1.size ≤ 1000000) : Sp cf 15 [.agg (encE e)] (.bool (saneE e)) := by
  obtain ⟨n, im, k, v, t, a⟩ := e
  have h37 := s37 hcf n.toList (by rw [ByteArray.toList_eq]; exact hl)
  rw [← strB] at h37
  have h38 := s38 hcf v
  have h29 := s29 hcf t a
  refine sp_of hcf env15 ?_
  unfold saneE kindB
  simp only [encE]
  cases c : namedB n.toList with
  | false =>
    rw [c] at h37
    conv => arg 2; simp only [ir15]
    conv => arg 3; simp only [ir15, Go.Proofs.YtbgihgkobojfaaaEv.start, List.length, Nat.reduceAdd, Nat.reduceSub, List.reduceReplicate, List.append_eq, List.cons_append, List.nil_append]
    conv => arg 4; simp only [heapOf]
    try conv => arg 5; simp only [List.length, Nat.reduceAdd]
    try conv => arg 6; simp only [List.length, Nat.reduceAdd]
    refine EVgo9 trivial (h37) trivial trivial trivial trivial trivial trivial trivial trivial trivial trivial ?_
    exact EVret trivial
  | true =>
    rw [c] at h37
    rw [Bool.true_and]
    by_cases k0 : k = 0
    · have k0' : (k == 0) = true := beq_iff_eq.2 k0
      rw [if_pos k0]
      cases c2 : visV v with
      | false =>
        rw [c2] at h38
        conv => arg 2; simp only [ir15]
        conv => arg 3; simp only [ir15, Go.Proofs.YtbgihgkobojfaaaEv.start, List.length, Nat.reduceAdd, Nat.reduceSub, List.reduceReplicate, List.append_eq, List.cons_append, List.nil_append]
        conv => arg 4; simp only [heapOf]
        try conv => arg 5; simp only [List.length, Nat.reduceAdd]
        try conv => arg 6; simp only [List.length, Nat.reduceAdd]
        refine EVgo9 (k0') (h37) (h38) trivial trivial trivial trivial trivial trivial trivial trivial trivial ?_
        exact EVret trivial
      | true =>
        rw [c2] at h38
        conv => arg 2; simp only [ir15]
        conv => arg 3; simp only [ir15, Go.Proofs.YtbgihgkobojfaaaEv.start, List.length, Nat.reduceAdd, Nat.reduceSub, List.reduceReplicate, List.append_eq, List.cons_append, List.nil_append]
        conv => arg 4; simp only [heapOf]
        try conv => arg 5; simp only [List.length, Nat.reduceAdd]
        try conv => arg 6; simp only [List.length, Nat.reduceAdd]
        refine EVgo9 (k0') (h37) (h38) trivial trivial trivial trivial trivial trivial trivial (@k_eqS0 cf) trivial ?_
        exact EVret trivial
    · have k0' : (k == 0) = false := beq_eq_false_iff_ne.2 k0
      rw [if_neg k0]
      by_cases k1 : k = 1
      · have k1' : (k == 1) = true := beq_iff_eq.2 k1
        rw [if_pos (.inl k1)]
        conv => arg 2; simp only [ir15]
        conv => arg 3; simp only [ir15, Go.Proofs.YtbgihgkobojfaaaEv.start, List.length, Nat.reduceAdd, Nat.reduceSub, List.reduceReplicate, List.append_eq, List.cons_append, List.nil_append]
        conv => arg 4; simp only [heapOf]
        try conv => arg 5; simp only [List.length, Nat.reduceAdd]
        try conv => arg 6; simp only [List.length, Nat.reduceAdd]
        refine EVgo9 (And.intro (k0') (k1')) (h37) (h29) trivial trivial trivial trivial trivial trivial trivial trivial trivial ?_
        exact EVret trivial
      · have k1' : (k == 1) = false := beq_eq_false_iff_ne.2 k1
        by_cases k4 : k = 4
        · have k4' : (k == 4) = true := beq_iff_eq.2 k4
          rw [if_pos (.inr k4)]
          conv => arg 2; simp only [ir15]
          conv => arg 3; simp only [ir15, Go.Proofs.YtbgihgkobojfaaaEv.start, List.length, Nat.reduceAdd, Nat.reduceSub, List.reduceReplicate, List.append_eq, List.cons_append, List.nil_append]
          conv => arg 4; simp only [heapOf]
          try conv => arg 5; simp only [List.length, Nat.reduceAdd]
          try conv => arg 6; simp only [List.length, Nat.reduceAdd]
          refine EVgo9 (And.intro (k0') ( And.intro (k1') (k4'))) (h37) (h29) trivial trivial trivial trivial trivial trivial trivial trivial trivial ?_
          exact EVret trivial
        · have k4' : (k == 4) = false := beq_eq_false_iff_ne.2 k4
          rw [if_neg (by simp only [not_or]; exact ⟨k1, k4⟩)]
          cases k2 : (k == 2) with
          | true =>
            conv => arg 2; simp only [ir15]
            conv => arg 3; simp only [ir15, Go.Proofs.YtbgihgkobojfaaaEv.start, List.length, Nat.reduceAdd, Nat.reduceSub, List.reduceReplicate, List.append_eq, List.cons_append, List.nil_append]
            conv => arg 4; simp only [heapOf]
            try conv => arg 5; simp only [List.length, Nat.reduceAdd]
            try conv => arg 6; simp only [List.length, Nat.reduceAdd]
            refine EVgo9 (And.intro (k0') ( And.intro (k1') ( And.intro (k4') (k2)))) (h37) trivial trivial trivial trivial trivial trivial trivial trivial trivial trivial ?_
            exact EVret trivial
          | false =>
            conv => arg 2; simp only [ir15]
            conv => arg 3; simp only [ir15, Go.Proofs.YtbgihgkobojfaaaEv.start, List.length, Nat.reduceAdd, Nat.reduceSub, List.reduceReplicate, List.append_eq, List.cons_append, List.nil_append]
            conv => arg 4; simp only [heapOf]
            try conv => arg 5; simp only [List.length, Nat.reduceAdd]
            try conv => arg 6; simp only [List.length, Nat.reduceAdd]
            refine EVgo9 (And.intro (k0') ( And.intro (k1') ( And.intro (k4') (k2)))) (h37) trivial trivial trivial trivial trivial trivial trivial trivial trivial trivial ?_
            exact EVret trivial
theorem s31 (e : En) (hl : e.1.size ≤ 1000000) : Sp cf 31 [.agg (encE e)] (.bool (saneE e)) := by
  obtain ⟨n, im, k, v, t, a⟩ := e
  have h43 := s43 hcf n.toList (by rw [ByteArray.toList_eq]; exact hl)
  rw [← strB] at h43
  have h44 := s44 hcf v
  have h30 := s30 hcf t a
  refine sp_of hcf env31 ?_
  unfold saneE kindB
  simp only [encE]
  cases c : namedB n.toList with
  | false =>
    rw [c] at h43
    conv => arg 2; simp only [ir31]
    conv => arg 3; simp only [ir31, Go.Proofs.YtbgihgkobojfaaaEv.start, List.length, Nat.reduceAdd, Nat.reduceSub, List.reduceReplicate, List.append_eq, List.cons_append, List.nil_append]
    conv => arg 4; simp only [heapOf]
    try conv => arg 5; simp only [List.length, Nat.reduceAdd]
    try conv => arg 6; simp only [List.length, Nat.reduceAdd]
    refine EVgo9 trivial (h43) trivial trivial trivial trivial trivial trivial trivial trivial trivial trivial ?_
    exact EVret trivial
  | true =>
    rw [c] at h43
    rw [Bool.true_and]
    by_cases kn : k < 0
    · have e : (if k = 0 then visV v && zeroP t a else if k = 1 ∨ k = 4 then decide (addrV t a ≥ 0) else (k == 2 || k == 3)) = false := by
        rw [if_neg (by omega), if_neg (by omega), beq_eq_false_iff_ne.2 (by omega), beq_eq_false_iff_ne.2 (by omega)]; rfl
      rw [e]
      conv => arg 2; simp only [ir31]
      conv => arg 3; simp only [ir31, Go.Proofs.YtbgihgkobojfaaaEv.start, List.length, Nat.reduceAdd, Nat.reduceSub, List.reduceReplicate, List.append_eq, List.cons_append, List.nil_append]
      conv => arg 4; simp only [heapOf]
      try conv => arg 5; simp only [List.length, Nat.reduceAdd]
      try conv => arg 6; simp only [List.length, Nat.reduceAdd]
      refine EVgo9 (kn) (h43) trivial trivial trivial trivial trivial trivial trivial trivial trivial trivial ?_
      exact EVret trivial
    by_cases kx : k > 4
    · have e : (if k = 0 then visV v && zeroP t a else if k = 1 ∨ k = 4 then decide (addrV t a ≥ 0) else (k == 2 || k == 3)) = false := by
        rw [if_neg (by omega), if_neg (by omega), beq_eq_false_iff_ne.2 (by omega), beq_eq_false_iff_ne.2 (by omega)]; rfl
      rw [e]
      conv => arg 2; simp only [ir31]
      conv => arg 3; simp only [ir31, Go.Proofs.YtbgihgkobojfaaaEv.start, List.length, Nat.reduceAdd, Nat.reduceSub, List.reduceReplicate, List.append_eq, List.cons_append, List.nil_append]
      conv => arg 4; simp only [heapOf]
      try conv => arg 5; simp only [List.length, Nat.reduceAdd]
      try conv => arg 6; simp only [List.length, Nat.reduceAdd]
      refine EVgo9 (And.intro (kn) (kx)) (h43) trivial trivial trivial trivial trivial trivial trivial trivial trivial trivial ?_
      exact EVret trivial
    by_cases k0 : k = 0
    · have k0' : (k == 0) = true := beq_iff_eq.2 k0
      rw [if_pos k0]
      unfold visV withinB
      by_cases v0 : 0 ≤ v
      · have v0' : v ≥ 0 := v0
        rw [decide_eq_true v0]
        by_cases v1 : v ≤ 110
        · have v1' : v < 111 := by omega
          rw [decide_eq_true v1]
          cases c2 : hidV v with
          | true =>
            rw [c2] at h44
            conv => arg 2; simp only [ir31]
            conv => arg 3; simp only [ir31, Go.Proofs.YtbgihgkobojfaaaEv.start, List.length, Nat.reduceAdd, Nat.reduceSub, List.reduceReplicate, List.append_eq, List.cons_append, List.nil_append]
            conv => arg 4; simp only [heapOf]
            try conv => arg 5; simp only [List.length, Nat.reduceAdd]
            try conv => arg 6; simp only [List.length, Nat.reduceAdd]
            refine EVgo9 (And.intro (kn) ( And.intro (kx) ( And.intro (k0') ( And.intro (v0') (v1'))))) (h43) (h44) trivial trivial trivial trivial trivial trivial trivial trivial trivial ?_
            exact EVret trivial
          | false =>
            rw [c2] at h44
            conv => arg 2; simp only [ir31]
            conv => arg 3; simp only [ir31, Go.Proofs.YtbgihgkobojfaaaEv.start, List.length, Nat.reduceAdd, Nat.reduceSub, List.reduceReplicate, List.append_eq, List.cons_append, List.nil_append]
            conv => arg 4; simp only [heapOf]
            try conv => arg 5; simp only [List.length, Nat.reduceAdd]
            try conv => arg 6; simp only [List.length, Nat.reduceAdd]
            refine EVgo9 (And.intro (kn) ( And.intro (kx) ( And.intro (k0') ( And.intro (v0') (v1'))))) (h43) (h44) trivial trivial trivial trivial trivial trivial trivial (@k_eqS0 cf) trivial ?_
            exact EVret trivial
        · have v1' : ¬ v < 111 := by omega
          rw [decide_eq_false v1]
          conv => arg 2; simp only [ir31]
          conv => arg 3; simp only [ir31, Go.Proofs.YtbgihgkobojfaaaEv.start, List.length, Nat.reduceAdd, Nat.reduceSub, List.reduceReplicate, List.append_eq, List.cons_append, List.nil_append]
          conv => arg 4; simp only [heapOf]
          try conv => arg 5; simp only [List.length, Nat.reduceAdd]
          try conv => arg 6; simp only [List.length, Nat.reduceAdd]
          refine EVgo9 (And.intro (kn) ( And.intro (kx) ( And.intro (k0') ( And.intro (v0') (v1'))))) (h43) trivial trivial trivial trivial trivial trivial trivial trivial trivial trivial ?_
          exact EVret trivial
      · have v0' : ¬ v ≥ 0 := v0
        rw [decide_eq_false v0]
        conv => arg 2; simp only [ir31]
        conv => arg 3; simp only [ir31, Go.Proofs.YtbgihgkobojfaaaEv.start, List.length, Nat.reduceAdd, Nat.reduceSub, List.reduceReplicate, List.append_eq, List.cons_append, List.nil_append]
        conv => arg 4; simp only [heapOf]
        try conv => arg 5; simp only [List.length, Nat.reduceAdd]
        try conv => arg 6; simp only [List.length, Nat.reduceAdd]
        refine EVgo9 (And.intro (kn) ( And.intro (kx) ( And.intro (k0') (v0')))) (h43) trivial trivial trivial trivial trivial trivial trivial trivial trivial trivial ?_
        exact EVret trivial
    · have k0' : (k == 0) = false := beq_eq_false_iff_ne.2 k0
      rw [if_neg k0]
      by_cases k1 : k = 1
      · have k1' : (k != 1) = false := by rw [k1]; rfl
        rw [if_pos (.inl k1)]
        conv => arg 2; simp only [ir31]
        conv => arg 3; simp only [ir31, Go.Proofs.YtbgihgkobojfaaaEv.start, List.length, Nat.reduceAdd, Nat.reduceSub, List.reduceReplicate, List.append_eq, List.cons_append, List.nil_append]
        conv => arg 4; simp only [heapOf]
        try conv => arg 5; simp only [List.length, Nat.reduceAdd]
        try conv => arg 6; simp only [List.length, Nat.reduceAdd]
        refine EVgo9 (And.intro (kn) ( And.intro (kx) ( And.intro (k0') (k1')))) (h43) (h30) trivial trivial trivial trivial trivial trivial trivial trivial trivial ?_
        exact EVret trivial
      · have k1' : (k != 1) = true := bne_iff_ne.2 k1
        by_cases k4 : k = 4
        · have k4' : (k != 4) = false := by rw [k4]; rfl
          rw [if_pos (.inr k4)]
          conv => arg 2; simp only [ir31]
          conv => arg 3; simp only [ir31, Go.Proofs.YtbgihgkobojfaaaEv.start, List.length, Nat.reduceAdd, Nat.reduceSub, List.reduceReplicate, List.append_eq, List.cons_append, List.nil_append]
          conv => arg 4; simp only [heapOf]
          try conv => arg 5; simp only [List.length, Nat.reduceAdd]
          try conv => arg 6; simp only [List.length, Nat.reduceAdd]
          refine EVgo9 (And.intro (kn) ( And.intro (kx) ( And.intro (k0') ( And.intro (k1') (k4'))))) (h43) (h30) trivial trivial trivial trivial trivial trivial trivial trivial trivial ?_
          exact EVret trivial
        · have k4' : (k != 4) = true := bne_iff_ne.2 k4
          have e : (k == 2 || k == 3) = true := by
            have : k = 2 ∨ k = 3 := by omega
            rcases this with rfl | rfl <;> rfl
          rw [if_neg (by simp only [not_or]; exact ⟨k1, k4⟩), e]
          conv => arg 2; simp only [ir31]
          conv => arg 3; simp only [ir31, Go.Proofs.YtbgihgkobojfaaaEv.start, List.length, Nat.reduceAdd, Nat.reduceSub, List.reduceReplicate, List.append_eq, List.cons_append, List.nil_append]
          conv => arg 4; simp only [heapOf]
          try conv => arg 5; simp only [List.length, Nat.reduceAdd]
          try conv => arg 6; simp only [List.length, Nat.reduceAdd]
          refine EVgo9 (And.intro (kn) ( And.intro (kx) ( And.intro (k0') ( And.intro (k1') (k4'))))) (h43) trivial trivial trivial trivial trivial trivial trivial trivial trivial trivial ?_
          exact EVret trivial
theorem s16 (l : List En) (hl : l.length ≤ 9223372036854775807) : Sp cf 16 [slE l] (.bool (fewB l)) := by
  refine sp_of hcf env16 ?_
  unfold fewB
  simp only [slE]
  conv => arg 2; simp only [ir16]
  conv => arg 3; simp only [ir16, Go.Proofs.YtbgihgkobojfaaaEv.start, List.length, Nat.reduceAdd, Nat.reduceSub, List.reduceReplicate, List.append_eq, List.cons_append, List.nil_append]
  conv => arg 4; simp only [heapOf]
  try conv => arg 5; simp only [List.length, Nat.reduceAdd]
  try conv => arg 6; simp only [List.length, Nat.reduceAdd]
  refine EVgo9 trivial trivial trivial trivial trivial trivial trivial trivial trivial trivial trivial trivial ?_
  refine WC.loop (T' := _) (H' := _) (n' := _) rfl ((?_ : ∀ (r p : List En), p ++ r = l → l.all (fun e => decide (e.1.size ≤ 100)) = r.all (fun e => decide (e.1.size ≤ 100)) →
    WC cf _ (mkT 20 [(0, .sl l.length false (flat encE l)), (3, .int .i64 (p.length : Nat))]) [] 0 0 _) l [] rfl rfl)
  intro r
  induction r with
  | nil =>
    intro p hp ha
    rw [List.append_nil] at hp
    subst hp
    have ha' : p.all (fun e => decide (e.1.size ≤ 100)) = true := ha
    rw [ha']
    by_cases h6 : p.length ≤ 600
    · have h6' : (p.length : Int) ≤ 600 := by omega
      rw [decide_eq_true h6]
      conv => arg 3; simp only [mkT, putT, List.reduceReplicate, List.set]
      refine EVgl9 trivial trivial trivial trivial trivial trivial trivial trivial trivial trivial trivial trivial ?_
      refine EVgo9 (h6') trivial trivial trivial trivial trivial trivial trivial trivial trivial trivial trivial ?_
      exact EVret trivial
    · have h6' : ¬ (p.length : Int) ≤ 600 := by omega
      rw [decide_eq_false h6]
      conv => arg 3; simp only [mkT, putT, List.reduceReplicate, List.set]
      refine EVgl9 trivial trivial trivial trivial trivial trivial trivial trivial trivial trivial trivial trivial ?_
      refine EVgo9 (h6') trivial trivial trivial trivial trivial trivial trivial trivial trivial trivial trivial ?_
      exact EVret trivial
  | cons x r ih =>
    intro p hp ha
    have hih := ih (p ++ [x]) (by rw [List.append_assoc]; exact hp)
    rw [snoc_len] at hih
    obtain ⟨n, im, k, v, t, a⟩ := x
    have hlen : l.length = p.length + (r.length + 1) := by rw [← hp]; simp
    have hlt : (p.length : Int) < (l.length : Int) := by omega
    have hw : IntKind.i64.wrap ((p.length : Int) + 1) = ((p.length + 1 : Nat) : Int) := by rw [i64_in _ (by omega)]; simp
    have eK := mid_E hp
    have ha' : l.all (fun e => decide (e.1.size ≤ 100)) = (decide (n.size ≤ 100) && r.all (fun e => decide (e.1.size ≤ 100))) := ha
    by_cases hn : n.size ≤ 100
    · have hn' : ¬ (n.size : Int) > 100 := by omega
      rw [decide_eq_true hn, Bool.true_and] at ha'
      conv => arg 3; simp only [mkT, putT, List.reduceReplicate, List.set]
      refine EVgo9 (And.intro (hlt) ( And.intro (eK) ( And.intro (hn') (hw)))) trivial trivial trivial trivial trivial trivial trivial trivial trivial trivial trivial ?_
      exact WC.loop rfl (hih ha')
    · have hn' : (n.size : Int) > 100 := by omega
      rw [decide_eq_false hn, Bool.false_and] at ha'
      rw [ha']
      conv => arg 3; simp only [mkT, putT, List.reduceReplicate, List.set]
      refine EVgo9 (And.intro (hlt) ( And.intro (eK) (hn'))) trivial trivial trivial trivial trivial trivial trivial trivial trivial trivial trivial ?_
      exact EVret trivial
theorem s19 (e : En) : Sp cf 19 [.agg (encE e)] (.agg (encE e)) := by
  obtain ⟨n, im, k, v, t, a⟩ := e
  refine sp_of hcf env19 ?_
  simp only [encE]
  conv => arg 2; simp only [ir19]
  conv => arg 3; simp only [ir19, Go.Proofs.YtbgihgkobojfaaaEv.start, List.length, Nat.reduceAdd, Nat.reduceSub, List.reduceReplicate, List.append_eq, List.cons_append, List.nil_append]
  conv => arg 4; simp only [heapOf]
  try conv => arg 5; simp only [List.length, Nat.reduceAdd]
  try conv => arg 6; simp only [List.length, Nat.reduceAdd]
  refine EVgo9 trivial trivial trivial trivial trivial trivial trivial trivial trivial trivial trivial trivial ?_
  exact EVret trivial
theorem s18 (l : List En) (hl : l.length ≤ 1000000) : Sp cf 18 [slE l] (slE l) := by
  refine sp_of hcf env18 ?_
  simp only [slE]
  conv => arg 2; simp only [ir18]
  conv => arg 3; simp only [ir18, Go.Proofs.YtbgihgkobojfaaaEv.start, List.length, Nat.reduceAdd, Nat.reduceSub, List.reduceReplicate, List.append_eq, List.cons_append, List.nil_append]
  conv => arg 4; simp only [heapOf]
  try conv => arg 5; simp only [List.length, Nat.reduceAdd]
  try conv => arg 6; simp only [List.length, Nat.reduceAdd]
  refine EVgo9 trivial trivial trivial trivial trivial trivial trivial trivial trivial trivial trivial trivial ?_
  refine WC.loop (T' := _) (H' := _) (n' := _) rfl ((?_ : ∀ (r p : List En), p ++ r = l →
    WC cf _ (mkT 20 [(0, .sl l.length false (flat encE l)), (3, .own 0 6 0 p.length), (4, .int .i64 (p.length : Nat))]) [(0, .row (flat encE p))] 0 1 _) l [] rfl)
  intro r
  induction r with
  | nil =>
    intro p hp
    rw [List.append_nil] at hp
    subst hp
    conv => arg 3; simp only [mkT, putT, List.reduceReplicate, List.set]
    refine EVgl9 trivial trivial trivial trivial trivial trivial trivial trivial trivial trivial trivial trivial ?_
    exact EVret (allE)
  | cons x r ih =>
    intro p hp
    have h19 := s19 hcf x
    have hih := ih (p ++ [x]) (by rw [List.append_assoc]; exact hp)
    rw [snoc_len] at hih
    obtain ⟨n, im, k, v, t, a⟩ := x
    simp only [encE] at h19
    have hlen : l.length = p.length + (r.length + 1) := by rw [← hp]; simp
    have hlt : (p.length : Int) < (l.length : Int) := by omega
    have hw : IntKind.i64.wrap ((p.length : Int) + 1) = ((p.length + 1 : Nat) : Int) := by rw [i64_in _ (by omega)]; simp
    have eK := mid_E hp
    conv => arg 3; simp only [mkT, putT, List.reduceReplicate, List.set]
    refine EVgo9 (And.intro (hlt) ( And.intro (hw) ( And.intro (eK) ( And.intro (lenE) ( And.intro (allE) (snocE)))))) (h19) trivial trivial trivial trivial trivial trivial trivial trivial trivial trivial ?_
    exact WC.loop rfl hih
theorem s21 (l : List En) (hl : l.length ≤ 1000000) : Sp cf 21 [slE l] (slE l) := by
  refine sp_of hcf env21 ?_
  simp only [slE]
  conv => arg 2; simp only [ir21]
  conv => arg 3; simp only [ir21, Go.Proofs.YtbgihgkobojfaaaEv.start, List.length, Nat.reduceAdd, Nat.reduceSub, List.reduceReplicate, List.append_eq, List.cons_append, List.nil_append]
  conv => arg 4; simp only [heapOf]
  try conv => arg 5; simp only [List.length, Nat.reduceAdd]
  try conv => arg 6; simp only [List.length, Nat.reduceAdd]
  refine EVgo9 trivial trivial trivial trivial trivial trivial trivial trivial trivial trivial trivial trivial ?_
  refine WC.loop (T' := _) (H' := _) (n' := _) rfl ((?_ : ∀ (r p : List En), p ++ r = l →
    WC cf _ (mkT 31 [(0, .sl l.length false (flat encE l)), (3, .own 0 6 0 p.length), (4, .int .i64 (p.length : Nat))]) [(0, .row (flat encE p))] 0 1 _) l [] rfl)
  intro r
  induction r with
  | nil =>
    intro p hp
    rw [List.append_nil] at hp
    subst hp
    conv => arg 3; simp only [mkT, putT, List.reduceReplicate, List.set]
    refine EVgl9 trivial trivial trivial trivial trivial trivial trivial trivial trivial trivial trivial trivial ?_
    exact EVret (allE)
  | cons x r ih =>
    intro p hp
    have hih := ih (p ++ [x]) (by rw [List.append_assoc]; exact hp)
    rw [snoc_len] at hih
    obtain ⟨n, im, k, v, t, a⟩ := x
    have hlen : l.length = p.length + (r.length + 1) := by rw [← hp]; simp
    have hlt : (p.length : Int) < (l.length : Int) := by omega
    have hw : IntKind.i64.wrap ((p.length : Int) + 1) = ((p.length + 1 : Nat) : Int) := by rw [i64_in _ (by omega)]; simp
    have eK := mid_E hp
    conv => arg 3; simp only [mkT, putT, List.reduceReplicate, List.set]
    refine EVgo9 (And.intro (hlt) ( And.intro (hw) ( And.intro (eK) ( And.intro (lenE) ( And.intro (allE) (snocE)))))) trivial trivial trivial trivial trivial trivial trivial trivial trivial trivial trivial ?_
    exact WC.loop rfl hih
theorem s20 (l : List En) (hl : l.length ≤ 1000000) : Sp cf 20 [slE l, slE l] (.bool true) := by
  refine sp_of hcf env20 ?_
  simp only [slE]
  have hne : ((l.length : Int) != (l.length : Int)) = false := bne_self_eq_false _
  conv => arg 2; simp only [ir20]
  conv => arg 3; simp only [ir20, Go.Proofs.YtbgihgkobojfaaaEv.start, List.length, Nat.reduceAdd, Nat.reduceSub, List.reduceReplicate, List.append_eq, List.cons_append, List.nil_append]
  conv => arg 4; simp only [heapOf]
  try conv => arg 5; simp only [List.length, Nat.reduceAdd]
  try conv => arg 6; simp only [List.length, Nat.reduceAdd]
  refine EVgo9 (hne) trivial trivial trivial trivial trivial trivial trivial trivial trivial trivial trivial ?_
  refine WC.loop (T' := _) (H' := _) (n' := _) rfl ((?_ : ∀ (r p : List En), p ++ r = l →
    WC cf _ (mkT 26 [(0, .sl l.length false (flat encE l)), (1, .sl l.length false (flat encE l)), (5, .int .i64 (p.length : Nat))]) [] 0 0 _) l [] rfl)
  intro r
  induction r with
  | nil =>
    intro p hp
    rw [List.append_nil] at hp
    subst hp
    conv => arg 3; simp only [mkT, putT, List.reduceReplicate, List.set]
    refine EVgl9 trivial trivial trivial trivial trivial trivial trivial trivial trivial trivial trivial trivial ?_
    exact EVret trivial
  | cons x r ih =>
    intro p hp
    have hih := ih (p ++ [x]) (by rw [List.append_assoc]; exact hp)
    rw [snoc_len] at hih
    obtain ⟨n, im, k, v, t, a⟩ := x
    have hlen : l.length = p.length + (r.length + 1) := by rw [← hp]; simp
    have hlt : (p.length : Int) < (l.length : Int) := by omega
    have hw : IntKind.i64.wrap ((p.length : Int) + 1) = ((p.length + 1 : Nat) : Int) := by rw [i64_in _ (by omega)]; simp
    have eK := mid_E hp
    conv => arg 3; simp only [mkT, putT, List.reduceReplicate, List.set]
    refine EVgo9 (And.intro (hlt) ( And.intro (eK) (hw))) trivial trivial trivial trivial trivial trivial trivial trivial trivial (@k_eqS6 cf) trivial ?_
    exact WC.loop rfl hih
theorem s28 (l : List Pr) (hl : l.length ≤ 1000000) : Sp cf 28 [slP l, slP l] (.bool true) := by
  refine sp_of hcf env28 ?_
  simp only [slP]
  have hne : ((l.length : Int) != (l.length : Int)) = false := bne_self_eq_false _
  conv => arg 2; simp only [ir28]
  conv => arg 3; simp only [ir28, Go.Proofs.YtbgihgkobojfaaaEv.start, List.length, Nat.reduceAdd, Nat.reduceSub, List.reduceReplicate, List.append_eq, List.cons_append, List.nil_append]
  conv => arg 4; simp only [heapOf]
  try conv => arg 5; simp only [List.length, Nat.reduceAdd]
  try conv => arg 6; simp only [List.length, Nat.reduceAdd]
  refine EVgo9 (hne) trivial trivial trivial trivial trivial trivial trivial trivial trivial trivial trivial ?_
  refine WC.loop (T' := _) (H' := _) (n' := _) rfl ((?_ : ∀ (r p : List Pr), p ++ r = l →
    WC cf _ (mkT 26 [(0, .sl l.length false (flat encP l)), (1, .sl l.length false (flat encP l)), (5, .int .i64 (p.length : Nat))]) [] 0 0 _) l [] rfl)
  intro r
  induction r with
  | nil =>
    intro p hp
    rw [List.append_nil] at hp
    subst hp
    conv => arg 3; simp only [mkT, putT, List.reduceReplicate, List.set]
    refine EVgl9 trivial trivial trivial trivial trivial trivial trivial trivial trivial trivial trivial trivial ?_
    exact EVret trivial
  | cons x r ih =>
    intro p hp
    have hih := ih (p ++ [x]) (by rw [List.append_assoc]; exact hp)
    rw [snoc_len] at hih
    obtain ⟨x, y⟩ := x
    have hlen : l.length = p.length + (r.length + 1) := by rw [← hp]; simp
    have hlt : (p.length : Int) < (l.length : Int) := by omega
    have hw : IntKind.i64.wrap ((p.length : Int) + 1) = ((p.length + 1 : Nat) : Int) := by rw [i64_in _ (by omega)]; simp
    have eK := mid_P hp
    conv => arg 3; simp only [mkT, putT, List.reduceReplicate, List.set]
    refine EVgo9 (And.intro (hlt) ( And.intro (eK) (hw))) trivial trivial trivial trivial trivial trivial trivial trivial trivial (@k_eqS2 cf) trivial ?_
    exact WC.loop rfl hih
end
end Go.Proofs.YtbgihgkobojfaaaR
