/- The document's Put. -/
import Derived.Test.YtoihpjpgihhcjaaEvf16G1
open Go Go.Proofs.YtoihpjpgihhcjaaEv Go.Proofs.YtoihpjpgihhcjaaR Go.IntWalk Go.Proofs
set_option maxRecDepth 20000
set_option maxHeartbeats 8000000
set_option linter.unusedVariables false
set_option linter.unusedSimpArgs false
namespace Go.Proofs.YtoihpjpgihhcjaaR
theorem tk_no {p : List It} {x y : It} (h : ∀ z ∈ p, Ahd z x) (hy : ¬ Ahd y x) : posK (p ++ [y]) x = p.length := by
  unfold posK
  induction p with
  | nil => rw [List.nil_append, List.takeWhile_cons_of_neg (p := fun y => aheadB y x) (by rw [ahead_iff]; exact hy)]
  | cons z p ih =>
    rw [List.cons_append, List.takeWhile_cons_of_pos (p := fun y => aheadB y x) (ahead_iff.2 (h z List.mem_cons_self)), List.length_cons, List.length_cons, ih fun y hy => h y (List.mem_cons_of_mem _ hy)]
theorem tk_lt : ∀ {p : List It} {x y : It}, posK p x < p.length → posK (p ++ [y]) x = posK p x
  | [], _, _, h => absurd h (Nat.not_lt_zero _)
  | z :: p, x, y, h => by
    unfold posK at *
    by_cases hz : aheadB z x = true
    · rw [List.takeWhile_cons_of_pos (p := fun y => aheadB y x) hz, List.length_cons, List.length_cons] at h
      have := tk_lt (p := p) (x := x) (y := y) (by unfold posK; omega)
      unfold posK at this
      rw [List.cons_append, List.takeWhile_cons_of_pos (p := fun y => aheadB y x) hz, List.takeWhile_cons_of_pos (p := fun y => aheadB y x) hz, List.length_cons, List.length_cons, this]
    · rw [List.cons_append, List.takeWhile_cons_of_neg (p := fun y => aheadB y x) hz, List.takeWhile_cons_of_neg (p := fun y => aheadB y x) hz]
theorem ins_no {p : List It} {x y : It} (h : ∀ z ∈ p, Ahd z x) (hy : ¬ Ahd y x) : insX (p ++ [y]) x = p ++ [x] ++ [y] := by
  unfold insX
  rw [tk_no h hy, List.take_left, List.drop_left, List.append_assoc]
  rfl
theorem ins_lt {p : List It} {x y : It} (h : posK p x < p.length) : insX (p ++ [y]) x = insX p x ++ [y] := by
  unfold insX
  rw [tk_lt h, List.take_append_of_le_length (by omega), List.drop_append_of_le_length (by omega), List.append_assoc]
  rfl
/-- what is out, of those seen -/
def OutR (x : It) (p out : List It) (d : Bool) : Prop := (d = false ∧ out = p ∧ ∀ y ∈ p, Ahd y x) ∨ (d = true ∧ out = insX p x ∧ posK p x < p.length)
section
variable {cf : CF} (hcf : cf = ev env)
include hcf
theorem s18 (q : Qu) (id prio : Int) (hl : q.2.length ≤ 9223372036854775807) : Sp cf 18 [encQ q, .int .i64 id, .int .i64 prio] (encB (putQ q id prio)) := by
  have h28 := s34 hcf q hl
  have hf := saneQ_fit q
  have hPO := @put_ok (saneQ q).1 (saneQ q).2 id prio hf
  have hPN := @put_no (saneQ q).1 (saneQ q).2 id prio hf
  have hpq : putQ q id prio = putQ ((saneQ q).1, (saneQ q).2) id prio := by
    unfold putQ
    rw [saneQ_id (q := ((saneQ q).1, (saneQ q).2)) hf]
  rw [hpq]
  refine sp_of hcf env18 ?_
  generalize saneQ q = s at *
  obtain ⟨nx, l⟩ := s
  obtain ⟨qn, ql⟩ := q
  simp only at *
  have hn0 := hf.n0
  have hn1 := hf.n1
  have hlen := hf.len
  have w1 : IntKind.i64.wrap (nx + 1) = nx + 1 := i64_in _ (by omega)
  generalize hZ : putQ (nx, l) id prio = Z at *
  have hno : ∀ h : ¬ PutOk nx l id prio, Z = ((nx, l), false) := fun h => hPN h
  have hmy : mayB (nx + 1) (id, prio, nx) = true ↔ _ := may_iff
  simp only at hmy
  simp only [encB, encQ, slX] at *
  by_cases b1 : id < 0
  · rw [hno fun h => by have := hmy.1 h.may; omega]
    conv => arg 2; simp only [ir18]
    conv => arg 3; simp only [ir18, Go.Proofs.YtoihpjpgihhcjaaEv.start, List.length, Nat.reduceAdd, Nat.reduceSub, List.reduceReplicate, List.append_eq, List.cons_append, List.nil_append]
    conv => arg 4; simp only [heapOf]
    try conv => arg 5; simp only [List.length, Nat.reduceAdd]
    try conv => arg 6; simp only [List.length, Nat.reduceAdd]
    refine EVgo9 (b1) (h28) trivial trivial trivial trivial trivial trivial trivial trivial trivial trivial ?_
    exact EVret trivial
  by_cases b2 : id > 7
  · rw [hno fun h => by have := hmy.1 h.may; omega]
    conv => arg 2; simp only [ir18]
    conv => arg 3; simp only [ir18, Go.Proofs.YtoihpjpgihhcjaaEv.start, List.length, Nat.reduceAdd, Nat.reduceSub, List.reduceReplicate, List.append_eq, List.cons_append, List.nil_append]
    conv => arg 4; simp only [heapOf]
    try conv => arg 5; simp only [List.length, Nat.reduceAdd]
    try conv => arg 6; simp only [List.length, Nat.reduceAdd]
    refine EVgo9 (And.intro (b1) (b2)) (h28) trivial trivial trivial trivial trivial trivial trivial trivial trivial trivial ?_
    exact EVret trivial
  by_cases b3 : prio < 0
  · rw [hno fun h => by have := hmy.1 h.may; omega]
    conv => arg 2; simp only [ir18]
    conv => arg 3; simp only [ir18, Go.Proofs.YtoihpjpgihhcjaaEv.start, List.length, Nat.reduceAdd, Nat.reduceSub, List.reduceReplicate, List.append_eq, List.cons_append, List.nil_append]
    conv => arg 4; simp only [heapOf]
    try conv => arg 5; simp only [List.length, Nat.reduceAdd]
    try conv => arg 6; simp only [List.length, Nat.reduceAdd]
    refine EVgo9 (And.intro (b1) ( And.intro (b2) (b3))) (h28) trivial trivial trivial trivial trivial trivial trivial trivial trivial trivial ?_
    exact EVret trivial
  by_cases b4 : prio > 4
  · rw [hno fun h => by have := hmy.1 h.may; omega]
    conv => arg 2; simp only [ir18]
    conv => arg 3; simp only [ir18, Go.Proofs.YtoihpjpgihhcjaaEv.start, List.length, Nat.reduceAdd, Nat.reduceSub, List.reduceReplicate, List.append_eq, List.cons_append, List.nil_append]
    conv => arg 4; simp only [heapOf]
    try conv => arg 5; simp only [List.length, Nat.reduceAdd]
    try conv => arg 6; simp only [List.length, Nat.reduceAdd]
    refine EVgo9 (And.intro (b1) ( And.intro (b2) ( And.intro (b3) (b4)))) (h28) trivial trivial trivial trivial trivial trivial trivial trivial trivial trivial ?_
    exact EVret trivial
  by_cases b5 : nx = 1099511627776
  · have b5' : (nx == 1099511627776) = true := beq_iff_eq.2 b5
    rw [hno fun h => by have := h.lt; omega]
    conv => arg 2; simp only [ir18]
    conv => arg 3; simp only [ir18, Go.Proofs.YtoihpjpgihhcjaaEv.start, List.length, Nat.reduceAdd, Nat.reduceSub, List.reduceReplicate, List.append_eq, List.cons_append, List.nil_append]
    conv => arg 4; simp only [heapOf]
    try conv => arg 5; simp only [List.length, Nat.reduceAdd]
    try conv => arg 6; simp only [List.length, Nat.reduceAdd]
    refine EVgo9 (And.intro (b1) ( And.intro (b2) ( And.intro (b3) ( And.intro (b4) (b5'))))) (h28) trivial trivial trivial trivial trivial trivial trivial trivial trivial trivial ?_
    exact EVret trivial
  have b5' : (nx == 1099511627776) = false := beq_eq_false_iff_ne.2 b5
  have hm := hmy.2 (by omega)
  have htn : ∀ y ∈ l, y.2.2 < nx := fun y hy => by have := (may_iff.1 (hf.may y hy)).2.2.2; omega
  conv => arg 2; simp only [ir18]
  conv => arg 3; simp only [ir18, Go.Proofs.YtoihpjpgihhcjaaEv.start, List.length, Nat.reduceAdd, Nat.reduceSub, List.reduceReplicate, List.append_eq, List.cons_append, List.nil_append]
  conv => arg 4; simp only [heapOf]
  try conv => arg 5; simp only [List.length, Nat.reduceAdd]
  try conv => arg 6; simp only [List.length, Nat.reduceAdd]
  refine EVgo9 (And.intro (b1) ( And.intro (b2) ( And.intro (b3) ( And.intro (b4) (b5'))))) (h28) trivial trivial trivial trivial trivial trivial trivial trivial trivial trivial ?_
  refine WC.loop (T' := _) (H' := _) (n' := _) rfl ((?_ : ∀ (r p out : List It) (d : Bool), p ++ r = l → OutR (id, prio, nx) p out d → (∀ y ∈ p, y.1 ≠ id) → out.length ≤ 9 →
    WC cf _ (mkT 89 [(1, .int .i64 id), (3, .ptr 0 0), (6, .ptr 1 0), (8, .ptr 2 0), (9, .own 3 3 0 out.length), (10, .bool d), (11, .int .i64 (p.length : Nat))]) [(0, .box [.int .i64 nx, .sl l.length false (flat encX l)]), (1, .box [.int .i64 0, .nil]), (2, .box [.int .i64 id, .int .i64 prio, .int .i64 nx]), (3, .row (flat encX out))] 0 4 _) l [] [] false rfl (.inl ⟨rfl, rfl, fun y h => absurd h List.not_mem_nil⟩) (fun y h => absurd h List.not_mem_nil) (by decide))
  intro r
  induction r with
  | nil =>
    intro p out d hp ho hi ho9
    rw [List.append_nil] at hp
    subst hp
    have hok : PutOk nx p id prio := ⟨hm, hi, by omega⟩
    have hZ2 := (hPO hok).1
    rw [hZ2]
    rcases ho with ⟨rfl, rfl, ha⟩ | ⟨rfl, rfl, _⟩
    · have hie := insX_end ha
      have hsn := snocX out id prio nx
      have hal := allX (out ++ [(id, prio, nx)])
      rw [snoc_len] at hal
      rw [hie, snoc_len]
      conv => arg 3; simp only [mkT, putT, List.reduceReplicate, List.set]
      refine EVgl9 (And.intro (w1) ( And.intro (lenX) ( And.intro (allX) (hsn)))) trivial trivial trivial trivial trivial trivial trivial trivial trivial trivial trivial ?_
      exact EVret (hal)
    · have hal := allX (insX p (id, prio, nx))
      generalize insX p (id, prio, nx) = m at *
      conv => arg 3; simp only [mkT, putT, List.reduceReplicate, List.set]
      refine EVgl9 (w1) trivial trivial trivial trivial trivial trivial trivial trivial trivial trivial trivial ?_
      exact EVret (hal)
  | cons y r ih =>
    intro p out d hp ho hi ho9
    have hln : l.length = p.length + (r.length + 1) := by rw [← hp]; simp
    have hlt : (p.length : Int) < (l.length : Int) := by omega
    have hw : IntKind.i64.wrap ((p.length : Int) + 1) = ((p.length + 1 : Nat) : Int) := by rw [i64_in _ (by omega)]; simp
    have hih := fun out d => ih (p ++ [y]) out d (by rw [List.append_assoc]; exact hp)
    rw [snoc_len] at hih
    have hyl : y ∈ l := by rw [← hp]; simp
    by_cases hid : y.1 = id
    · rw [hno fun h => h.no y hyl hid]
      have hid' : (y.1 == id) = true := beq_iff_eq.2 hid
      obtain ⟨a, b, c⟩ := y
      have eK := mid_X hp
      conv => arg 3; simp only [mkT, putT, List.reduceReplicate, List.set]
      refine EVgo9 (And.intro (hlt) ( And.intro (eK) (hid'))) trivial trivial trivial trivial trivial trivial trivial trivial trivial trivial trivial ?_
      exact EVret trivial
    have hid' : (y.1 == id) = false := beq_eq_false_iff_ne.2 hid
    have hi2 : ∀ z ∈ p ++ [y], z.1 ≠ id := fun z hz => by
      rcases List.mem_append.1 hz with hz | hz
      · exact hi z hz
      · rw [List.mem_singleton.1 hz]; exact hid
    have hyt := htn y hyl
    have h35 := s35 hcf (id, prio, nx) y
    rcases ho with ⟨rfl, rfl, ha⟩ | ⟨rfl, ho2, hk⟩
    · cases hab : aheadB (id, prio, nx) y with
      | true =>
        rw [hab] at h35
        have hna : ¬ Ahd y (id, prio, nx) := fun q => Ahd.asymm q (ahead_iff.1 hab)
        have hN := hih (out ++ [(id, prio, nx)] ++ [y]) true (.inr ⟨rfl, (ins_no ha hna).symm, by rw [tk_no ha hna, snoc_len]; omega⟩) hi2 (by rw [snoc_len, snoc_len]; omega)
        rw [snoc_len, snoc_len] at hN
        obtain ⟨a, b, c⟩ := y
        have eK := mid_X hp
        have hsn := snocX out id prio nx
        have hal := allX (out ++ [(id, prio, nx)])
        have hle := lenX (out ++ [(id, prio, nx)])
        rw [snoc_len] at hal hle
        have hsn2 := snocX (out ++ [(id, prio, nx)]) a b c
        generalize out ++ [(id, prio, nx)] ++ [(a, b, c)] = out2 at *
        generalize out ++ [(id, prio, nx)] = out1 at *
        simp only [encX] at h35
        conv => arg 3; simp only [mkT, putT, List.reduceReplicate, List.set]
        refine EVgo9 (And.intro (hlt) ( And.intro (hw) ( And.intro (eK) ( And.intro (hid') ( And.intro (lenX) ( And.intro (allX) ( And.intro (hsn) ( And.intro (hal) ( And.intro (hle) (hsn2)))))))))) (h35) trivial trivial trivial trivial trivial trivial trivial trivial trivial trivial ?_
        exact WC.loop rfl hN
      | false =>
        rw [hab] at h35
        have hya : Ahd y (id, prio, nx) := by
          have : ¬ Ahd (id, prio, nx) y := by rw [← ahead_iff, hab]; simp
          unfold Ahd at *
          simp only at *
          omega
        have hN := hih (out ++ [y]) false (.inl ⟨rfl, rfl, fun z hz => by
          rcases List.mem_append.1 hz with hz | hz
          · exact ha z hz
          · rw [List.mem_singleton.1 hz]; exact hya⟩) hi2 (by rw [snoc_len]; omega)
        rw [snoc_len] at hN
        obtain ⟨a, b, c⟩ := y
        have eK := mid_X hp
        have hsn := snocX out a b c
        simp only [encX] at h35
        conv => arg 3; simp only [mkT, putT, List.reduceReplicate, List.set]
        refine EVgo9 (And.intro (hlt) ( And.intro (hw) ( And.intro (eK) ( And.intro (hid') ( And.intro (lenX) ( And.intro (allX) (hsn))))))) (h35) trivial trivial trivial trivial trivial trivial trivial trivial trivial trivial ?_
        exact WC.loop rfl hN
    · have hpl : out.length = p.length + 1 := by rw [ho2, insX_len]
      have hN := hih (out ++ [y]) true (.inr ⟨rfl, by rw [ins_lt hk, ho2], by rw [tk_lt hk, snoc_len]; omega⟩) hi2 (by rw [snoc_len]; omega)
      rw [snoc_len] at hN
      obtain ⟨a, b, c⟩ := y
      have eK := mid_X hp
      have hsn := snocX out a b c
      conv => arg 3; simp only [mkT, putT, List.reduceReplicate, List.set]
      refine EVgo9 (And.intro (hlt) ( And.intro (hw) ( And.intro (eK) ( And.intro (hid') ( And.intro (lenX) ( And.intro (allX) (hsn))))))) trivial trivial trivial trivial trivial trivial trivial trivial trivial trivial trivial ?_
      exact WC.loop rfl hN
end
end Go.Proofs.YtoihpjpgihhcjaaR
