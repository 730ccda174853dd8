/- Evf11I1: a part of the proof. -/
import Derived.Test.YtbgihgkobojfaaaEvf11H2
open Go Go.Proofs.YtbgihgkobojfaaaEv Go.Proofs.YtbgihgkobojfaaaR Go.IntWalk Go.Proofs
set_option maxRecDepth 20000
set_option maxHeartbeats 16000000
set_option linter.unusedVariables false
set_option linter.unusedSimpArgs false
namespace Go.Proofs.YtbgihgkobojfaaaR
theorem k_eqSt {cf : CF} {new : Nat} {T : List PV} {H : Heap} {x y : X} {a b : Int} (hx : valT T x = .agg [.int .i64 a, .int .i64 b]) (hy : valT T y = .agg [.int .i64 a, .int .i64 b]) : EK cf (.eqS false [0, 0] x y) new T H (.bool true) [] := ⟨by
  simp only [evalK, hx, hy, List.map_cons, List.map_nil, kindOf, if_true, cellsEq, cellEq, beq_self_eq_true, Bool.and_self]
  rfl⟩
theorem few_of {l : List En} (h : fewB l = true) : (∀ e ∈ l, e.1.size ≤ 100) ∧ l.length ≤ 600 := by
  unfold fewB at h
  rw [Bool.and_eq_true, List.all_eq_true] at h
  exact ⟨fun e he => by simpa using h.1 e he, by simpa using h.2⟩
theorem addP_len (l : List En) (e : En) : (addP l e).1.length ≤ l.length + 1 := by
  unfold addP
  (repeat' split) <;> simp
theorem codeP_len (l : List En) (i : Int) : (codeP l i).1.length ≤ 2 := by
  unfold codeP
  (repeat' split) <;> simp
theorem encF_tup (o : Option Nat) : ∃ i b, encF o = .tup [.int .i64 i, .bool b] := by
  cases o with
  | none => exact ⟨_, _, rfl⟩
  | some k => exact ⟨_, _, rfl⟩
theorem upS_a : upS ⟨#[97]⟩ = ⟨#[65]⟩ := by
  unfold upS
  rw [show (⟨#[97]⟩ : ByteArray).toList = [97] from toL [97]]
  rfl
theorem upS_A : upS ⟨#[65]⟩ = ⟨#[65]⟩ := by
  unfold upS
  rw [show (⟨#[65]⟩ : ByteArray).toList = [65] from toL [65]]
  rfl
theorem sane_A (v : Int) : saneE (⟨#[65]⟩, false, 3, v, 0, 0) = true := by
  unfold saneE
  rw [show (⟨#[65]⟩ : ByteArray).toList = [65] from toL [65], show namedB [65] = true by decide]
  rfl
theorem add1 : addP [] (⟨#[97]⟩, false, 3, 1, 0, 0) = ([(⟨#[65]⟩, false, 3, 1, 0, 0)], 0) := by
  unfold addP upE
  simp only [upS_a]
  rw [show (⟨#[97]⟩ : ByteArray).toList = [97] from toL [97], show sizedB (upL [97]) = true by decide, sane_A]
  rfl
theorem add2 : addP [(⟨#[65]⟩, false, 3, 1, 0, 0)] (⟨#[65]⟩, false, 3, 2, 0, 0) = ([(⟨#[65]⟩, false, 3, 1, 0, 0), (⟨#[65]⟩, false, 3, 2, 0, 0)], 0) := by
  unfold addP upE
  simp only [upS_A]
  rw [show (⟨#[65]⟩ : ByteArray).toList = [65] from toL [65], show sizedB (upL [65]) = true by decide, sane_A]
  rfl
theorem find1 : findN [(⟨#[65]⟩, false, 3, 1, 0, 0), (⟨#[65]⟩, false, 3, 2, 0, 0)] ⟨#[97]⟩ = some 1 := by
  unfold findN
  rw [show (⟨#[97]⟩ : ByteArray).toList = [97] from toL [97], show upL [97] = [65] by decide, if_neg (by decide)]
  exact lastN_snoc (u := [65]) (⟨#[65]⟩, false, 3, 2, 0, 0) (toL [65]) (p := [(⟨#[65]⟩, false, 3, 1, 0, 0)]) (k := 0)
theorem code1 : codeP [(⟨#[65]⟩, false, 3, 1, 0, 0), (⟨#[65]⟩, false, 3, 2, 0, 0)] 1 = ([(0, 2)], true) := by
  unfold codeP
  rw [show List.getD [((⟨#[65]⟩, false, 3, 1, 0, 0) : En), (⟨#[65]⟩, false, 3, 2, 0, 0)] (1 : Int).toNat nilE = (⟨#[65]⟩, false, 3, 2, 0, 0) from rfl, sane_A]
  rfl
theorem base_many : (baseL 111).length > 9 := by
  unfold baseL
  rw [List.length_map]
  have : ((List.range 111).filter fun o : Nat => !hidV (o : Int)).length > 9 := by decide +kernel
  exact this
section
variable {cf : CF} (hcf : cf = ev env)
include hcf
theorem s9 : Sp cf 9 [] (.bool true) := by
  have h1 := s17 hcf [] (⟨#[97]⟩, false, 3, 1, 0, 0) (by decide) (by decide)
  have h2 := s17 hcf [(⟨#[65]⟩, false, 3, 1, 0, 0)] (⟨#[65]⟩, false, 3, 2, 0, 0) (by decide) (by decide)
  have h3 := s11 hcf [(⟨#[65]⟩, false, 3, 1, 0, 0), (⟨#[65]⟩, false, 3, 2, 0, 0)] ⟨#[97]⟩ (by decide) (by decide)
  have h4 := s14 hcf [(⟨#[65]⟩, false, 3, 1, 0, 0), (⟨#[65]⟩, false, 3, 2, 0, 0)] 1 (by decide) (by intro e he; simp at he; rcases he with rfl | rfl <;> decide)
  have h5 := s10 hcf
  have hb := base_many
  rw [add1] at h1
  rw [add2] at h2
  rw [find1] at h3
  rw [code1] at h4
  generalize baseL 111 = z at *
  have hz : (z.length : Int) > 9 := by omega
  refine sp_of hcf env9 ?_
  simp only [encAdd, encCode, encF, slE, slP, List.length, flat, encE, encP, List.map, List.flatten, List.append, Nat.reduceAdd, List.cons_append, List.nil_append, List.append_eq, Int.cast_ofNat_Int, Int.natCast_one] at h1 h2 h3 h4 h5
  conv => arg 2; simp only [ir9]
  conv => arg 3; simp only [ir9, Go.Proofs.YtbgihgkobojfaaaEv.start, List.length, Nat.reduceAdd, Nat.reduceSub, List.reduceReplicate, List.append_eq, List.cons_append, List.nil_append]
  conv => arg 4; simp only [heapOf]
  try conv => arg 5; simp only [List.length, Nat.reduceAdd]
  try conv => arg 6; simp only [List.length, Nat.reduceAdd]
  refine EVgo9 trivial (h1) (h2) (h3) (h4) trivial trivial trivial trivial trivial trivial trivial ?_
  refine EVgo9 (hz) (h5) trivial trivial trivial trivial trivial trivial trivial trivial trivial trivial ?_
  exact EVret trivial
theorem s6 (l : List En) (e : En) (s : ByteArray) (n p1 p2 : Int) (hl0 : l.length ≤ 9223372036854775807) : Sp cf 6 [slE l, .agg (encE e), .str s, .int .i64 n, .agg [.int .i64 p1, .int .i64 p2]] (.bool true) := by
  have h9 := s9 hcf
  have h16 := s16 hcf l hl0
  refine sp_of hcf env6 ?_
  cases hf : fewB l with
  | false =>
    rw [hf] at h16
    simp only [slE, encE] at *
    conv => arg 2; simp only [ir6]
    conv => arg 3; simp only [ir6, Go.Proofs.YtbgihgkobojfaaaEv.start, List.length, Nat.reduceAdd, Nat.reduceSub, List.reduceReplicate, List.append_eq, List.cons_append, List.nil_append]
    conv => arg 4; simp only [heapOf]
    try conv => arg 5; simp only [List.length, Nat.reduceAdd]
    try conv => arg 6; simp only [List.length, Nat.reduceAdd]
    refine EVgo9 trivial (h9) (h16) trivial trivial trivial trivial trivial trivial trivial trivial trivial ?_
    exact EVret trivial
  | true =>
    rw [hf] at h16
    have hfw := few_of hf
    by_cases hs : s.size > 100
    · have hs' : (s.size : Int) > 100 := by omega
      simp only [slE, encE] at *
      conv => arg 2; simp only [ir6]
      conv => arg 3; simp only [ir6, Go.Proofs.YtbgihgkobojfaaaEv.start, List.length, Nat.reduceAdd, Nat.reduceSub, List.reduceReplicate, List.append_eq, List.cons_append, List.nil_append]
      conv => arg 4; simp only [heapOf]
      try conv => arg 5; simp only [List.length, Nat.reduceAdd]
      try conv => arg 6; simp only [List.length, Nat.reduceAdd]
      refine EVgo9 (hs') (h9) (h16) trivial trivial trivial trivial trivial trivial trivial trivial trivial ?_
      exact EVret trivial
    · have hs' : ¬ (s.size : Int) > 100 := by omega
      by_cases hn : e.1.size > 100
      · have hn' : (e.1.size : Int) > 100 := by omega
        simp only [slE, encE] at *
        conv => arg 2; simp only [ir6]
        conv => arg 3; simp only [ir6, Go.Proofs.YtbgihgkobojfaaaEv.start, List.length, Nat.reduceAdd, Nat.reduceSub, List.reduceReplicate, List.append_eq, List.cons_append, List.nil_append]
        conv => arg 4; simp only [heapOf]
        try conv => arg 5; simp only [List.length, Nat.reduceAdd]
        try conv => arg 6; simp only [List.length, Nat.reduceAdd]
        refine EVgo9 (And.intro (hs') (hn')) (h9) (h16) trivial trivial trivial trivial trivial trivial trivial trivial trivial ?_
        exact EVret trivial
      · have hn' : ¬ (e.1.size : Int) > 100 := by omega
        have hsz : ∀ e ∈ l, e.1.size ≤ 1000000 := fun x hx => by have := hfw.1 x hx; omega
        have h18 := s18 hcf l (by omega)
        have h11 := s11 hcf l s (by omega) (by omega)
        have h23 := s23 hcf l s (by omega) (by omega)
        have h19 := s19 hcf e
        have h17 := s17 hcf l e (by omega) (by omega)
        have h24 := s24 hcf l e (by omega) (by omega)
        have h14 := s14 hcf l n (by omega) hsz
        have h25 := s25 hcf l n (by omega) hsz
        have h26 := s26 hcf n
        have h27 := s27 hcf n
        have h29 := s29 hcf p1 p2
        have h30 := s30 hcf p1 p2
        have h15 := s15 hcf e (by omega)
        have h31 := s31 hcf e (by omega)
        have ha := addP_len l e
        have hc := codeP_len l n
        obtain ⟨fi, fb, hfn⟩ := encF_tup (findN l s)
        rw [hfn] at h11 h23
        obtain ⟨A, f, hA⟩ : ∃ A f, addP l e = (A, f) := ⟨_, _, rfl⟩
        obtain ⟨C, b, hC⟩ : ∃ C b, codeP l n = (C, b) := ⟨_, _, rfl⟩
        obtain ⟨x1, x2, xb, hx⟩ : ∃ x1 x2 xb, atV n = (x1, x2, xb) := ⟨_, _, _, rfl⟩
        rw [hA] at h17 h24 ha
        rw [hC] at h14 h25 hc
        rw [hx] at h26 h27
        have h21 := s21 hcf A (by simp only at ha; omega)
        have h20 := s20 hcf A (by simp only at ha; omega)
        have h28 := s28 hcf C (by simp only at hc; omega)
        generalize addrV p1 p2 = w at *
        generalize saneE e = y at *
        obtain ⟨u, im, c, v, t, a⟩ := e
        have q1 : (fi == fi) = true := beq_self_eq_true _
        have q2 : (fb == fb) = true := beq_self_eq_true _
        have q3 : (f == f) = true := beq_self_eq_true _
        have q4 : (b == b) = true := beq_self_eq_true _
        have q5 : (xb == xb) = true := beq_self_eq_true _
        have q6 : (w == w) = true := beq_self_eq_true _
        have q7 : (y == y) = true := beq_self_eq_true _
        simp only [slE, encE, encAdd, encCode, encA, slP] at *
        conv => arg 2; simp only [ir6]
        conv => arg 3; simp only [ir6, Go.Proofs.YtbgihgkobojfaaaEv.start, List.length, Nat.reduceAdd, Nat.reduceSub, List.reduceReplicate, List.append_eq, List.cons_append, List.nil_append]
        conv => arg 4; simp only [heapOf]
        try conv => arg 5; simp only [List.length, Nat.reduceAdd]
        try conv => arg 6; simp only [List.length, Nat.reduceAdd]
        refine EVgo9 (And.intro (hs') (hn')) (h9) (h16) (h18) (h11) (h23) trivial trivial trivial trivial trivial trivial ?_
        refine EVgo9 trivial (h18) (h19) (h17) (h24) (h14) (h25) (h26) (h27) trivial trivial trivial ?_
        refine EVgo9 (And.intro (q1) ( And.intro (q2) ( And.intro (q3) ( And.intro (q4) ( And.intro (q5) ( And.intro (q6) (q7))))))) (h21) (h20) (h28) (h29) (h30) (h19) (h15) (h31) trivial (@k_eqSt cf) trivial ?_
        exact EVret trivial
end
end Go.Proofs.YtbgihgkobojfaaaR
