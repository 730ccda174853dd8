/- Evf11J1: a part of the proof. -/
import Derived.Test.YtbgihgkobojfaaaEvf11I1
open Go Go.Proofs.YtbgihgkobojfaaaEv Go.Proofs.YtbgihgkobojfaaaR Go.IntWalk Go.Proofs
set_option maxRecDepth 20000
set_option maxHeartbeats 16000000
set_option linter.unusedVariables false
set_option linter.unusedSimpArgs false
namespace Go.Proofs.YtbgihgkobojfaaaR
theorem rem_eq {x y : Int} (hy : y ≠ 0) : binV .rem (.int .i64 x) (.int .i64 y) = some (.int .i64 (x.tmod y)) := by
  simp [binV, binOp, pureOf, hy, go_sem]
  rfl
theorem k_rem {cf : CF} {new : Nat} {T : List PV} {H : Heap} {a b : X} {x y : Int} (hy : y ≠ 0) (ha : valT T a = .int .i64 x) (hb : valT T b = .int .i64 y) : EK cf (.bin .rem a b) new T H (.int .i64 (x.tmod y)) [] := ⟨by
  simp only [evalK, ha, hb, rem_eq hy]⟩
def andI (a b : Int) : Int := IntKind.i64.wrap ((BitVec.ofInt 64 a &&& BitVec.ofInt 64 b).toNat : Int)
theorem andI_le (a : Int) (b : Nat) (hb : b < 100000) : ∃ k : Nat, andI a b = k ∧ k ≤ b := by
  refine ⟨(BitVec.ofInt 64 a &&& BitVec.ofInt 64 b).toNat, ?_, ?_⟩
  · have h : (BitVec.ofInt 64 a &&& BitVec.ofInt 64 (b : Int)).toNat ≤ b := by
      rw [BitVec.toNat_and, BitVec.ofInt_natCast, BitVec.toNat_ofNat, Nat.mod_eq_of_lt (by omega)]
      exact Nat.and_le_right
    unfold andI
    rw [i64_in _ (by omega)]
  · rw [BitVec.toNat_and, BitVec.ofInt_natCast, BitVec.toNat_ofNat, Nat.mod_eq_of_lt (by omega)]
    exact Nat.and_le_right
theorem at_addr {t a : Int} (h : addrV t a ≥ 0) : atV (addrV t a) = (t, a, true) := by
  unfold addrV at h ⊢
  split at h
  · next q =>
    rw [if_pos q]
    have b1 := within_iff.1 q.1
    have b2 := within_iff.1 q.2
    have e1 : (t * 4096 + a).tdiv 4096 = t := by rw [Int.tdiv_eq_ediv_of_nonneg (by omega)]; omega
    have e2 : (t * 4096 + a).tmod 4096 = a := by rw [Int.tmod_eq_emod_of_nonneg (by omega)]; omega
    unfold atV
    rw [e1, e2, i64_in _ (by omega), if_neg (by omega)]
  · omega
theorem codeP_add {l : List En} {e : En} {k : Nat} (hk : k < l.length) : codeP (addP l e).1 (k : Int) = codeP l (k : Int) := by
  have hw : ∀ n : Nat, k < n → withinB (k : Int) ((n : Int) - 1) = true := fun n h => within_iff.2 (by omega)
  unfold addP
  (repeat' split) <;> try rfl
  unfold codeP
  simp only [Int.toNat_natCast]
  rw [hw _ hk, hw _ (by rw [List.length_append]; omega)]
  have : (l ++ [upE e]).getD k nilE = l.getD k nilE := by
    rw [List.getD_eq_getElem?_getD, List.getD_eq_getElem?_getD, List.getElem?_append_left hk]
  rw [this]
section
variable {cf : CF} (hcf : cf = ev env)
include hcf
theorem s8 (l : List En) (e : En) (i : Int) (hl0 : l.length ≤ 9223372036854775807) : Sp cf 8 [slE l, .agg (encE e), .int .i64 i] (.bool true) := by
  have h9 := s9 hcf
  have h16 := s16 hcf l hl0
  refine sp_of hcf env8 ?_
  cases hf : fewB l with
  | false =>
    rw [hf] at h16
    simp only [slE, encE] at *
    conv => arg 2; simp only [ir8]
    conv => arg 3; simp only [ir8, Go.Proofs.YtbgihgkobojfaaaEv.start, List.length, Nat.reduceAdd, Nat.reduceSub, List.reduceReplicate, List.append_eq, List.cons_append, List.nil_append]
    conv => arg 4; simp only [heapOf]
    try conv => arg 5; simp only [List.length, Nat.reduceAdd]
    try conv => arg 6; simp only [List.length, Nat.reduceAdd]
    refine EVgo9 trivial (h9) (h16) trivial trivial trivial trivial trivial trivial trivial trivial trivial ?_
    exact EVret trivial
  | true =>
    rw [hf] at h16
    have hfw := few_of hf
    by_cases hz : l.length = 0
    · have hz' : ((l.length : Int) == 0) = true := beq_iff_eq.2 (by omega)
      simp only [slE, encE] at *
      conv => arg 2; simp only [ir8]
      conv => arg 3; simp only [ir8, Go.Proofs.YtbgihgkobojfaaaEv.start, List.length, Nat.reduceAdd, Nat.reduceSub, List.reduceReplicate, List.append_eq, List.cons_append, List.nil_append]
      conv => arg 4; simp only [heapOf]
      try conv => arg 5; simp only [List.length, Nat.reduceAdd]
      try conv => arg 6; simp only [List.length, Nat.reduceAdd]
      refine EVgo9 (hz') (h9) (h16) trivial trivial trivial trivial trivial trivial trivial trivial trivial ?_
      exact EVret trivial
    · have hz' : ((l.length : Int) == 0) = false := beq_eq_false_iff_ne.2 (by omega)
      by_cases hn : e.1.size > 100
      · have hn' : (e.1.size : Int) > 100 := by omega
        simp only [slE, encE] at *
        conv => arg 2; simp only [ir8]
        conv => arg 3; simp only [ir8, Go.Proofs.YtbgihgkobojfaaaEv.start, List.length, Nat.reduceAdd, Nat.reduceSub, List.reduceReplicate, List.append_eq, List.cons_append, List.nil_append]
        conv => arg 4; simp only [heapOf]
        try conv => arg 5; simp only [List.length, Nat.reduceAdd]
        try conv => arg 6; simp only [List.length, Nat.reduceAdd]
        refine EVgo9 (And.intro (hz') (hn')) (h9) (h16) trivial trivial trivial trivial trivial trivial trivial trivial trivial ?_
        exact EVret trivial
      · have hn' : ¬ (e.1.size : Int) > 100 := by omega
        have hsz : ∀ e ∈ l, e.1.size ≤ 1000000 := fun x hx => by have := hfw.1 x hx; omega
        have f1 : ∀ a b : Int, IntKind.i64.wrap ((BitVec.ofInt IntKind.i64.bits a &&& BitVec.ofInt IntKind.i64.bits b).toNat : Int) = andI a b := fun _ _ => rfl
        obtain ⟨c, hc, hc2⟩ := andI_le i 65535 (by decide)
        have hc' : andI i 65535 = (c : Int) := hc
        have hne : (l.length : Int) ≠ 0 := by omega
        obtain ⟨k, hk⟩ : ∃ k, k = c % l.length := ⟨_, rfl⟩
        have hkl : k < l.length := by rw [hk]; exact Nat.mod_lt _ (by omega)
        have hrem : (c : Int).tmod (l.length : Int) = (k : Int) := by rw [hk]; exact (Int.ofNat_tmod c l.length).symm
        have hlt : (k : Int) < (l.length : Int) := by omega
        have h18 := s18 hcf l (by omega)
        have h14 := s14 hcf l (k : Int) (by omega) hsz
        have h19 := s19 hcf e
        have h17 := s17 hcf l e (by omega) (by omega)
        have hal := addP_len l e
        have hmsz : ∀ x ∈ (addP l e).1, x.1.size ≤ 1000000 := by
          unfold addP
          (repeat' split) <;> try exact hsz
          intro x hx
          rcases List.mem_append.1 hx with hx | hx
          · exact hsz x hx
          · rw [List.mem_singleton.1 hx]
            show (upS e.1).size ≤ _
            rw [upS_size]; omega
        have h14b := s14 hcf (addP l e).1 (k : Int) (by omega) hmsz
        rw [codeP_add hkl] at h14b
        obtain ⟨A, f, hA⟩ : ∃ A f, addP l e = (A, f) := ⟨_, _, rfl⟩
        rw [hA] at h17 h14b
        have hw : withinB (k : Int) ((l.length : Int) - 1) = true := within_iff.2 (by omega)
        have hcode : codeP l (k : Int) = if saneE (l.getD k nilE) = true then
            (if (l.getD k nilE).2.2.1 = 0 then [((l.getD k nilE).2.2.2.1, 0)]
             else if (l.getD k nilE).2.2.1 = 1 then [(3, addrV (l.getD k nilE).2.2.2.2.1 (l.getD k nilE).2.2.2.2.2)]
             else if (l.getD k nilE).2.2.1 = 4 then [(0, (l.getD k nilE).2.2.2.1), (3, addrV (l.getD k nilE).2.2.2.2.1 (l.getD k nilE).2.2.2.2.2)]
             else [(0, (l.getD k nilE).2.2.2.1)], true) else ([], false) := by
          unfold codeP
          rw [hw, Int.toNat_natCast]
          simp only [true_and]
        have eK := at_E hkl
        have hmem : l.getD k nilE ∈ l := by rw [List.getD_eq_getElem?_getD, List.getElem?_eq_getElem hkl]; exact List.getElem_mem hkl
        have h15 := s15 hcf (l.getD k nilE) (hsz _ hmem)
        have h19b := s19 hcf (l.getD k nilE)
        have hC2 := codeP_len l (k : Int)
        have h28 := s28 hcf (codeP l (k : Int)).1 (by omega)
        rw [hcode] at h14 h14b h28
        have hkb : saneE (l.getD k nilE) = true → kindB (l.getD k nilE).2.2.1 (l.getD k nilE).2.2.2.1 (l.getD k nilE).2.2.2.2.1 (l.getD k nilE).2.2.2.2.2 = true := fun h => by
          unfold saneE at h
          rw [Bool.and_eq_true] at h
          exact h.2
        generalize l.getD k nilE = x at *
        obtain ⟨xn, xi, xk, xv, xt, xa⟩ := x
        obtain ⟨u, im, ek, v, t, a⟩ := e
        simp only at *
        cases hs : saneE (xn, xi, xk, xv, xt, xa) with
        | false =>
          rw [hs] at h14 h14b h15 h28
          rw [if_neg (by simp)] at h14 h14b h28
          simp only [slE, encE, encAdd, encCode, slP, flat_nil, List.length, Int.cast_ofNat_Int] at *
          conv => arg 2; simp only [ir8]
          conv => arg 3; simp only [ir8, Go.Proofs.YtbgihgkobojfaaaEv.start, List.length, Nat.reduceAdd, Nat.reduceSub, List.reduceReplicate, List.append_eq, List.cons_append, List.nil_append]
          conv => arg 4; simp only [heapOf]
          try conv => arg 5; simp only [List.length, Nat.reduceAdd]
          try conv => arg 6; simp only [List.length, Nat.reduceAdd]
          refine EVgo9 (And.intro (hz') ( And.intro (hn') ( And.intro (f1) (hc')))) (h9) (h16) trivial trivial trivial trivial trivial trivial trivial (k_rem hne) trivial ?_
          refine EVgo9 (hrem) (h18) (h14) (h19) (h17) (h14b) trivial trivial trivial trivial trivial trivial ?_
          refine EVgo9 (And.intro (hlt) (eK)) (h28) (h19b) (h15) trivial trivial trivial trivial trivial trivial trivial trivial ?_
          exact EVret trivial
        | true =>
          have hkb := hkb hs
          rw [hs] at h14 h14b h15 h28
          rw [if_pos rfl] at h14 h14b h28
          have w1 : IntKind.i64.wrap ((1 : Int) - 1) = 0 := rfl
          have w2 : IntKind.i64.wrap ((2 : Int) - 1) = 1 := rfl
          by_cases c0 : xk = 0
          · rw [if_pos c0] at h14 h14b h28
            have q1 : (xk == 1) = false := beq_eq_false_iff_ne.2 (by omega)
            have q4 : (xk == 4) = false := beq_eq_false_iff_ne.2 (by omega)
            have h26 := s26 hcf 0
            obtain ⟨y1, y2, yb, hy⟩ : ∃ y1 y2 yb, atV 0 = (y1, y2, yb) := ⟨_, _, _, rfl⟩
            rw [hy] at h26
            simp only [slE, encE, encAdd, encCode, encA, slP, flat_cons, flat_nil, encP, List.length, List.cons_append, List.nil_append, Int.cast_ofNat_Int] at *
            conv => arg 2; simp only [ir8]
            conv => arg 3; simp only [ir8, Go.Proofs.YtbgihgkobojfaaaEv.start, List.length, Nat.reduceAdd, Nat.reduceSub, List.reduceReplicate, List.append_eq, List.cons_append, List.nil_append]
            conv => arg 4; simp only [heapOf]
            try conv => arg 5; simp only [List.length, Nat.reduceAdd]
            try conv => arg 6; simp only [List.length, Nat.reduceAdd]
            refine EVgo9 (And.intro (hz') ( And.intro (hn') ( And.intro (f1) (hc')))) (h9) (h16) trivial trivial trivial trivial trivial trivial trivial (k_rem hne) trivial ?_
            refine EVgo9 (hrem) (h18) (h14) (h19) (h17) (h14b) trivial trivial trivial trivial trivial trivial ?_
            refine EVgo9 (And.intro (hlt) ( And.intro (eK) ( And.intro (w1) ( And.intro (q1) (q4))))) (h28) (h19b) (h15) (h26) trivial trivial trivial trivial trivial trivial trivial ?_
            exact EVret trivial
          · rw [if_neg c0] at h14 h14b h28
            by_cases c1 : xk = 1
            · rw [if_pos c1] at h14 h14b h28
              have q1 : (xk == 1) = true := beq_iff_eq.2 c1
              have q4 : (xk == 4) = false := beq_eq_false_iff_ne.2 (by omega)
              have hge : addrV xt xa ≥ 0 := by unfold kindB at hkb; rw [if_neg c0, if_pos (.inl c1)] at hkb; exact of_decide_eq_true hkb
              have h26 := s26 hcf (addrV xt xa)
              rw [at_addr hge] at h26
              generalize addrV xt xa = w at *
              simp only [slE, encE, encAdd, encCode, encA, slP, flat_cons, flat_nil, encP, List.length, List.cons_append, List.nil_append, Int.cast_ofNat_Int] at *
              conv => arg 2; simp only [ir8]
              conv => arg 3; simp only [ir8, Go.Proofs.YtbgihgkobojfaaaEv.start, List.length, Nat.reduceAdd, Nat.reduceSub, List.reduceReplicate, List.append_eq, List.cons_append, List.nil_append]
              conv => arg 4; simp only [heapOf]
              try conv => arg 5; simp only [List.length, Nat.reduceAdd]
              try conv => arg 6; simp only [List.length, Nat.reduceAdd]
              refine EVgo9 (And.intro (hz') ( And.intro (hn') ( And.intro (f1) (hc')))) (h9) (h16) trivial trivial trivial trivial trivial trivial trivial (k_rem hne) trivial ?_
              refine EVgo9 (hrem) (h18) (h14) (h19) (h17) (h14b) trivial trivial trivial trivial trivial trivial ?_
              refine EVgo9 (And.intro (hlt) ( And.intro (eK) ( And.intro (w1) ( And.intro (q1) (q4))))) (h28) (h19b) (h15) (h26) trivial trivial trivial trivial trivial (@k_eqSt cf) trivial ?_
              exact EVret trivial
            · rw [if_neg c1] at h14 h14b h28
              have q1 : (xk == 1) = false := beq_eq_false_iff_ne.2 c1
              by_cases c4 : xk = 4
              · rw [if_pos c4] at h14 h14b h28
                have q4 : (xk == 4) = true := beq_iff_eq.2 c4
                have hge : addrV xt xa ≥ 0 := by unfold kindB at hkb; rw [if_neg c0, if_pos (.inr c4)] at hkb; exact of_decide_eq_true hkb
                have h26 := s26 hcf (addrV xt xa)
                rw [at_addr hge] at h26
                generalize addrV xt xa = w at *
                simp only [slE, encE, encAdd, encCode, encA, slP, flat_cons, flat_nil, encP, List.length, List.cons_append, List.nil_append, Int.cast_ofNat_Int, Nat.reduceAdd] at *
                conv => arg 2; simp only [ir8]
                conv => arg 3; simp only [ir8, Go.Proofs.YtbgihgkobojfaaaEv.start, List.length, Nat.reduceAdd, Nat.reduceSub, List.reduceReplicate, List.append_eq, List.cons_append, List.nil_append]
                conv => arg 4; simp only [heapOf]
                try conv => arg 5; simp only [List.length, Nat.reduceAdd]
                try conv => arg 6; simp only [List.length, Nat.reduceAdd]
                refine EVgo9 (And.intro (hz') ( And.intro (hn') ( And.intro (f1) (hc')))) (h9) (h16) trivial trivial trivial trivial trivial trivial trivial (k_rem hne) trivial ?_
                refine EVgo9 (hrem) (h18) (h14) (h19) (h17) (h14b) trivial trivial trivial trivial trivial trivial ?_
                refine EVgo9 (And.intro (hlt) ( And.intro (eK) ( And.intro (w2) ( And.intro (q1) (q4))))) (h28) (h19b) (h15) (h26) trivial trivial trivial trivial trivial (@k_eqSt cf) trivial ?_
                exact EVret trivial
              · rw [if_neg c4] at h14 h14b h28
                have q4 : (xk == 4) = false := beq_eq_false_iff_ne.2 c4
                have h26 := s26 hcf xv
                obtain ⟨y1, y2, yb, hy⟩ : ∃ y1 y2 yb, atV xv = (y1, y2, yb) := ⟨_, _, _, rfl⟩
                rw [hy] at h26
                simp only [slE, encE, encAdd, encCode, encA, slP, flat_cons, flat_nil, encP, List.length, List.cons_append, List.nil_append, Int.cast_ofNat_Int] at *
                conv => arg 2; simp only [ir8]
                conv => arg 3; simp only [ir8, Go.Proofs.YtbgihgkobojfaaaEv.start, List.length, Nat.reduceAdd, Nat.reduceSub, List.reduceReplicate, List.append_eq, List.cons_append, List.nil_append]
                conv => arg 4; simp only [heapOf]
                try conv => arg 5; simp only [List.length, Nat.reduceAdd]
                try conv => arg 6; simp only [List.length, Nat.reduceAdd]
                refine EVgo9 (And.intro (hz') ( And.intro (hn') ( And.intro (f1) (hc')))) (h9) (h16) trivial trivial trivial trivial trivial trivial trivial (k_rem hne) trivial ?_
                refine EVgo9 (hrem) (h18) (h14) (h19) (h17) (h14b) trivial trivial trivial trivial trivial trivial ?_
                refine EVgo9 (And.intro (hlt) ( And.intro (eK) ( And.intro (w1) ( And.intro (q1) (q4))))) (h28) (h19b) (h15) (h26) trivial trivial trivial trivial trivial trivial trivial ?_
                exact EVret trivial
end
end Go.Proofs.YtbgihgkobojfaaaR
