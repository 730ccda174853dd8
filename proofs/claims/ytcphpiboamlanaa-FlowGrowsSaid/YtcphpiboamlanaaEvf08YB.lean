/- Evf08YB: a part of the proof. -/
import Derived.Test.YtcphpiboamlanaaEvf08X0
open Go Go.Proofs.YtcphpiboamlanaaEv Go.Proofs.YtcphpiboamlanaaR Go.IntWalk
set_option maxRecDepth 20000
set_option maxHeartbeats 16000000
set_option linter.unusedVariables false
set_option linter.unusedSimpArgs false
namespace Go.Proofs.YtcphpiboamlanaaR
theorem step_at {b b' : Bd} (h : Step b b') {i : Nat} (hi : i < b.c.length) : (b'.c.getD i (0, 0)).1 = (b.c.getD i (0, 0)).1 := by
  obtain ⟨t, ht, e⟩ := h.ops
  have hl := h.len
  have w := congrArg (fun l => l[i]?) e
  simp only [List.getElem?_append_left (show i < (b.c.map Prod.fst).length by rw [List.length_map]; exact hi), List.getElem?_map] at w
  rw [List.getElem?_eq_getElem hi, List.getElem?_eq_getElem (show i < b'.c.length by omega)] at w
  rw [List.getD_eq_getElem?_getD, List.getD_eq_getElem?_getD, List.getElem?_eq_getElem hi, List.getElem?_eq_getElem (show i < b'.c.length by omega)]
  simpa using w
section
variable {cf : CF} (hcf : cf = ev env)
include hcf
theorem s5 (b : Bd) (w : ByteArray) : Sp cf 5 [bE b, .str w] (.bool true) := by
  have h9 := s9 hcf
  have h13 := s13 hcf b
  refine sp_of hcf env5 ?_
  cases hf : fewB b with
  | false =>
    rw [hf] at h13
    simp only [bE, slP] at h13 ⊢
    conv => arg 2; simp only [ir5]
    conv => arg 3; simp only [ir5, Go.Proofs.YtcphpiboamlanaaEv.start, List.length, Nat.reduceAdd, Nat.reduceSub, List.reduceReplicate, List.append_eq, List.cons_append, List.nil_append]
    conv => arg 4; simp only [heapOf]
    try conv => arg 5; simp only [List.length, Nat.reduceAdd]
    try conv => arg 6; simp only [List.length, Nat.reduceAdd]
    refine EVgo9 trivial (h9) (h13) trivial trivial trivial trivial trivial trivial trivial trivial trivial ?_
    exact EVret trivial
  | true =>
    rw [hf] at h13
    by_cases hw : w.size ≤ 100
    · have hw' : ¬ (w.size : Int) > 100 := by omega
      have f := few_few hf
      have f0 := few_of hf
      have h15 := s15 hcf b (by omega) (by omega)
      have h14 := s14 hcf (fun _ _ => rfl) b (by omega) (by omega)
      cases hs : saneB b with
      | false =>
        rw [hs] at h14
        simp only [bE, slP] at h13 h14 h15 ⊢
        conv => arg 2; simp only [ir5]
        conv => arg 3; simp only [ir5, Go.Proofs.YtcphpiboamlanaaEv.start, List.length, Nat.reduceAdd, Nat.reduceSub, List.reduceReplicate, List.append_eq, List.cons_append, List.nil_append]
        conv => arg 4; simp only [heapOf]
        try conv => arg 5; simp only [List.length, Nat.reduceAdd]
        try conv => arg 6; simp only [List.length, Nat.reduceAdd]
        refine EVgo9 (hw') (h9) (h13) (h15) (h14) trivial trivial trivial trivial trivial trivial trivial ?_
        exact EVret trivial
      | true =>
        rw [hs] at h14
        have ho := (saneB_iff b).1 hs
        have h10 := s10 hcf b w f (by omega)
        have wc := wordB_cases b w
        rw [ownB_ok ho] at wc
        have w0 : IntKind.i64.wrap ((b.c.length : Int) - (b.c.length : Int)) = 0 := by rw [i64_in _ (by omega)]; omega
        rcases wc with e | ⟨k, hk, hw, h0, e, st⟩ | ⟨k, hk, hw, h0, e⟩
        · rw [e] at h10
          simp only [encWord, bE, slP] at h13 h14 h15 h10 ⊢
          conv => arg 2; simp only [ir5]
          conv => arg 3; simp only [ir5, Go.Proofs.YtcphpiboamlanaaEv.start, List.length, Nat.reduceAdd, Nat.reduceSub, List.reduceReplicate, List.append_eq, List.cons_append, List.nil_append]
          conv => arg 4; simp only [heapOf]
          try conv => arg 5; simp only [List.length, Nat.reduceAdd]
          try conv => arg 6; simp only [List.length, Nat.reduceAdd]
          refine EVgo9 (And.intro (hw') (w0)) (h9) (h13) (h15) (h14) (h10) trivial trivial trivial trivial trivial trivial ?_
          exact EVret trivial
        · rw [e] at h10
          have hl := st.len
          have h14c := s14 hcf (fun _ _ => rfl) (wordF k b).2 (by have := st.m1; omega) (by have := st.o1; omega)
          rw [(saneB_iff _).2 st.ok] at h14c
          have m1 := st.m1
          have m2 := st.m2
          have hat : ∀ i, i < b.c.length → _ := fun i hi => step_at st hi
          generalize (wordF k b).2 = c at *
          have w1 : IntKind.i64.wrap ((c.c.length : Int) - (b.c.length : Int)) = ((c.c.length - b.c.length : Nat) : Int) := by rw [i64_in _ (by omega)]; omega
          have g1 : (((c.c.length - b.c.length : Nat) : Int) ≥ 0) := by omega
          have g2 : (((c.c.length - b.c.length : Nat) : Int) ≤ 2) := by omega
          have w2 : IntKind.i64.wrap ((b.m.length : Int) + 1) = (b.m.length : Int) + 1 := i64_in _ (by omega)
          have w3 : IntKind.i64.wrap ((c.m.length : Int) + 2) = (c.m.length : Int) + 2 := i64_in _ (by omega)
          have g3 : ((c.m.length : Int) ≤ (b.m.length : Int) + 1) := by omega
          have g4 : ((c.m.length : Int) + 2 ≥ (b.m.length : Int)) := by omega
          simp only [encWord, bE, slP] at h13 h14 h15 h10 h14c ⊢
          conv => arg 2; simp only [ir5]
          conv => arg 3; simp only [ir5, Go.Proofs.YtcphpiboamlanaaEv.start, List.length, Nat.reduceAdd, Nat.reduceSub, List.reduceReplicate, List.append_eq, List.cons_append, List.nil_append]
          conv => arg 4; simp only [heapOf]
          try conv => arg 5; simp only [List.length, Nat.reduceAdd]
          try conv => arg 6; simp only [List.length, Nat.reduceAdd]
          refine EVgo9 (And.intro (hw') (w1)) (h9) (h13) (h15) (h14) (h10) trivial trivial trivial trivial trivial trivial ?_
          refine WC.loop (T' := _) (H' := _) (n' := _) rfl ((?_ : ∀ (k i : Nat), i + k = b.c.length →
            WC cf _ (mkT 113 [(2, .ptr 0 0), (5, .bool true), (6, .ptr 1 0), (9, .int .i64 (c.c.length - b.c.length : Nat)), (10, .int .i64 (i : Nat))]) [(0, .box [.sl b.c.length false (flat encP b.c), .sl b.m.length false (flat encP b.m), .sl b.o.length false (flat encP b.o)]), (1, .box [.sl c.c.length false (flat encP c.c), .sl c.m.length false (flat encP c.m), .sl c.o.length false (flat encP c.o)])] 0 2 _) b.c.length 0 (by omega))
          intro k
          induction k with
          | zero =>
            intro i hi
            obtain rfl : i = b.c.length := by omega
            conv => arg 3; simp only [mkT, putT, List.reduceReplicate, List.set]
            refine EVgl9 trivial trivial trivial trivial trivial trivial trivial trivial trivial trivial trivial trivial ?_
            refine EVgo9 (And.intro (g1) ( And.intro (g2) ( And.intro (g3) ( And.intro (g4) ( And.intro (w2) (w3)))))) (h14c) trivial trivial trivial trivial trivial trivial trivial trivial trivial trivial ?_
            exact EVret trivial
          | succ k ih =>
            intro i hi
            have hlt' : i < b.c.length := by omega
            have hlt : (i : Int) < (b.c.length : Int) := by omega
            have hlt2 : (i : Int) < (c.c.length : Int) := by omega
            have hw1 : IntKind.i64.wrap ((i : Int) + 1) = ((i + 1 : Nat) : Int) := by rw [i64_in _ (by omega)]; simp
            have e0 := at_P (l := b.c) hlt'
            have e1 := at_P (l := c.c) (i := i) (by omega)
            have hq := hat i hlt'
            have hne : ((c.c.getD i (0, 0)).1 != (b.c.getD i (0, 0)).1) = false := by rw [hq]; exact bne_self_eq_false _
            have hih := ih (i + 1) (by omega)
            conv => arg 3; simp only [mkT, putT, List.reduceReplicate, List.set]
            refine EVgo9 (And.intro (hlt) ( And.intro (hlt2) ( And.intro (hw1) ( And.intro (e0) ( And.intro (e1) (hne)))))) trivial trivial trivial trivial trivial trivial trivial trivial trivial trivial trivial ?_
            exact WC.loop rfl hih
        · rw [e] at h10
          have e9 : ((wordF k b).1 != 0) = true := bne_iff_ne.2 (by omega)
          simp only [encWord, bE, slP] at h13 h14 h15 h10 ⊢
          conv => arg 2; simp only [ir5]
          conv => arg 3; simp only [ir5, Go.Proofs.YtcphpiboamlanaaEv.start, List.length, Nat.reduceAdd, Nat.reduceSub, List.reduceReplicate, List.append_eq, List.cons_append, List.nil_append]
          conv => arg 4; simp only [heapOf]
          try conv => arg 5; simp only [List.length, Nat.reduceAdd]
          try conv => arg 6; simp only [List.length, Nat.reduceAdd]
          refine EVgo9 (And.intro (hw') ( And.intro (w0) (e9))) (h9) (h13) (h15) (h14) (h10) trivial trivial trivial trivial trivial trivial ?_
          exact EVret trivial
    · have hw' : (w.size : Int) > 100 := by omega
      simp only [bE, slP] at h13 ⊢
      conv => arg 2; simp only [ir5]
      conv => arg 3; simp only [ir5, Go.Proofs.YtcphpiboamlanaaEv.start, List.length, Nat.reduceAdd, Nat.reduceSub, List.reduceReplicate, List.append_eq, List.cons_append, List.nil_append]
      conv => arg 4; simp only [heapOf]
      try conv => arg 5; simp only [List.length, Nat.reduceAdd]
      try conv => arg 6; simp only [List.length, Nat.reduceAdd]
      refine EVgo9 (hw') (h9) (h13) trivial trivial trivial trivial trivial trivial trivial trivial trivial ?_
      exact EVret trivial
theorem s8 (l m : List Pr) : Sp cf 8 [slP l, slP m] (.bool true) := by
  have h9 := s9 hcf
  refine sp_of hcf env8 ?_
  by_cases hl : l.length ≤ 300
  · have hl' : ¬ (l.length : Int) > 300 := by omega
    by_cases hm : m.length ≤ 300
    · have hm' : ¬ (m.length : Int) > 300 := by omega
      have la : (l ++ m).length = l.length + m.length := List.length_append
      have o1 : Ok ⟨l, [], []⟩ := ⟨by show l.length ≤ _; omega, fun p hp => absurd hp List.not_mem_nil, fun p hp => absurd hp List.not_mem_nil⟩
      have o2 : Ok ⟨l ++ m, [], []⟩ := ⟨by show (l ++ m).length ≤ _; omega, fun p hp => absurd hp List.not_mem_nil, fun p hp => absurd hp List.not_mem_nil⟩
      have f0 : Few emp := ⟨by decide, by decide, by decide⟩
      have f1 : Few ⟨l, [], []⟩ := ⟨by show l.length ≤ _; omega, by show 0 ≤ _; omega, by show 0 ≤ _; omega⟩
      have f2 : Few ⟨l ++ m, [], []⟩ := ⟨by show (l ++ m).length ≤ _; omega, by show 0 ≤ _; omega, by show 0 ≤ _; omega⟩
      have h19a := s19 hcf emp l f0 (by omega)
      have h19b := s19 hcf ⟨l, [], []⟩ m f1 (by omega)
      have h19c := s19 hcf emp (l ++ m) f0 (by omega)
      rw [emit_y ok_emp (by show 0 + _ ≤ _; omega)] at h19a h19c
      rw [emit_y o1 (by show l.length + _ ≤ _; omega)] at h19b
      have h11 := s11 hcf ⟨l ++ m, [], []⟩ f2
      have ee : endB ⟨l ++ m, [], []⟩ = ((l ++ m) ++ [(4, 0)], 0) := by
        unfold endB
        rw [ownB_ok o2, if_pos rfl, if_pos (by show (l ++ m).length + 1 ≤ _; omega)]
      rw [ee] at h11
      have h18 := s18 hcf ⟨l ++ m, [], []⟩ (by show 0 ≤ _; omega) (by show 0 ≤ _; omega)
      have h17 := s17 hcf ⟨l ++ m, [], []⟩ f2
      have h23 := s23 hcf (l ++ m) (by omega)
      simp only [emp, List.nil_append] at h19a h19b h19c
      have hap : (flat encP (l ++ m)).take ((l.length + m.length) * 2) = flat encP (l ++ m) := by rw [← la, allP]
      have hap2 : (flat encP ((l ++ m) ++ [(4, 0)])).take ((l.length + m.length) * 2) = flat encP (l ++ m) := by rw [← la, takeP, List.take_left]
      have w1 : IntKind.i64.wrap ((l.length + m.length : Nat) + 1 : Int) = ((l.length + m.length : Nat) : Int) + 1 := i64_in _ (by omega)
      have lt : ((l ++ m) ++ [((4 : Int), (0 : Int))]).length = l.length + m.length + 1 := by rw [snoc_len, la]
      have g1 : (((l.length + m.length + 1 : Nat) : Int) != ((l.length + m.length : Nat) : Int) + 1) = false := by rw [Int.natCast_add]; exact bne_self_eq_false _
      generalize hq : (l ++ m) ++ [((4 : Int), (0 : Int))] = q at *
      simp only [encEmit, encEnd, bE, slP, la, lt] at h19a h19b h19c h11 h18 h17 h23 ⊢
      conv => arg 2; simp only [ir8]
      conv => arg 3; simp only [ir8, Go.Proofs.YtcphpiboamlanaaEv.start, List.length, Nat.reduceAdd, Nat.reduceSub, List.reduceReplicate, List.append_eq, List.cons_append, List.nil_append]
      conv => arg 4; simp only [heapOf]
      try conv => arg 5; simp only [List.length, Nat.reduceAdd]
      try conv => arg 6; simp only [List.length, Nat.reduceAdd]
      refine EVgo9 (And.intro (hl') ( And.intro (hm') ( And.intro (lenP) ( And.intro (allP) ( And.intro (appP) (hap)))))) (h9) (h19a) (h19b) trivial trivial trivial trivial trivial trivial trivial trivial ?_
      refine EVgo9 (And.intro (hap) ( And.intro (hap2) ( And.intro (w1) (g1)))) (h19c) (h11) (h18) (h17) (h23) trivial trivial trivial trivial trivial trivial ?_
      exact EVret trivial
    · have hm' : (m.length : Int) > 300 := by omega
      simp only [slP]
      conv => arg 2; simp only [ir8]
      conv => arg 3; simp only [ir8, Go.Proofs.YtcphpiboamlanaaEv.start, List.length, Nat.reduceAdd, Nat.reduceSub, List.reduceReplicate, List.append_eq, List.cons_append, List.nil_append]
      conv => arg 4; simp only [heapOf]
      try conv => arg 5; simp only [List.length, Nat.reduceAdd]
      try conv => arg 6; simp only [List.length, Nat.reduceAdd]
      refine EVgo9 (And.intro (hl') (hm')) (h9) trivial trivial trivial trivial trivial trivial trivial trivial trivial trivial ?_
      exact EVret trivial
  · have hl' : (l.length : Int) > 300 := by omega
    simp only [slP]
    conv => arg 2; simp only [ir8]
    conv => arg 3; simp only [ir8, Go.Proofs.YtcphpiboamlanaaEv.start, List.length, Nat.reduceAdd, Nat.reduceSub, List.reduceReplicate, List.append_eq, List.cons_append, List.nil_append]
    conv => arg 4; simp only [heapOf]
    try conv => arg 5; simp only [List.length, Nat.reduceAdd]
    try conv => arg 6; simp only [List.length, Nat.reduceAdd]
    refine EVgo9 (hl') (h9) trivial trivial trivial trivial trivial trivial trivial trivial trivial trivial ?_
    exact EVret trivial
end
end Go.Proofs.YtcphpiboamlanaaR
