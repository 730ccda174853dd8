/- Evf08Y: a part of the proof. -/
import Derived.Test.YtcphpiboamlanaaEvf08X0
open Go Go.Proofs.YtcphpiboamlanaaEv Go.Proofs.YtcphpiboamlanaaR Go.IntWalk
set_option maxRecDepth 20000
set_option maxHeartbeats 16000000
set_option linter.unusedVariables false
set_option linter.unusedSimpArgs false
namespace Go.Proofs.YtcphpiboamlanaaR
theorem wrong_k {b : Bd} {s : ByteArray} {k : Nat} {kd : Int} (hk : k < 13) (hs : wordK s = ((k : Nat) : Int)) (ho : Ok b) (hkd : kd ≠ 0) (hy : (topP b.m 0 kd).2 = true → (wordF k b).1 = 0) (hn : (topP b.m 0 kd).2 = false → (wordF k b).1 = -22) : ((wordB b s).2.2 == -22) = (topKind b.m != kd) := by
  cases ht : (topP b.m 0 kd).2 with
  | true =>
    rw [wordB_take hk hs ho (hy ht), (topP_kind hkd).1 ht]
    simp
  | false =>
    have h := hn ht
    rw [wordB_fail hs ho (by rw [h]; decide), h]
    have : topKind b.m ≠ kd := fun q => by rw [(topP_kind hkd).2 q] at ht; cases ht
    rw [bne_iff_ne.2 this]
    rfl
theorem wrong_then {b : Bd} (ho : Ok b) : ((wordB b ⟨[84, 72, 69, 78].toArray⟩).2.2 == -22) = (topKind b.m != 1) :=
  wrong_k (k := 2) (by decide) (wk _) ho (by decide) (fun h => by show (thenW b).1 = 0; unfold thenW; rw [if_pos h]) (fun h => by show (thenW b).1 = -22; unfold thenW; rw [if_neg (by rw [h]; decide)])
theorem wrong_until {b : Bd} (ho : Ok b) (hc : b.c.length ≤ 200) : ((wordB b ⟨[85, 78, 84, 73, 76].toArray⟩).2.2 == -22) = (topKind b.m != 2) :=
  wrong_k (k := 5) (by decide) (wk _) ho (by decide) (fun h => by show (backW 2 2 b).1 = 0; unfold backW; rw [if_pos h, if_pos (by omega)]) (fun h => by show (backW 2 2 b).1 = -22; unfold backW; rw [if_neg (by rw [h]; decide)])
theorem wrong_loop {b : Bd} (ho : Ok b) (hc : b.c.length ≤ 200) : ((wordB b ⟨[76, 79, 79, 80].toArray⟩).2.2 == -22) = (topKind b.m != 3) :=
  wrong_k (k := 10) (by decide) (wk _) ho (by decide) (fun h => by show (closeW 7 b).1 = 0; unfold closeW; rw [if_pos h, if_pos (by omega)]) (fun h => by show (closeW 7 b).1 = -22; unfold closeW; rw [if_neg (by rw [h]; decide)])
theorem wrong_leave {b : Bd} (ho : Ok b) (hc : b.c.length ≤ 200) : ((wordB b ⟨[76, 69, 65, 86, 69].toArray⟩).2.2 == -22) = (((deep b.m : Nat) : Int) == 0) := by
  by_cases h : deep b.m = 0
  · have e : (wordF 12 b).1 = -22 := by show (leaveW b).1 = _; unfold leaveW; rw [if_pos h]
    rw [wordB_fail (k := 12) (wk _) ho (by rw [e]; decide), e, h]
    rfl
  · have e : (wordF 12 b).1 = 0 := by show (leaveW b).1 = _; unfold leaveW; rw [if_neg h, if_pos (by omega)]
    rw [wordB_take (k := 12) (by decide) (wk _) ho e, beq_eq_false_iff_ne.2 (show ((deep b.m : Nat) : Int) ≠ 0 by omega)]
    rfl
section
variable {cf : CF} (hcf : cf = ev env)
include hcf
theorem s4 (b : Bd) (w : ByteArray) : Sp cf 4 [bE b, .str w] (.bool true) := by
  have h9 := s9 hcf
  have h13 := s13 hcf b
  refine sp_of hcf env4 ?_
  cases hf : fewB b with
  | false =>
    rw [hf] at h13
    simp only [bE, slP] at h13 ⊢
    conv => arg 2; simp only [ir4]
    conv => arg 3; simp only [ir4, Go.Proofs.YtcphpiboamlanaaEv.start, List.length, Nat.reduceAdd, Nat.reduceSub, List.reduceReplicate, List.append_eq, List.cons_append, List.nil_append]
    conv => arg 4; simp only [heapOf]
    try conv => arg 5; simp only [List.length, Nat.reduceAdd]
    try conv => arg 6; simp only [List.length, Nat.reduceAdd]
    refine EVgo9 trivial (h9) (h13) trivial trivial trivial trivial trivial trivial trivial trivial trivial ?_
    exact EVret trivial
  | true =>
    rw [hf] at h13
    by_cases hw : w.size ≤ 100
    · have hw' : ¬ (w.size : Int) > 100 := by omega
      have f := few_few hf
      have f0 := few_of hf
      have h15 := s15 hcf b (by omega) (by omega)
      have h14 := s14 hcf (fun _ _ => rfl) b (by omega) (by omega)
      cases hs : saneB b with
      | false =>
        rw [hs] at h14
        simp only [bE, slP] at h13 h14 h15 ⊢
        conv => arg 2; simp only [ir4]
        conv => arg 3; simp only [ir4, Go.Proofs.YtcphpiboamlanaaEv.start, List.length, Nat.reduceAdd, Nat.reduceSub, List.reduceReplicate, List.append_eq, List.cons_append, List.nil_append]
        conv => arg 4; simp only [heapOf]
        try conv => arg 5; simp only [List.length, Nat.reduceAdd]
        try conv => arg 6; simp only [List.length, Nat.reduceAdd]
        refine EVgo9 (hw') (h9) (h13) (h15) (h14) trivial trivial trivial trivial trivial trivial trivial ?_
        exact EVret trivial
      | true =>
        rw [hs] at h14
        have ho := (saneB_iff b).1 hs
        have h16 := s16 hcf b (by omega)
        have h10a := s10 hcf b ⟨[84, 72, 69, 78].toArray⟩ f (by decide)
        have h10b := s10 hcf b ⟨[85, 78, 84, 73, 76].toArray⟩ f (by decide)
        have h10c := s10 hcf b ⟨[76, 79, 79, 80].toArray⟩ f (by decide)
        have h10d := s10 hcf b ⟨[76, 69, 65, 86, 69].toArray⟩ f (by decide)
        have h10 := s10 hcf b w f (by omega)
        have qa := wrong_then ho
        have qb := wrong_until ho f0.1
        have qc := wrong_loop ho f0.1
        have qd := wrong_leave ho f0.1
        have h18 := s18 hcf b (by omega) (by omega)
        have h17 := s17 hcf b f
        have wc := wordB_cases b w
        rw [ownB_ok ho] at wc
        generalize wordB b ⟨[84, 72, 69, 78].toArray⟩ = xa at *
        generalize wordB b ⟨[85, 78, 84, 73, 76].toArray⟩ = xb at *
        generalize wordB b ⟨[76, 79, 79, 80].toArray⟩ = xc at *
        generalize wordB b ⟨[76, 69, 65, 86, 69].toArray⟩ = xd at *
        generalize wordB b w = y at *
        have fin : ∀ kd : Int, kd = topKind b.m → ((xa.2.2 == -22) == (kd != 1)) = true ∧ ((xb.2.2 == -22) == (kd != 2)) = true ∧ ((xc.2.2 == -22) == (kd != 3)) = true := fun kd e => by
          subst e
          rw [qa, qb, qc]
          exact ⟨beq_self_eq_true _, beq_self_eq_true _, beq_self_eq_true _⟩
        have fd : ((xd.2.2 == -22) == (((deep b.m : Nat) : Int) == 0)) = true := by rw [qd]; exact beq_self_eq_true _
        have wc' : ((y.2.1 = false ∧ y.2.2 = 0) ∧ y.1 = b) ∨ (y.2.1 = true ∧ y.2.2 = 0) ∨ ((y.2.1 = true ∧ (y.2.2 == 0) = false) ∧ y.1 = b) := by
          rcases wc with e | ⟨k, hk, hw, h0, e, st⟩ | ⟨k, hk, hw, h0, e⟩
          · exact .inl (by rw [e]; exact ⟨⟨rfl, rfl⟩, rfl⟩)
          · exact .inr (.inl (by rw [e]; exact ⟨rfl, rfl⟩))
          · exact .inr (.inr (by rw [e]; exact ⟨⟨rfl, beq_eq_false_iff_ne.2 (by show (wordF k b).1 ≠ 0; omega)⟩, rfl⟩))
        by_cases hn : 0 < b.m.length
        · have hn' : (b.m.length : Int) > 0 := by omega
          have w1 : IntKind.i64.wrap ((b.m.length : Int) - 1) = ((b.m.length - 1 : Nat) : Int) := by rw [i64_in _ (by omega)]; omega
          have e0 := at_P (l := b.m) (i := b.m.length - 1) (by omega)
          obtain ⟨q1, q2, q3⟩ := fin (b.m.getD (b.m.length - 1) (0, 0)).1 (by unfold topKind; rw [if_pos hn])
          rcases wc' with ⟨⟨y1, y2⟩, y3⟩ | ⟨y1, y2⟩ | ⟨⟨y1, y2⟩, y3⟩
          · simp only [encWord, y1, y2, y3] at h10
            simp only [encWord, bE, slP] at h13 h14 h15 h16 h10a h10b h10c h10d h10 h17 h18 ⊢
            conv => arg 2; simp only [ir4]
            conv => arg 3; simp only [ir4, Go.Proofs.YtcphpiboamlanaaEv.start, List.length, Nat.reduceAdd, Nat.reduceSub, List.reduceReplicate, List.append_eq, List.cons_append, List.nil_append]
            conv => arg 4; simp only [heapOf]
            try conv => arg 5; simp only [List.length, Nat.reduceAdd]
            try conv => arg 6; simp only [List.length, Nat.reduceAdd]
            refine EVgo9 (And.intro (hw') ( And.intro (hn') ( And.intro (w1) ( And.intro (e0) ( And.intro (q1) ( And.intro (q2) ( And.intro (q3) (fd)))))))) (h9) (h13) (h15) (h14) (h10a) (h10b) (h10c) (h10d) (h10) trivial trivial ?_
            refine EVgo9 (And.intro (hw') ( And.intro (hn') ( And.intro (w1) ( And.intro (e0) ( And.intro (q1) ( And.intro (q2) ( And.intro (q3) (fd)))))))) (h15) (h10) (h16) (h18) (h17) trivial trivial trivial trivial trivial trivial ?_
            exact EVret trivial
          · simp only [encWord, y1, y2] at h10
            simp only [encWord, bE, slP] at h13 h14 h15 h16 h10a h10b h10c h10d h10 h17 h18 ⊢
            conv => arg 2; simp only [ir4]
            conv => arg 3; simp only [ir4, Go.Proofs.YtcphpiboamlanaaEv.start, List.length, Nat.reduceAdd, Nat.reduceSub, List.reduceReplicate, List.append_eq, List.cons_append, List.nil_append]
            conv => arg 4; simp only [heapOf]
            try conv => arg 5; simp only [List.length, Nat.reduceAdd]
            try conv => arg 6; simp only [List.length, Nat.reduceAdd]
            refine EVgo9 (And.intro (hw') ( And.intro (hn') ( And.intro (w1) ( And.intro (e0) ( And.intro (q1) ( And.intro (q2) ( And.intro (q3) (fd)))))))) (h9) (h13) (h15) (h14) (h10a) (h10b) (h10c) (h10d) (h10) trivial trivial ?_
            refine EVgo9 (And.intro (hw') ( And.intro (hn') ( And.intro (w1) ( And.intro (e0) ( And.intro (q1) ( And.intro (q2) ( And.intro (q3) (fd)))))))) (h15) (h10) (h16) (h18) (h17) trivial trivial trivial trivial trivial trivial ?_
            exact EVret trivial
          · simp only [encWord, y1, y3] at h10
            simp only [encWord, bE, slP] at h13 h14 h15 h16 h10a h10b h10c h10d h10 h17 h18 ⊢
            conv => arg 2; simp only [ir4]
            conv => arg 3; simp only [ir4, Go.Proofs.YtcphpiboamlanaaEv.start, List.length, Nat.reduceAdd, Nat.reduceSub, List.reduceReplicate, List.append_eq, List.cons_append, List.nil_append]
            conv => arg 4; simp only [heapOf]
            try conv => arg 5; simp only [List.length, Nat.reduceAdd]
            try conv => arg 6; simp only [List.length, Nat.reduceAdd]
            refine EVgo9 (And.intro (hw') ( And.intro (hn') ( And.intro (w1) ( And.intro (e0) ( And.intro (q1) ( And.intro (q2) ( And.intro (q3) ( And.intro (fd) (y2))))))))) (h9) (h13) (h15) (h14) (h10a) (h10b) (h10c) (h10d) (h10) trivial trivial ?_
            refine EVgo9 (And.intro (hw') ( And.intro (hn') ( And.intro (w1) ( And.intro (e0) ( And.intro (q1) ( And.intro (q2) ( And.intro (q3) ( And.intro (fd) (y2))))))))) (h15) (h10) (h16) (h18) (h17) trivial trivial trivial trivial trivial trivial ?_
            exact EVret trivial
        · have hn' : ¬ (b.m.length : Int) > 0 := by omega
          obtain ⟨q1, q2, q3⟩ := fin 0 (by unfold topKind; rw [if_neg hn])
          have q1' : (xa.2.2 == -22) = true := by simpa using q1
          have q2' : (xb.2.2 == -22) = true := by simpa using q2
          have q3' : (xc.2.2 == -22) = true := by simpa using q3
          rcases wc' with ⟨⟨y1, y2⟩, y3⟩ | ⟨y1, y2⟩ | ⟨⟨y1, y2⟩, y3⟩
          · simp only [encWord, y1, y2, y3] at h10
            simp only [encWord, bE, slP] at h13 h14 h15 h16 h10a h10b h10c h10d h10 h17 h18 ⊢
            conv => arg 2; simp only [ir4]
            conv => arg 3; simp only [ir4, Go.Proofs.YtcphpiboamlanaaEv.start, List.length, Nat.reduceAdd, Nat.reduceSub, List.reduceReplicate, List.append_eq, List.cons_append, List.nil_append]
            conv => arg 4; simp only [heapOf]
            try conv => arg 5; simp only [List.length, Nat.reduceAdd]
            try conv => arg 6; simp only [List.length, Nat.reduceAdd]
            refine EVgo9 (And.intro (hw') ( And.intro (hn') ( And.intro (q1') ( And.intro (q2') ( And.intro (q3') (fd)))))) (h9) (h13) (h15) (h14) (h10a) (h10b) (h10c) (h10d) (h10) trivial trivial ?_
            refine EVgo9 (And.intro (hw') ( And.intro (hn') ( And.intro (q1') ( And.intro (q2') ( And.intro (q3') (fd)))))) (h15) (h10) (h16) (h18) (h17) trivial trivial trivial trivial trivial trivial ?_
            exact EVret trivial
          · simp only [encWord, y1, y2] at h10
            simp only [encWord, bE, slP] at h13 h14 h15 h16 h10a h10b h10c h10d h10 h17 h18 ⊢
            conv => arg 2; simp only [ir4]
            conv => arg 3; simp only [ir4, Go.Proofs.YtcphpiboamlanaaEv.start, List.length, Nat.reduceAdd, Nat.reduceSub, List.reduceReplicate, List.append_eq, List.cons_append, List.nil_append]
            conv => arg 4; simp only [heapOf]
            try conv => arg 5; simp only [List.length, Nat.reduceAdd]
            try conv => arg 6; simp only [List.length, Nat.reduceAdd]
            refine EVgo9 (And.intro (hw') ( And.intro (hn') ( And.intro (q1') ( And.intro (q2') ( And.intro (q3') (fd)))))) (h9) (h13) (h15) (h14) (h10a) (h10b) (h10c) (h10d) (h10) trivial trivial ?_
            refine EVgo9 (And.intro (hw') ( And.intro (hn') ( And.intro (q1') ( And.intro (q2') ( And.intro (q3') (fd)))))) (h15) (h10) (h16) (h18) (h17) trivial trivial trivial trivial trivial trivial ?_
            exact EVret trivial
          · simp only [encWord, y1, y3] at h10
            simp only [encWord, bE, slP] at h13 h14 h15 h16 h10a h10b h10c h10d h10 h17 h18 ⊢
            conv => arg 2; simp only [ir4]
            conv => arg 3; simp only [ir4, Go.Proofs.YtcphpiboamlanaaEv.start, List.length, Nat.reduceAdd, Nat.reduceSub, List.reduceReplicate, List.append_eq, List.cons_append, List.nil_append]
            conv => arg 4; simp only [heapOf]
            try conv => arg 5; simp only [List.length, Nat.reduceAdd]
            try conv => arg 6; simp only [List.length, Nat.reduceAdd]
            refine EVgo9 (And.intro (hw') ( And.intro (hn') ( And.intro (q1') ( And.intro (q2') ( And.intro (q3') ( And.intro (fd) (y2))))))) (h9) (h13) (h15) (h14) (h10a) (h10b) (h10c) (h10d) (h10) trivial trivial ?_
            refine EVgo9 (And.intro (hw') ( And.intro (hn') ( And.intro (q1') ( And.intro (q2') ( And.intro (q3') ( And.intro (fd) (y2))))))) (h15) (h10) (h16) (h18) (h17) trivial trivial trivial trivial trivial trivial ?_
            exact EVret trivial
    · have hw' : (w.size : Int) > 100 := by omega
      simp only [bE, slP] at h13 ⊢
      conv => arg 2; simp only [ir4]
      conv => arg 3; simp only [ir4, Go.Proofs.YtcphpiboamlanaaEv.start, List.length, Nat.reduceAdd, Nat.reduceSub, List.reduceReplicate, List.append_eq, List.cons_append, List.nil_append]
      conv => arg 4; simp only [heapOf]
      try conv => arg 5; simp only [List.length, Nat.reduceAdd]
      try conv => arg 6; simp only [List.length, Nat.reduceAdd]
      refine EVgo9 (hw') (h9) (h13) trivial trivial trivial trivial trivial trivial trivial trivial trivial ?_
      exact EVret trivial
end
end Go.Proofs.YtcphpiboamlanaaR
