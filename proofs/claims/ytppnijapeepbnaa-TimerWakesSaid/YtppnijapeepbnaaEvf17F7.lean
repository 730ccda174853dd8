/- Evf17F7: a part of the proof. -/
import Derived.Test.YtppnijapeepbnaaEvf17F6
open Go Go.Proofs.YtppnijapeepbnaaEv Go.Proofs.YtppnijapeepbnaaR Go.IntWalk Go.Proofs
set_option maxRecDepth 20000
set_option maxHeartbeats 16000000
set_option linter.unusedVariables false
set_option linter.unusedSimpArgs false
namespace Go.Proofs.YtppnijapeepbnaaR
def andI (a b : Int) : Int := IntKind.i64.wrap ((BitVec.ofInt 64 a &&& BitVec.ofInt 64 b).toNat : Int)
theorem andI_le (a : Int) (b : Nat) (hb : b < 100000) : ∃ k : Nat, andI a b = k ∧ k ≤ b := by
  refine ⟨(BitVec.ofInt 64 a &&& BitVec.ofInt 64 b).toNat, ?_, ?_⟩
  · have h : (BitVec.ofInt 64 a &&& BitVec.ofInt 64 (b : Int)).toNat ≤ b := by
      rw [BitVec.toNat_and, BitVec.ofInt_natCast, BitVec.toNat_ofNat, Nat.mod_eq_of_lt (by omega)]
      exact Nat.and_le_right
    unfold andI
    rw [i64_in _ (by omega)]
  · rw [BitVec.toNat_and, BitVec.ofInt_natCast, BitVec.toNat_ofNat, Nat.mod_eq_of_lt (by omega)]
    exact Nat.and_le_right
theorem part_rest {l : List Np} {a b : Int} (h : a ≤ b) : (l.filter (fun y => decide (a < y.2))).filter (fun y => decide (b < y.2)) = l.filter (fun y => decide (b < y.2)) := by
  rw [List.filter_filter]
  refine List.filter_congr fun x _ => ?_
  by_cases hx : b < x.2
  · rw [decide_eq_true hx, decide_eq_true (show a < x.2 by omega)]; rfl
  · rw [decide_eq_false hx, Bool.false_and]
theorem part_due {l : List Np} {a b : Int} (hs : Srt l) (h : a ≤ b) : l.filter (fun y => decide (y.2 ≤ b)) = l.filter (fun y => decide (y.2 ≤ a)) ++ (l.filter (fun y => decide (a < y.2))).filter (fun y => decide (y.2 ≤ b)) := by
  conv => lhs; rw [← srt_split (t := a) hs]
  rw [List.filter_append]
  congr 1
  refine List.filter_eq_self.2 fun x hx => ?_
  have := of_decide_eq_true (List.mem_filter.1 hx).2
  exact decide_eq_true (by omega)
section
variable {cf : CF} (hcf : cf = ev env)
include hcf
theorem s4 (l : List Np) (a by_ : Int) (ha : (Lit.int .i64 a).wf = true) : Sp cf 4 [slN l, .int .i64 a, .int .i64 by_] (.bool true) := by
  have h7 := s7 hcf
  refine sp_of hcf env4 ?_
  by_cases hl : l.length ≤ 30
  · have hl' : ¬ (l.length : Int) > 30 := by omega
    have h11 := s11 hcf l (by omega)
    have h10 := s10 hcf env_but l (by omega)
    cases hsb : saneB l with
    | false =>
      rw [hsb] at h10
      simp only [slN] at *
      conv => arg 2; simp only [ir4]
      conv => arg 3; simp only [ir4, Go.Proofs.YtppnijapeepbnaaEv.start, List.length, Nat.reduceAdd, Nat.reduceSub, List.reduceReplicate, List.append_eq, List.cons_append, List.nil_append]
      conv => arg 4; simp only [heapOf]
      try conv => arg 5; simp only [List.length, Nat.reduceAdd]
      try conv => arg 6; simp only [List.length, Nat.reduceAdd]
      refine EVgo9 (hl') (h7) (h11) (h10) trivial trivial trivial trivial trivial trivial trivial trivial ?_
      exact EVret trivial
    | true =>
      rw [hsb] at h10
      by_cases ha5 : a > 1125899906842624
      · simp only [slN] at *
        conv => arg 2; simp only [ir4]
        conv => arg 3; simp only [ir4, Go.Proofs.YtppnijapeepbnaaEv.start, List.length, Nat.reduceAdd, Nat.reduceSub, List.reduceReplicate, List.append_eq, List.cons_append, List.nil_append]
        conv => arg 4; simp only [heapOf]
        try conv => arg 5; simp only [List.length, Nat.reduceAdd]
        try conv => arg 6; simp only [List.length, Nat.reduceAdd]
        refine EVgo9 (And.intro (hl') (ha5)) (h7) (h11) (h10) trivial trivial trivial trivial trivial trivial trivial trivial ?_
        exact EVret trivial
      · have hf := sane_iff.1 hsb
        have hsl := saneL_id hf
        have hlo : -9223372036854775808 ≤ a := by
          simp only [Lit.wf, Bool.and_eq_true, decide_eq_true_eq] at ha
          have := ha.1
          simp only [IntKind.min] at this
          exact this
        have f1 : ∀ a b : Int, IntKind.i64.wrap ((BitVec.ofInt IntKind.i64.bits a &&& BitVec.ofInt IntKind.i64.bits b).toNat : Int) = andI a b := fun _ _ => rfl
        obtain ⟨k, hk, hk2⟩ := andI_le by_ 65535 (by decide)
        have hk' : andI by_ 65535 = (k : Int) := hk
        have hw0 : IntKind.i64.wrap (a + (k : Int)) = a + k := i64_in _ (by omega)
        have hab : a ≤ a + k := by omega
        have h9a := s9 hcf l a (by omega)
        have h9c := s9 hcf l (a + k) (by omega)
        have hX := hf.filter (fun y => decide (a < y.2))
        have lX := hX.len
        have h9b := s9 hcf (l.filter (fun y => decide (a < y.2))) (a + k) (by omega)
        rw [due_eq] at h9a h9b h9c
        rw [saneL_id hX] at h9b
        rw [hsl] at h9a h9c
        rw [part_rest hab] at h9b
        have hK := part_due hf.srt hab
        have lZ := (hf.filter (fun y => decide (a + k < y.2))).len
        have hsum := congrArg List.length (srt_split (t := a + k) hf.srt)
        rw [List.length_append] at hsum
        have lI := (hf.filter (fun y => decide (y.2 ≤ a))).len
        have lJ := (hX.filter (fun y => decide (y.2 ≤ a + k))).len
        generalize hb : a + (k : Int) = b at *
        generalize List.filter (fun y : Np => decide (y.2 ≤ b)) (List.filter (fun y : Np => decide (a < y.2)) l) = J at *
        generalize List.filter (fun y : Np => decide (y.2 ≤ a)) l = I at *
        generalize List.filter (fun y : Np => decide (a < y.2)) l = X at *
        generalize List.filter (fun y : Np => decide (b < y.2)) l = Z at *
        generalize List.filter (fun y : Np => decide (y.2 ≤ b)) l = K at *
        have lK : K.length = I.length + J.length := by rw [hK, List.length_append]
        have h13 := s13 hcf Z (by omega)
        have h12 := s12 hcf Z (by omega)
        have w1 : IntKind.i64.wrap ((I.length : Int) + (J.length : Int)) = (K.length : Int) := by rw [i64_in _ (by omega), lK]; simp
        have w2 : IntKind.i64.wrap ((Z.length : Int) + (K.length : Int)) = (l.length : Int) := by rw [i64_in _ (by omega)]; omega
        have q1 : ∀ x : Int, (x != x) = false := fun x => bne_self_eq_false _
        simp only [slN] at *
        conv => arg 2; simp only [ir4]
        conv => arg 3; simp only [ir4, Go.Proofs.YtppnijapeepbnaaEv.start, List.length, Nat.reduceAdd, Nat.reduceSub, List.reduceReplicate, List.append_eq, List.cons_append, List.nil_append]
        conv => arg 4; simp only [heapOf]
        try conv => arg 5; simp only [List.length, Nat.reduceAdd]
        try conv => arg 6; simp only [List.length, Nat.reduceAdd]
        refine EVgo9 (And.intro (hl') (ha5)) (h7) (h11) (h10) trivial trivial trivial trivial trivial trivial trivial trivial ?_
        refine EVgo9 (And.intro (f1) ( And.intro (hk') ( And.intro (hb) ( And.intro (hw0) ( And.intro (w1) ( And.intro (w2) (q1))))))) (h11) (h9a) (h9b) (h9c) (h13) (h12) trivial trivial trivial trivial trivial ?_
        refine WC.loop (T' := _) (H' := _) (n' := _) rfl ((?_ : ∀ (r p : List Np), p ++ r = K →
          WC cf _ (mkT 123 [(7, .bool true), (10, .sl I.length false (idsP I)), (12, .sl J.length false (idsP J)), (14, .sl K.length false (idsP K)), (15, .int .i64 (p.length : Nat))]) [] 0 0 _) K [] rfl)
        intro r
        induction r with
        | nil =>
          intro p hp
          rw [List.append_nil] at hp
          rw [hp]
          conv => arg 3; simp only [mkT, putT, List.reduceReplicate, List.set]
          refine EVgl9 trivial trivial trivial trivial trivial trivial trivial trivial trivial trivial trivial trivial ?_
          exact EVret trivial
        | cons x r ih =>
          intro p hp
          obtain ⟨x, y⟩ := x
          have hlen : K.length = p.length + (r.length + 1) := by rw [← hp]; simp
          have hlt : (p.length : Int) < (K.length : Int) := by omega
          have hw : IntKind.i64.wrap ((p.length : Int) + 1) = ((p.length + 1 : Nat) : Int) := by rw [i64_in _ (by omega)]; simp
          have e0 := mid_ids hp
          have hih := ih (p ++ [(x, y)]) (by rw [List.append_assoc]; exact hp)
          rw [snoc_len] at hih
          by_cases hpi : p.length < I.length
          · have hlti : (p.length : Int) < (I.length : Int) := by omega
            have hgei : ¬ (p.length : Int) ≥ (I.length : Int) := by omega
            obtain ⟨r', hr'⟩ : ∃ r', p ++ (x, y) :: r' = I := by
              rcases List.append_eq_append_iff.1 (hp.trans hK) with ⟨c, h1, h2⟩ | ⟨c, h1, h2⟩
              · cases c with
                | nil => rw [h1, List.append_nil] at hpi; exact absurd hpi (Nat.lt_irrefl _)
                | cons c0 c =>
                  simp only [List.cons_append, List.cons.injEq] at h2
                  exact ⟨c, by rw [h1, h2.1]⟩
              · rw [h1, List.length_append] at hpi
                omega
            have e1 := mid_ids hr'
            conv => arg 3; simp only [mkT, putT, List.reduceReplicate, List.set]
            refine EVgo9 (And.intro (hlt) ( And.intro (hlti) ( And.intro (hgei) ( And.intro (e0) ( And.intro (e1) ( And.intro (q1) (hw))))))) trivial trivial trivial trivial trivial trivial trivial trivial trivial trivial trivial ?_
            exact WC.loop rfl hih
          · have hlti : ¬ (p.length : Int) < (I.length : Int) := by omega
            have hgei : (p.length : Int) ≥ (I.length : Int) := by omega
            obtain ⟨p', hp1, hp2⟩ : ∃ p', p = I ++ p' ∧ p' ++ (x, y) :: r = J := by
              rcases List.append_eq_append_iff.1 (hp.trans hK) with ⟨c, h1, h2⟩ | ⟨c, h1, h2⟩
              · have := congrArg List.length h1
                rw [List.length_append] at this
                have hc : c = [] := List.length_eq_zero_iff.1 (by omega)
                subst hc
                rw [List.append_nil] at h1
                exact ⟨[], by rw [List.append_nil]; exact h1.symm, h2⟩
              · exact ⟨c, h1, h2.symm⟩
            have hpl : p.length = I.length + p'.length := by rw [hp1, List.length_append]
            have hlj : J.length = p'.length + (r.length + 1) := by rw [← hp2]; simp
            have hltj : (p'.length : Int) < (J.length : Int) := by omega
            have w3 : IntKind.i64.wrap ((p.length : Int) - (I.length : Int)) = (p'.length : Int) := by rw [i64_in _ (by omega)]; omega
            have e1 := mid_ids hp2
            conv => arg 3; simp only [mkT, putT, List.reduceReplicate, List.set]
            refine EVgo9 (And.intro (hlt) ( And.intro (hlti) ( And.intro (hgei) ( And.intro (w3) ( And.intro (hltj) ( And.intro (e0) ( And.intro (e1) ( And.intro (q1) (hw))))))))) trivial trivial trivial trivial trivial trivial trivial trivial trivial trivial trivial ?_
            exact WC.loop rfl hih
  · have hl' : (l.length : Int) > 30 := by omega
    simp only [slN]
    conv => arg 2; simp only [ir4]
    conv => arg 3; simp only [ir4, Go.Proofs.YtppnijapeepbnaaEv.start, List.length, Nat.reduceAdd, Nat.reduceSub, List.reduceReplicate, List.append_eq, List.cons_append, List.nil_append]
    conv => arg 4; simp only [heapOf]
    try conv => arg 5; simp only [List.length, Nat.reduceAdd]
    try conv => arg 6; simp only [List.length, Nat.reduceAdd]
    refine EVgo9 (hl') (h7) trivial trivial trivial trivial trivial trivial trivial trivial trivial trivial ?_
    exact EVret trivial
end
end Go.Proofs.YtppnijapeepbnaaR
