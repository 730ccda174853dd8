/- Evf17F6: a part of the proof. -/
import Derived.Test.YtppnijapeepbnaaEvf17F5
open Go Go.Proofs.YtppnijapeepbnaaEv Go.Proofs.YtppnijapeepbnaaR Go.IntWalk Go.Proofs
set_option maxRecDepth 20000
set_option maxHeartbeats 16000000
set_option linter.unusedVariables false
set_option linter.unusedSimpArgs false
namespace Go.Proofs.YtppnijapeepbnaaR
theorem putF_ne (m : List Np) (x : Np) : putF m x ≠ [] := by unfold putF; simp
/-- behind x all are later -/
theorem behind {s p r : List Np} {x y : Np} (h : p ++ y :: r = putF s x) (hn : hasN s x.1 = false) (hp : hasN p x.1 = true) : x.2 < y.2 := by
  unfold putF at h
  generalize hA : s.filter (fun y => decide (y.2 ≤ x.2)) = A at h
  have hAn : hasN A x.1 = false := by rw [← hA]; exact hasN_no.2 fun y hy => hasN_no.1 hn y (List.mem_filter.1 hy).1
  rcases List.append_eq_append_iff.1 h with ⟨a, h1, h2⟩ | ⟨a, h1, h2⟩
  · exfalso
    obtain ⟨z, hz, e⟩ := hasN_iff.1 hp
    exact hasN_no.1 hAn z (by rw [h1]; exact List.mem_append_left _ hz) e
  · cases a with
    | nil =>
      rw [List.append_nil] at h1
      rw [h1, hAn] at hp
      cases hp
    | cons c a =>
      simp only [List.cons_append, List.cons.injEq] at h2
      have : y ∈ s.filter (fun y => decide (x.2 < y.2)) := by rw [h2.2]; simp
      exact of_decide_eq_true (List.mem_filter.1 this).2
theorem first_le {m p r : List Np} {x y : Np} (hm : Srt (x :: m)) (h : p ++ y :: r = x :: m) : ¬ y.2 < x.2 := by
  have hy : y ∈ x :: m := by rw [← h]; simp
  rcases List.mem_cons.1 hy with rfl | hy
  · omega
  · have := (List.pairwise_cons.1 hm).1 y hy
    omega
theorem hasN_snoc (p : List Np) (x : Np) (i : Int) : hasN (p ++ [x]) i = (hasN p i || (i == x.1)) := by unfold hasN; rw [List.any_append]; simp
section
variable {cf : CF} (hcf : cf = ev env)
include hcf
theorem s6 (l : List Np) (id wake : Int) : Sp cf 6 [slN l, .int .i64 id, .int .i64 wake] (.bool true) := by
  have h7 := s7 hcf
  refine sp_of hcf env6 ?_
  by_cases hl : l.length ≤ 30
  · have hl' : ¬ (l.length : Int) > 30 := by omega
    have h11 := s11 hcf l (by omega)
    have h10 := s10 hcf env_but l (by omega)
    cases hsb : saneB l with
    | false =>
      rw [hsb] at h10
      simp only [slN] at *
      conv => arg 2; simp only [ir6]
      conv => arg 3; simp only [ir6, Go.Proofs.YtppnijapeepbnaaEv.start, List.length, Nat.reduceAdd, Nat.reduceSub, List.reduceReplicate, List.append_eq, List.cons_append, List.nil_append]
      conv => arg 4; simp only [heapOf]
      try conv => arg 5; simp only [List.length, Nat.reduceAdd]
      try conv => arg 6; simp only [List.length, Nat.reduceAdd]
      refine EVgo9 (hl') (h7) (h11) (h10) trivial trivial trivial trivial trivial trivial trivial trivial ?_
      exact EVret trivial
    | true =>
      rw [hsb] at h10
      have hf := sane_iff.1 hsb
      have hsl := saneL_id hf
      have h8 := s8 hcf l (id, wake) (by omega) (by have := (saneL_fit l).len; omega)
      have hpl := putL_len l (id, wake)
      have hpe := putL_eq l (id, wake)
      unfold putOk at h8
      rw [hsl] at h8 hpe
      by_cases hok : mayB (id, wake) = true ∧ hasN l id = false
      · rw [if_pos hok] at hpe
        have hfm : Fit (putF l (id, wake)) := hf.put hok.1 hok.2
        have hkp := keepN_put (x := (id, wake)) hf.srt hok.2
        have hbh := fun p r y h hp => behind (s := l) (p := p) (r := r) (x := (id, wake)) (y := y) h hok.2 hp
        have hml := putF_len l (id, wake) hf.srt
        have hne := putF_ne l (id, wake)
        have hhas : hasN (putF l (id, wake)) id = true := hasN_iff.2 ⟨(id, wake), mem_putF.2 (.inl rfl), rfl⟩
        have h8 : Sp cf 8 [slN l, .int .i64 id, .int .i64 wake] (.tup [slN (putF l (id, wake)), .bool true]) := by
          rw [← hpe]
          have := h8
          rw [hok.1, hok.2] at this
          exact this
        generalize putF l (id, wake) = m at *
        have hsm := saneL_id hfm
        have h16 := s16 hcf m id (by omega)
        have h18 := s18 hcf m (by omega)
        have h10m := s10 hcf env_but m (by omega)
        rw [hsm] at h16 h18
        rw [hkp] at h16
        rw [sane_iff.2 hfm] at h10m
        have hd : decide ((l.length : Int) < (m.length : Int)) = true := decide_eq_true (by omega)
        rw [hd] at h16
        have h13 := s13 hcf l (by omega)
        have h12 := s12 hcf l (by omega)
        have hsrt := hfm.srt
        have hlw : IntKind.i64.wrap ((l.length : Int) + 1) = (m.length : Int) := by rw [i64_in _ (by omega), hml]; simp
        have q1 : ((m.length : Int) == (m.length : Int)) = true := beq_self_eq_true _
        obtain ⟨x0, m0, hm0⟩ : ∃ x0 m0, m = x0 :: m0 := by cases m with | nil => exact absurd rfl hne | cons a b => exact ⟨_, _, rfl⟩
        have hnx : nextN m = .tup [.int .i64 x0.2, .bool true] := by rw [hm0]; rfl
        rw [hnx] at h18
        have hfl := fun p r y h => first_le (x := x0) (m := m0) (p := p) (r := r) (y := y) (hm0 ▸ hsrt) h
        generalize x0.2 = n0 at *
        simp only [slN] at *
        conv => arg 2; simp only [ir6]
        conv => arg 3; simp only [ir6, Go.Proofs.YtppnijapeepbnaaEv.start, List.length, Nat.reduceAdd, Nat.reduceSub, List.reduceReplicate, List.append_eq, List.cons_append, List.nil_append]
        conv => arg 4; simp only [heapOf]
        try conv => arg 5; simp only [List.length, Nat.reduceAdd]
        try conv => arg 6; simp only [List.length, Nat.reduceAdd]
        refine EVgo9 (hl') (h7) (h11) (h10) (h8) (h16) (h18) trivial trivial trivial trivial trivial ?_
        refine WC.loop (T' := _) (H' := _) (n' := _) rfl ((?_ : ∀ (r p : List Np), p ++ r = m →
          WC cf _ (mkT 118 [(0, .sl l.length false (flat encN l)), (1, .int .i64 id), (2, .int .i64 wake), (7, .bool true), (8, .sl m.length false (flat encN m)), (10, .sl l.length false (flat encN l)), (11, .bool true), (12, .int .i64 n0), (13, .bool true), (14, .bool (hasN p id)), (15, .int .i64 (p.length : Nat))]) [] 0 0 _) m [] rfl)
        intro r
        induction r with
        | nil =>
          intro p hp
          rw [List.append_nil] at hp
          rw [hp, hhas]
          conv => arg 3; simp only [mkT, putT, List.reduceReplicate, List.set]
          refine EVgl9 trivial trivial trivial trivial trivial trivial trivial trivial trivial trivial trivial trivial ?_
          refine EVgo9 (And.intro (hlw) (q1)) (h13) (h12) (h10m) trivial trivial trivial trivial trivial trivial trivial trivial ?_
          exact EVret trivial
        | cons x r ih =>
          intro p hp
          have hnl := hfl p r x (by rw [← hm0]; exact hp)
          have hbx := hbh p r x hp
          have hsn := hasN_snoc p x id
          obtain ⟨x, y⟩ := x
          have hlen : m.length = p.length + (r.length + 1) := by rw [← hp]; simp
          have hlt : (p.length : Int) < (m.length : Int) := by omega
          have hw : IntKind.i64.wrap ((p.length : Int) + 1) = ((p.length + 1 : Nat) : Int) := by rw [i64_in _ (by omega)]; simp
          have e0 := mid_N hp
          have hih := ih (p ++ [(x, y)]) (by rw [List.append_assoc]; exact hp)
          rw [snoc_len, hsn] at hih
          have hxe : (id == x) = (x == id) := by
            by_cases h : id = x
            · subst h; rfl
            · rw [beq_eq_false_iff_ne.2 h, beq_eq_false_iff_ne.2 (Ne.symm h)]
          cases hb : hasN p id with
          | true =>
            rw [hb] at hih hbx
            have hyw : ¬ y ≤ wake := by have := hbx rfl; simp only at this; omega
            conv => arg 3; simp only [mkT, putT, List.reduceReplicate, List.set]
            refine EVgo9 (And.intro (hlt) ( And.intro (hw) ( And.intro (e0) ( And.intro (hnl) (hyw))))) trivial trivial trivial trivial trivial trivial trivial trivial trivial trivial trivial ?_
            exact WC.loop rfl hih
          | false =>
            rw [hb] at hih
            have hih' : WC cf _ _ _ _ _ _ := hih
            rw [Bool.false_or, hxe] at hih'
            conv => arg 3; simp only [mkT, putT, List.reduceReplicate, List.set]
            refine EVgo9 (And.intro (hlt) ( And.intro (hw) ( And.intro (e0) (hnl)))) trivial trivial trivial trivial trivial trivial trivial trivial trivial trivial trivial ?_
            exact WC.loop rfl hih'
      · rw [if_neg hok] at hpe
        have hkb : (mayB (id, wake) && !hasN l id) = false := by
          cases h1 : mayB (id, wake) with
          | false => rfl
          | true => cases h2 : hasN l id with
            | true => rfl
            | false => exact absurd ⟨h1, h2⟩ hok
        have h8 : Sp cf 8 [slN l, .int .i64 id, .int .i64 wake] (.tup [slN l, .bool false]) := by
          rw [← hkb]
          have := h8
          rw [hpe] at this
          exact this
        have h13 := s13 hcf l (by omega)
        have h12 := s12 hcf l (by omega)
        simp only [slN] at *
        conv => arg 2; simp only [ir6]
        conv => arg 3; simp only [ir6, Go.Proofs.YtppnijapeepbnaaEv.start, List.length, Nat.reduceAdd, Nat.reduceSub, List.reduceReplicate, List.append_eq, List.cons_append, List.nil_append]
        conv => arg 4; simp only [heapOf]
        try conv => arg 5; simp only [List.length, Nat.reduceAdd]
        try conv => arg 6; simp only [List.length, Nat.reduceAdd]
        refine EVgo9 (hl') (h7) (h11) (h10) (h8) (h13) (h12) trivial trivial trivial trivial trivial ?_
        exact EVret trivial
  · have hl' : (l.length : Int) > 30 := by omega
    simp only [slN]
    conv => arg 2; simp only [ir6]
    conv => arg 3; simp only [ir6, Go.Proofs.YtppnijapeepbnaaEv.start, List.length, Nat.reduceAdd, Nat.reduceSub, List.reduceReplicate, List.append_eq, List.cons_append, List.nil_append]
    conv => arg 4; simp only [heapOf]
    try conv => arg 5; simp only [List.length, Nat.reduceAdd]
    try conv => arg 6; simp only [List.length, Nat.reduceAdd]
    refine EVgo9 (hl') (h7) trivial trivial trivial trivial trivial trivial trivial trivial trivial trivial ?_
    exact EVret trivial
end
end Go.Proofs.YtppnijapeepbnaaR
