/- QueueFirst. -/
import Derived.Test.YtoihpjpgihhcjaaEvf16E1
open Go Go.Proofs.YtoihpjpgihhcjaaEv Go.Proofs.YtoihpjpgihhcjaaR Go.IntWalk Go.Proofs
set_option maxRecDepth 20000
set_option maxHeartbeats 8000000
set_option linter.unusedVariables false
set_option linter.unusedSimpArgs false
namespace Go.Proofs.YtoihpjpgihhcjaaR
theorem k_eqS3 {cf : CF} {new : Nat} {T : List PV} {H : Heap} {x y : X} {a b c : Int} (hx : valT T x = .agg [.int .i64 a, .int .i64 b, .int .i64 c]) (hy : valT T y = .agg [.int .i64 a, .int .i64 b, .int .i64 c]) : EK cf (.eqS true [0, 0, 0] x y) new T H (.bool false) [] := ⟨by
  simp only [evalK, hx, hy, List.map_cons, List.map_nil, kindOf, if_true, cellsEq, cellEq, beq_self_eq_true, Bool.and_self, Bool.not_true]⟩
section
variable {cf : CF} (hcf : cf = ev env)
include hcf
theorem s3 (q : Qu) : Sp cf 3 [encQ q] (.bool true) := by
  have h8 := s8 hcf
  refine sp_of hcf env3 ?_
  obtain ⟨nx, l⟩ := q
  by_cases hl : l.length ≤ 30
  rotate_left
  · have hl' : (l.length : Int) > 30 := by omega
    simp only [encQ, slX]
    conv => arg 2; simp only [ir3]
    conv => arg 3; simp only [ir3, Go.Proofs.YtoihpjpgihhcjaaEv.start, List.length, Nat.reduceAdd, Nat.reduceSub, List.reduceReplicate, List.append_eq, List.cons_append, List.nil_append]
    conv => arg 4; simp only [heapOf]
    try conv => arg 5; simp only [List.length, Nat.reduceAdd]
    try conv => arg 6; simp only [List.length, Nat.reduceAdd]
    refine EVgo9 (hl') (h8) trivial trivial trivial trivial trivial trivial trivial trivial trivial trivial ?_
    exact EVret trivial
  have hl' : ¬ (l.length : Int) > 30 := by omega
  have h10 := s10 hcf (nx, l) (by simp only; omega)
  have h9 := s9 hcf (nx, l) (by simp only; omega)
  have h12 := fun m => s12 hcf (nx, m)
  cases hs : saneB nx l with
  | false =>
    simp only [hs, encQ, slX] at *
    conv => arg 2; simp only [ir3]
    conv => arg 3; simp only [ir3, Go.Proofs.YtoihpjpgihhcjaaEv.start, List.length, Nat.reduceAdd, Nat.reduceSub, List.reduceReplicate, List.append_eq, List.cons_append, List.nil_append]
    conv => arg 4; simp only [heapOf]
    try conv => arg 5; simp only [List.length, Nat.reduceAdd]
    try conv => arg 6; simp only [List.length, Nat.reduceAdd]
    refine EVgo9 (hl') (h8) (h10) (h9) trivial trivial trivial trivial trivial trivial trivial trivial ?_
    exact EVret trivial
  | true =>
    have hf := sane_iff.1 hs
    have h11 := s11 hcf (nx, l) (by simp only; omega)
    rw [show nthQ (nx, l) 0 = if l = [] then ((nx, l), 0, false) else ((nx, delK l 0), (l.getD 0 nilX).1, true) by
      unfold nthQ
      rw [saneQ_id (q := (nx, l)) hf]
      have : (0 : Int).toNat % l.length = 0 := Nat.zero_mod _
      rw [this]] at h11
    cases l with
    | nil =>
      rw [if_pos rfl] at h11
      have hz : (((([] : List It).length : Nat) : Int) == 0) = true := rfl
      simp only [hs, encQ, slX, encN] at *
      conv => arg 2; simp only [ir3]
      conv => arg 3; simp only [ir3, Go.Proofs.YtoihpjpgihhcjaaEv.start, List.length, Nat.reduceAdd, Nat.reduceSub, List.reduceReplicate, List.append_eq, List.cons_append, List.nil_append]
      conv => arg 4; simp only [heapOf]
      try conv => arg 5; simp only [List.length, Nat.reduceAdd]
      try conv => arg 6; simp only [List.length, Nat.reduceAdd]
      refine EVgo9 (And.intro (hl') (hz)) (h8) (h10) (h9) (h11) trivial trivial trivial trivial trivial trivial trivial ?_
      exact EVret trivial
    | cons x0 m =>
      rw [if_neg (by simp)] at h11
      have hdel : delK (x0 :: m) 0 = m := rfl
      have hx0 : ((x0 :: m).getD 0 nilX).1 = x0.1 := rfl
      rw [hdel, hx0] at h11
      have h12 := h12 m (by simp only; have := hf.len; simp at this; omega)
      have hm : x0 :: m = x0 :: m := rfl
      have hlm : (x0 :: m).length = m.length + 1 := rfl
      generalize hL : x0 :: m = l at *
      have hidn := hf.idn
      have hsrt := hf.srt
      rw [← hL, List.pairwise_cons] at hidn hsrt
      obtain ⟨k0, hk0⟩ : ∃ k : Nat, k = 0 := ⟨0, rfl⟩
      have e0 : (l.getD k0 nilX) = x0 := by rw [← hL, hk0]; rfl
      have hk1 : k0 < l.length := by omega
      have eA := at_X hk1
      rw [e0] at eA
      have hkl : (k0 : Int) < (l.length : Int) := by omega
      have hk2 : ¬ ((k0 : Int) < 0) := by omega
      have w1 : IntKind.i64.wrap ((l.length : Int) - 1) = (m.length : Int) := by rw [i64_in _ (by omega)]; omega
      have q1 : ((m.length : Int) != (m.length : Int)) = false := bne_self_eq_false _
      have q2 : (nx != nx) = false := bne_self_eq_false _
      obtain ⟨a0, b0, c0⟩ := x0
      simp only [hs, encQ, slX, encN] at *
      conv => arg 2; simp only [ir3]
      conv => arg 3; simp only [ir3, Go.Proofs.YtoihpjpgihhcjaaEv.start, List.length, Nat.reduceAdd, Nat.reduceSub, List.reduceReplicate, List.append_eq, List.cons_append, List.nil_append]
      conv => arg 4; simp only [heapOf]
      try conv => arg 5; simp only [List.length, Nat.reduceAdd]
      try conv => arg 6; simp only [List.length, Nat.reduceAdd]
      refine EVgo9 (hl') (h8) (h10) (h9) (h11) trivial trivial trivial trivial trivial trivial trivial ?_
      refine WC.loop (T' := _) (H' := _) (n' := _) rfl ((?_ : ∀ (r p : List It) (a : Int), p ++ r = l → (a = if p.length = 0 then -1 else (k0 : Int)) →
        WC cf _ (mkT 139 [(1, .ptr 0 0), (3, .bool true), (4, .ptr 1 0), (5, .int .i64 a0), (7, .int .i64 a), (8, .int .i64 (p.length : Nat))]) [(0, .box [.int .i64 nx, .sl l.length false (flat encX l)]), (1, .box [.int .i64 nx, .sl m.length false (flat encX m)])] 0 2 _) l [] (-1) rfl rfl)
      intro r
      induction r with
      | cons x r ih =>
        intro p a hp ha
        have hln : l.length = p.length + (r.length + 1) := by rw [← hp]; simp
        have hlt : (p.length : Int) < (l.length : Int) := by omega
        have hw : IntKind.i64.wrap ((p.length : Int) + 1) = ((p.length + 1 : Nat) : Int) := by rw [i64_in _ (by omega)]; simp
        obtain ⟨x1, x2, x3⟩ := x
        have eK := mid_X hp
        by_cases hp0 : p.length = 0
        · have hx : x1 = a0 := by
            rw [List.length_eq_zero_iff] at hp0
            rw [← hL, hp0] at hp
            simp only [List.nil_append, List.cons.injEq, Prod.mk.injEq] at hp
            exact hp.1.1
          have hx' : (x1 == a0) = true := beq_iff_eq.2 hx
          have hih := ih (p ++ [(x1, x2, x3)]) (p.length : Int) (by rw [List.append_assoc]; exact hp) (by rw [if_neg (by simp), hp0, hk0])
          rw [snoc_len] at hih
          conv => arg 3; simp only [mkT, putT, List.reduceReplicate, List.set]
          refine EVgo9 (And.intro (hlt) ( And.intro (hw) ( And.intro (eK) (hx')))) trivial trivial trivial trivial trivial trivial trivial trivial trivial trivial trivial ?_
          exact WC.loop rfl hih
        · have hx : x1 ≠ a0 := by
            rw [← hL] at hp
            obtain ⟨y, p', hy⟩ := List.exists_cons_of_ne_nil (l := p) (by intro e; rw [e] at hp0; exact hp0 rfl)
            rw [hy] at hp
            simp only [List.cons_append, List.cons.injEq] at hp
            have := hidn.1 (x1, x2, x3) (by rw [← hp.2]; simp)
            exact fun e => this e.symm
          have hx' : (x1 == a0) = false := beq_eq_false_iff_ne.2 hx
          have hih := ih (p ++ [(x1, x2, x3)]) a (by rw [List.append_assoc]; exact hp) (by rw [ha, snoc_len, if_neg hp0, if_neg (by omega)])
          rw [snoc_len] at hih
          conv => arg 3; simp only [mkT, putT, List.reduceReplicate, List.set]
          refine EVgo9 (And.intro (hlt) ( And.intro (hw) ( And.intro (eK) (hx')))) trivial trivial trivial trivial trivial trivial trivial trivial trivial trivial trivial ?_
          exact WC.loop rfl hih
      | nil =>
        intro p a hp ha
        rw [List.append_nil] at hp
        have ha' : a = (k0 : Int) := by rw [ha, if_neg (by rw [hp]; omega)]
        rw [ha', hp]
        clear ha ha' hp a p
        conv => arg 3; simp only [mkT, putT, List.reduceReplicate, List.set]
        refine EVgl9 (And.intro (hk2) ( And.intro (w1) ( And.intro (q1) (q2)))) trivial trivial trivial trivial trivial trivial trivial trivial trivial trivial trivial ?_
        refine WC.loop (T' := _) (H' := _) (n' := _) rfl ((?_ : ∀ (r p : List It), p ++ r = l →
          WC cf _ (mkT 139 [(1, .ptr 0 0), (3, .bool true), (4, .ptr 1 0), (7, .int .i64 (k0 : Nat)), (9, .int .i64 (p.length : Nat))]) [(0, .box [.int .i64 nx, .sl l.length false (flat encX l)]), (1, .box [.int .i64 nx, .sl m.length false (flat encX m)])] 0 2 _) l [] rfl)
        intro r
        induction r with
        | cons x r ih =>
          intro p hp
          have hln : l.length = p.length + (r.length + 1) := by rw [← hp]; simp
          have hlt : (p.length : Int) < (l.length : Int) := by omega
          have hw : IntKind.i64.wrap ((p.length : Int) + 1) = ((p.length + 1 : Nat) : Int) := by rw [i64_in _ (by omega)]; simp
          have hih := ih (p ++ [x]) (by rw [List.append_assoc]; exact hp)
          rw [snoc_len] at hih
          have hah : x = (a0, b0, c0) ∨ Ahd (a0, b0, c0) x := by
            have hx : x ∈ l := by rw [← hp]; simp
            rw [← hL] at hx
            rcases List.mem_cons.1 hx with h | h
            · exact .inl h
            · exact .inr (hsrt.1 x h)
          obtain ⟨x1, x2, x3⟩ := x
          have eK := mid_X hp
          have g1 : ¬ (x2 > b0) := by
            rcases hah with h | h
            · simp only [Prod.mk.injEq] at h; omega
            · unfold Ahd at h; simp only at h; omega
          by_cases he : x2 = b0
          · have he' : (x2 == b0) = true := beq_iff_eq.2 he
            have g2 : ¬ (x3 < c0) := by
              rcases hah with h | h
              · simp only [Prod.mk.injEq] at h; omega
              · unfold Ahd at h; simp only at h; omega
            conv => arg 3; simp only [mkT, putT, List.reduceReplicate, List.set]
            refine EVgo9 (And.intro (hlt) ( And.intro (hw) ( And.intro (eK) ( And.intro (eA) ( And.intro (hkl) ( And.intro (g1) ( And.intro (he') (g2)))))))) trivial trivial trivial trivial trivial trivial trivial trivial trivial trivial trivial ?_
            exact WC.loop rfl hih
          · have he' : (x2 == b0) = false := beq_eq_false_iff_ne.2 he
            conv => arg 3; simp only [mkT, putT, List.reduceReplicate, List.set]
            refine EVgo9 (And.intro (hlt) ( And.intro (hw) ( And.intro (eK) ( And.intro (eA) ( And.intro (hkl) ( And.intro (g1) (he'))))))) trivial trivial trivial trivial trivial trivial trivial trivial trivial trivial trivial ?_
            exact WC.loop rfl hih
        | nil =>
          intro p hp
          rw [List.append_nil] at hp
          rw [hp]
          clear hp p
          conv => arg 3; simp only [mkT, putT, List.reduceReplicate, List.set]
          refine EVgl9 trivial trivial trivial trivial trivial trivial trivial trivial trivial trivial trivial trivial ?_
          refine WC.loop (T' := _) (H' := _) (n' := _) rfl ((?_ : ∀ (r p : List It), p ++ r = m →
            WC cf _ (mkT 139 [(1, .ptr 0 0), (3, .bool true), (4, .ptr 1 0), (11, .int .i64 (p.length : Nat))]) [(0, .box [.int .i64 nx, .sl l.length false (flat encX l)]), (1, .box [.int .i64 nx, .sl m.length false (flat encX m)])] 0 2 _) m [] rfl)
          intro r
          induction r with
          | nil =>
            intro p hp
            rw [List.append_nil] at hp
            rw [hp]
            conv => arg 3; simp only [mkT, putT, List.reduceReplicate, List.set]
            refine EVgl9 trivial trivial trivial trivial trivial trivial trivial trivial trivial trivial trivial trivial ?_
            exact EVret trivial
          | cons x r ih =>
            intro p hp
            have hln : m.length = p.length + (r.length + 1) := by rw [← hp]; simp
            have hlt : (p.length : Int) < (m.length : Int) := by omega
            have hw : IntKind.i64.wrap ((p.length : Int) + 1) = ((p.length + 1 : Nat) : Int) := by rw [i64_in _ (by omega)]; simp
            have hlt2 : ((p.length + 1 : Nat) : Int) < (l.length : Int) := by omega
            have hih := ih (p ++ [x]) (by rw [List.append_assoc]; exact hp)
            rw [snoc_len] at hih
            obtain ⟨x1, x2, x3⟩ := x
            have eK := mid_X hp
            have eL := mid_X (m := l) (p := (a0, b0, c0) :: p) (r := r) (a := x1) (b := x2) (c := x3) (by rw [← hL, ← hp]; rfl)
            rw [List.length_cons] at eL
            conv => arg 3; simp only [mkT, putT, List.reduceReplicate, List.set]
            refine EVgo9 (And.intro (hlt) ( And.intro (hw) ( And.intro (eK) ( And.intro (eL) (hlt2))))) (h12) trivial trivial trivial trivial trivial trivial trivial trivial (@k_eqS3 cf) trivial ?_
            exact WC.loop rfl hih
end
end Go.Proofs.YtoihpjpgihhcjaaR
