/- Evs13O: a part of the proof. -/
import Derived.Test.YtklanpanmndakaaEvs13N
open Go Go.Proofs.YtklanpanmndakaaEv Go.Proofs.YtklanpanmndakaaR Go.IntWalk
set_option maxRecDepth 20000
set_option maxHeartbeats 8000000
set_option linter.unusedVariables false
set_option linter.unusedSimpArgs false
namespace Go.Proofs.YtklanpanmndakaaR
section
variable {cf : CF} (hcf : cf = ev env)
include hcf
theorem s7 (m : Tk) (a b n k : Int) : cf 7 [tk false false m, .int .i64 a, .int .i64 b, .int .i64 n, .int .i64 k] [] = some (.bool true, []) := by
  have h11 := s11 hcf false false m
  have h13 := s13 hcf false false m
  have h12 := s12 hcf false false m
  refine ev_ofC' hcf env7 ?_
  cases hf : (decide ((m.d.length : Int) ≤ 100) && decide ((m.r.length : Int) ≤ 100)) with
  | false =>
    rw [hf] at h11
    simp only [tk] at h11 ⊢
    conv => arg 2; simp only [ir7]
    conv => arg 3; simp only [ir7, Go.Proofs.YtklanpanmndakaaEv.start, List.length, Nat.reduceAdd, Nat.reduceSub, List.reduceReplicate, List.append_eq, List.cons_append, List.nil_append]
    conv => arg 4; simp only [heapOf]
    try conv => arg 5; simp only [List.length, Nat.reduceAdd]
    try conv => arg 6; simp only [List.length, Nat.reduceAdd]
    refine EVgo2 trivial (s10 hcf) (h11) trivial trivial ?_
    exact WQ.ret rfl
  | true =>
    rw [hf] at h11
    cases hs : saneB m with
    | false =>
      rw [hs] at h12
      simp only [tk] at h11 h12 h13 ⊢
      conv => arg 2; simp only [ir7]
      conv => arg 3; simp only [ir7, Go.Proofs.YtklanpanmndakaaEv.start, List.length, Nat.reduceAdd, Nat.reduceSub, List.reduceReplicate, List.append_eq, List.cons_append, List.nil_append]
      conv => arg 4; simp only [heapOf]
      try conv => arg 5; simp only [List.length, Nat.reduceAdd]
      try conv => arg 6; simp only [List.length, Nat.reduceAdd]
      refine EVgo9 trivial (s10 hcf) (h11) (h13) (h12) trivial trivial trivial trivial trivial trivial trivial ?_
      exact WQ.ret rfl
    | true =>
      rw [hs] at h12
      have hS := (sane_iff m).1 hs
      obtain ⟨hd, hr, hth, hpl, hh⟩ := id hS
      obtain ⟨d, r, th, pl, h⟩ := m
      simp only at hd hr hth hpl hh
      by_cases h0 : h = 0
      · subst h0
        by_cases hr56 : (r.length : Int) > 56
        · simp only [tk] at h11 h12 h13 ⊢
          conv => arg 2; simp only [ir7]
          conv => arg 3; simp only [ir7, Go.Proofs.YtklanpanmndakaaEv.start, List.length, Nat.reduceAdd, Nat.reduceSub, List.reduceReplicate, List.append_eq, List.cons_append, List.nil_append]
          conv => arg 4; simp only [heapOf]
          try conv => arg 5; simp only [List.length, Nat.reduceAdd]
          try conv => arg 6; simp only [List.length, Nat.reduceAdd]
          refine EVgo9 (hr56) (s10 hcf) (h11) (h13) (h12) trivial trivial trivial trivial trivial trivial trivial ?_
          exact WQ.ret rfl
        by_cases hd60 : (d.length : Int) > 60
        · simp only [tk] at h11 h12 h13 ⊢
          conv => arg 2; simp only [ir7]
          conv => arg 3; simp only [ir7, Go.Proofs.YtklanpanmndakaaEv.start, List.length, Nat.reduceAdd, Nat.reduceSub, List.reduceReplicate, List.append_eq, List.cons_append, List.nil_append]
          conv => arg 4; simp only [heapOf]
          try conv => arg 5; simp only [List.length, Nat.reduceAdd]
          try conv => arg 6; simp only [List.length, Nat.reduceAdd]
          refine EVgo9 (And.intro (hr56) (hd60)) (s10 hcf) (h11) (h13) (h12) trivial trivial trivial trivial trivial trivial trivial ?_
          exact WQ.ret rfl
        obtain ⟨q1, q2, q3, q4⟩ := addr_at hth hpl
        have la := lo_at a
        have lb := lo_at b
        have hl4 : ∀ x y z w : Int, (r ++ [x, y, z, w]).length = r.length + 4 := fun x y z w => by simp
        have h29a := s29 hcf false false ⟨d, r, th, pl, 0⟩ (lo a) hs la (by simp only; omega)
        simp only at h29a
        generalize hA : addr th pl = A at *
        have hsx : saneB ⟨d, r ++ [0, (d.length : Int), A, -1], lo a / 4096, lo a % 4096, (r.length : Int) + 3⟩ = true := (sane_iff _).2 ⟨by simp only; omega, by simp only [hl4]; omega, by simp only; omega, by simp only; omega, by simp only [hl4]; omega⟩
        have h29b := s29 hcf false false ⟨d, r ++ [0, (d.length : Int), A, -1], lo a / 4096, lo a % 4096, (r.length : Int) + 3⟩ (lo b) hsx lb (by simp only [hl4]; omega)
        simp only [at_addr la] at h29b
        generalize hX : r ++ [0, (d.length : Int), A, -1] = X at *
        have hXl : X.length = r.length + 4 := by rw [← hX]; exact hl4 _ _ _ _
        have hsy : saneB ⟨d, X ++ [(r.length : Int) + 3, (d.length : Int), lo a, -1], lo b / 4096, lo b % 4096, (X.length : Int) + 3⟩ = true := (sane_iff _).2 ⟨by simp only; omega, by simp only [List.length_append, List.length_cons, List.length_nil]; omega, by simp only; omega, by simp only; omega, by simp only [List.length_append, List.length_cons, List.length_nil]; omega⟩
        obtain ⟨c1, h26y⟩ := s26 hcf false false d X ((r.length : Int) + 3) (d.length : Int) (lo a) [-1] (lo b / 4096) (lo b % 4096) ((X.length : Int) + 3) n hsy rfl la
        have hcutx : cut ((r.length : Int) + 3) X.length = (r.length : Int) + 3 := by
          unfold cut
          rw [if_pos ((stands_iff _ _).2 (by omega))]
        rw [cnt_nat _ (by omega), deepL_all, hcutx] at h26y
        have hsz : saneB ⟨d ++ [n], X, lo a / 4096, lo a % 4096, (r.length : Int) + 3⟩ = true := (sane_iff _).2 ⟨by simp only [List.length_append, List.length_cons, List.length_nil]; omega, by simp only; omega, by simp only; omega, by simp only; omega, by simp only; omega⟩
        have hsz' := hsz
        rw [← hX] at hsz'
        obtain ⟨c2, h26z⟩ := s26 hcf false c1 (d ++ [n]) r 0 (d.length : Int) A [-1] (lo a / 4096) (lo a % 4096) ((r.length : Int) + 3) k hsz' rfl ⟨q3, q4⟩
        have hcut0 : cut 0 r.length = 0 := by
          unfold cut
          split <;> rfl
        rw [hX, cnt_nat _ (by omega), deepL_snoc, hcut0, q1, q2] at h26z
        have hsw : saneB ⟨d ++ [k], r, th, pl, 0⟩ = true := (sane_iff _).2 ⟨by simp only [List.length_append, List.length_cons, List.length_nil]; omega, by simp only; omega, hth, hpl, .inl rfl⟩
        have h26w := s26a hcf false c2 ⟨d ++ [k], r, th, pl, 0⟩ n hsw rfl
        have h16 := s16 hcf c2 false r (by omega)
        have hb : ∀ x : Int, (x == x) = true := fun x => by simp
        have hbn : ∀ x : Int, (x != x) = false := fun x => by simp
        have hdl : ∀ x : Int, (d ++ [x]).length = d.length + 1 := fun x => by simp
        have hw1 : IntKind.i64.wrap ((d.length : Int) + 1) = ((d.length + 1 : Nat) : Int) := by rw [i64_in _ (by omega)]; simp
        have hlt : (d.length : Int) < ((d.length + 1 : Nat) : Int) := by omega
        have e1 := at_end d n
        have e2 := at_end d k
        simp only [tk, hdl] at h11 h12 h13 h29a h29b h26y h26z h26w ⊢
        conv => arg 2; simp only [ir7]
        conv => arg 3; simp only [ir7, Go.Proofs.YtklanpanmndakaaEv.start, List.length, Nat.reduceAdd, Nat.reduceSub, List.reduceReplicate, List.append_eq, List.cons_append, List.nil_append]
        conv => arg 4; simp only [heapOf]
        try conv => arg 5; simp only [List.length, Nat.reduceAdd]
        try conv => arg 6; simp only [List.length, Nat.reduceAdd]
        refine EVgo9 (And.intro (lo_def) ( And.intro (hr56) ( And.intro (hd60) ( And.intro (hb) ( And.intro (hbn) ( And.intro (hw1) ( And.intro (hlt) ( And.intro (e1) (e2))))))))) (s10 hcf) (h11) (h13) (h12) (h29a) (h29b) (h26y) (h26z) (h26w) trivial trivial ?_
        refine EVgo2 (And.intro (hb) ( And.intro (hbn) ( And.intro (hw1) ( And.intro (hlt) ( And.intro (e1) (e2)))))) (h16) trivial trivial trivial ?_
        refine WQ.ret ?_
        rfl
      · have hh0 : (h != 0) = true := by simp [h0]
        simp only [tk] at h11 h12 h13 ⊢
        conv => arg 2; simp only [ir7]
        conv => arg 3; simp only [ir7, Go.Proofs.YtklanpanmndakaaEv.start, List.length, Nat.reduceAdd, Nat.reduceSub, List.reduceReplicate, List.append_eq, List.cons_append, List.nil_append]
        conv => arg 4; simp only [heapOf]
        try conv => arg 5; simp only [List.length, Nat.reduceAdd]
        try conv => arg 6; simp only [List.length, Nat.reduceAdd]
        refine EVgo9 (hh0) (s10 hcf) (h11) (h13) (h12) trivial trivial trivial trivial trivial trivial trivial ?_
        exact WQ.ret rfl
end
end Go.Proofs.YtklanpanmndakaaR
