/- Evs13G: a part of the proof. -/
import Derived.Test.YtklanpanmndakaaEvs13E
open Go Go.Proofs.YtklanpanmndakaaEv Go.Proofs.YtklanpanmndakaaR Go.IntWalk
set_option maxRecDepth 20000
set_option maxHeartbeats 8000000
set_option linter.unusedVariables false
set_option linter.unusedSimpArgs false
namespace Go.Proofs.YtklanpanmndakaaR
section
variable {cf : CF} (hcf : cf = ev env)
include hcf
theorem s4b (m : Tk) (to x y : Int) (hto : -9223372036854775808 ≤ to ∧ to ≤ 9223372036854775807) (hr1 : m.r.length = 63) : cf 4 [tk false false m, .int .i64 to, .int .i64 x, .int .i64 y] [] = some (.bool true, []) := by
  have h11 := s11 hcf false false m
  have h13 := s13 hcf false false m
  have h12 := s12 hcf false false m
  refine ev_ofC' hcf env4 ?_
  cases hf : (decide ((m.d.length : Int) ≤ 100) && decide ((m.r.length : Int) ≤ 100)) with
  | false =>
    rw [hf] at h11
    simp only [tk] at h11 ⊢
    conv => arg 2; simp only [ir4]
    conv => arg 3; simp only [ir4, Go.Proofs.YtklanpanmndakaaEv.start, List.length, Nat.reduceAdd, Nat.reduceSub, List.reduceReplicate, List.append_eq, List.cons_append, List.nil_append]
    conv => arg 4; simp only [heapOf]
    try conv => arg 5; simp only [List.length, Nat.reduceAdd]
    try conv => arg 6; simp only [List.length, Nat.reduceAdd]
    refine EVgo2 trivial (s10 hcf) (h11) trivial trivial ?_
    exact WQ.ret rfl
  | true =>
    rw [hf] at h11
    cases hs : saneB m with
    | false =>
      rw [hs] at h12
      simp only [tk] at h11 h12 h13 ⊢
      conv => arg 2; simp only [ir4]
      conv => arg 3; simp only [ir4, Go.Proofs.YtklanpanmndakaaEv.start, List.length, Nat.reduceAdd, Nat.reduceSub, List.reduceReplicate, List.append_eq, List.cons_append, List.nil_append]
      conv => arg 4; simp only [heapOf]
      try conv => arg 5; simp only [List.length, Nat.reduceAdd]
      try conv => arg 6; simp only [List.length, Nat.reduceAdd]
      refine EVgo9 trivial (s10 hcf) (h11) (h13) (h12) trivial trivial trivial trivial trivial trivial trivial ?_
      exact WQ.ret rfl
    | true =>
      rw [hs] at h12
      have hS := (sane_iff m).1 hs
      have hcut := cut_le hS
      obtain ⟨hd, hr, hth, hpl, hh⟩ := id hS
      obtain ⟨q1, q2, q3, q4⟩ := addr_at hth hpl
      obtain ⟨d, r, th, pl, h⟩ := m
      simp only at hr1 hd hr hth hpl hh hcut q1 q2 q3 q4
      have h19 := fun c => s19 hcf false c ⟨d, r, th, pl, h⟩
      have hbx : (x != x) = false := by simp
      have hby : (y != y) = false := by simp
      have hbt : (to != to) = false := by simp
      have h18 := fun c => s18 hcf false c false false ⟨d, r, th, pl, h⟩ (by simp only; omega) (by simp only; omega)
      by_cases hv : 0 ≤ to ∧ to ≤ 4096004095
      · have hsE : saneB ⟨d, r ++ [addr th pl], to / 4096, to % 4096, h⟩ = true := (sane_iff _).2 (sn_push hS [addr th pl] (by simp only [List.length_cons, List.length_nil]; omega) (by omega) (by omega))
        have h14 := s14 hcf false false ⟨d, r, th, pl, h⟩ to hs hv (by simp only; omega)
        obtain ⟨c1, h17⟩ := s17 hcf false false d r (to / 4096) (to % 4096) h (addr th pl) hsE ⟨q3, q4⟩
        have h20 := s20 hcf (to / 4096) (to % 4096)
        rw [at_addr hv] at h20
        rw [q1, q2, hcut] at h17
        have a19 := h19 c1
        have a18 := h18 c1
        have hsK : saneB ⟨d, r ++ [x], th, pl, h⟩ = true := (sane_iff _).2 (sn_push hS [x] (by simp only [List.length_cons, List.length_nil]; omega) hth hpl)
        have h21 := s21 hcf false false ⟨d, r, th, pl, h⟩ x hs (by simp only; omega)
        obtain ⟨c2, h22⟩ := s22 hcf false false d r th pl h x hsK
        rw [hcut] at h22
        have b19 := h19 c2
        have b18 := h18 c2
        have h23 := s23o hcf false false ⟨d, r, th, pl, h⟩ x y hs (by simp only; omega)
        simp only [tk] at h11 h13 h12 h14 h17 a19 a18 h20 h21 h22 b19 b18 h23 ⊢
        conv => arg 2; simp only [ir4]
        conv => arg 3; simp only [ir4, Go.Proofs.YtklanpanmndakaaEv.start, List.length, Nat.reduceAdd, Nat.reduceSub, List.reduceReplicate, List.append_eq, List.cons_append, List.nil_append]
        conv => arg 4; simp only [heapOf]
        try conv => arg 5; simp only [List.length, Nat.reduceAdd]
        try conv => arg 6; simp only [List.length, Nat.reduceAdd]
        have hfull : ((r.length : Int) == 64) = false := by simp; omega
        have hgt : (62 : Int) < r.length := by omega
        refine EVgo9 (And.intro (hfull) ( And.intro (hgt) ( And.intro (hbx) ( And.intro (hby) (hbt))))) (s10 hcf) (h11) (h13) (h12) (h14) (h17) (a19) (a18) trivial trivial trivial ?_
        refine EVgo9 (And.intro (hfull) ( And.intro (hgt) ( And.intro (hbx) ( And.intro (hby) (hbt))))) (h20) (h21) (h22) (b19) (b18) (h23) (h13) trivial trivial trivial trivial ?_
        refine WQ.ret ?_
        rfl
      · have h14 := s14a hcf false false ⟨d, r, th, pl, h⟩ to hs hto hv
        have hsK : saneB ⟨d, r ++ [x], th, pl, h⟩ = true := (sane_iff _).2 (sn_push hS [x] (by simp only [List.length_cons, List.length_nil]; omega) hth hpl)
        have h21 := s21 hcf false false ⟨d, r, th, pl, h⟩ x hs (by simp only; omega)
        obtain ⟨c2, h22⟩ := s22 hcf false false d r th pl h x hsK
        rw [hcut] at h22
        have b19 := h19 c2
        have b18 := h18 c2
        have h23 := s23o hcf false false ⟨d, r, th, pl, h⟩ x y hs (by simp only; omega)
        simp only [tk] at h11 h13 h12 h14 h21 h22 b19 b18 h23 ⊢
        conv => arg 2; simp only [ir4]
        conv => arg 3; simp only [ir4, Go.Proofs.YtklanpanmndakaaEv.start, List.length, Nat.reduceAdd, Nat.reduceSub, List.reduceReplicate, List.append_eq, List.cons_append, List.nil_append]
        conv => arg 4; simp only [heapOf]
        try conv => arg 5; simp only [List.length, Nat.reduceAdd]
        try conv => arg 6; simp only [List.length, Nat.reduceAdd]
        have hfull : ((r.length : Int) == 64) = false := by simp; omega
        have hgt : (62 : Int) < r.length := by omega
        refine EVgo9 (And.intro (hfull) ( And.intro (hgt) ( And.intro (hbx) ( And.intro (hby) (hbt))))) (s10 hcf) (h11) (h13) (h12) (h14) (h21) (h22) (b19) trivial trivial trivial ?_
        refine EVgo9 (And.intro (hfull) ( And.intro (hgt) ( And.intro (hbx) ( And.intro (hby) (hbt))))) (b18) (h23) (h13) trivial trivial trivial trivial trivial trivial trivial trivial ?_
        refine WQ.ret ?_
        rfl
theorem s4c (m : Tk) (to x y : Int) (hto : -9223372036854775808 ≤ to ∧ to ≤ 9223372036854775807) (hr1 : m.r.length = 64) : cf 4 [tk false false m, .int .i64 to, .int .i64 x, .int .i64 y] [] = some (.bool true, []) := by
  have h11 := s11 hcf false false m
  have h13 := s13 hcf false false m
  have h12 := s12 hcf false false m
  refine ev_ofC' hcf env4 ?_
  cases hf : (decide ((m.d.length : Int) ≤ 100) && decide ((m.r.length : Int) ≤ 100)) with
  | false =>
    rw [hf] at h11
    simp only [tk] at h11 ⊢
    conv => arg 2; simp only [ir4]
    conv => arg 3; simp only [ir4, Go.Proofs.YtklanpanmndakaaEv.start, List.length, Nat.reduceAdd, Nat.reduceSub, List.reduceReplicate, List.append_eq, List.cons_append, List.nil_append]
    conv => arg 4; simp only [heapOf]
    try conv => arg 5; simp only [List.length, Nat.reduceAdd]
    try conv => arg 6; simp only [List.length, Nat.reduceAdd]
    refine EVgo2 trivial (s10 hcf) (h11) trivial trivial ?_
    exact WQ.ret rfl
  | true =>
    rw [hf] at h11
    cases hs : saneB m with
    | false =>
      rw [hs] at h12
      simp only [tk] at h11 h12 h13 ⊢
      conv => arg 2; simp only [ir4]
      conv => arg 3; simp only [ir4, Go.Proofs.YtklanpanmndakaaEv.start, List.length, Nat.reduceAdd, Nat.reduceSub, List.reduceReplicate, List.append_eq, List.cons_append, List.nil_append]
      conv => arg 4; simp only [heapOf]
      try conv => arg 5; simp only [List.length, Nat.reduceAdd]
      try conv => arg 6; simp only [List.length, Nat.reduceAdd]
      refine EVgo9 trivial (s10 hcf) (h11) (h13) (h12) trivial trivial trivial trivial trivial trivial trivial ?_
      exact WQ.ret rfl
    | true =>
      rw [hs] at h12
      have hS := (sane_iff m).1 hs
      have hcut := cut_le hS
      obtain ⟨hd, hr, hth, hpl, hh⟩ := id hS
      obtain ⟨q1, q2, q3, q4⟩ := addr_at hth hpl
      obtain ⟨d, r, th, pl, h⟩ := m
      simp only at hr1 hd hr hth hpl hh hcut q1 q2 q3 q4
      have h19 := fun c => s19 hcf false c ⟨d, r, th, pl, h⟩
      have hbx : (x != x) = false := by simp
      have hby : (y != y) = false := by simp
      have hbt : (to != to) = false := by simp
      have h18 := fun c => s18 hcf false c false false ⟨d, r, th, pl, h⟩ (by simp only; omega) (by simp only; omega)
      by_cases hv : 0 ≤ to ∧ to ≤ 4096004095
      · have h14 := s14o hcf false false ⟨d, r, th, pl, h⟩ to hs hv (by simp only; omega)
        have h21 := s21o hcf false false ⟨d, r, th, pl, h⟩ x hs (by simp only; omega)
        have h23 := s23o hcf false false ⟨d, r, th, pl, h⟩ x y hs (by simp only; omega)
        simp only [tk] at h11 h13 h12 h14 h21 h23 ⊢
        conv => arg 2; simp only [ir4]
        conv => arg 3; simp only [ir4, Go.Proofs.YtklanpanmndakaaEv.start, List.length, Nat.reduceAdd, Nat.reduceSub, List.reduceReplicate, List.append_eq, List.cons_append, List.nil_append]
        conv => arg 4; simp only [heapOf]
        try conv => arg 5; simp only [List.length, Nat.reduceAdd]
        try conv => arg 6; simp only [List.length, Nat.reduceAdd]
        have hfull : ((r.length : Int) == 64) = true := by simp; omega
        have hgt : (62 : Int) < r.length := by omega
        refine EVgo9 (And.intro (hfull) ( And.intro (hgt) ( And.intro (hbx) ( And.intro (hby) (hbt))))) (s10 hcf) (h11) (h13) (h12) (h14) (h21) (h23) trivial trivial trivial trivial ?_
        refine WQ.ret ?_
        rfl
      · have h14 := s14a hcf false false ⟨d, r, th, pl, h⟩ to hs hto hv
        have h21 := s21o hcf false false ⟨d, r, th, pl, h⟩ x hs (by simp only; omega)
        have h23 := s23o hcf false false ⟨d, r, th, pl, h⟩ x y hs (by simp only; omega)
        simp only [tk] at h11 h13 h12 h14 h21 h23 ⊢
        conv => arg 2; simp only [ir4]
        conv => arg 3; simp only [ir4, Go.Proofs.YtklanpanmndakaaEv.start, List.length, Nat.reduceAdd, Nat.reduceSub, List.reduceReplicate, List.append_eq, List.cons_append, List.nil_append]
        conv => arg 4; simp only [heapOf]
        try conv => arg 5; simp only [List.length, Nat.reduceAdd]
        try conv => arg 6; simp only [List.length, Nat.reduceAdd]
        have hfull : ((r.length : Int) == 64) = true := by simp; omega
        have hgt : (62 : Int) < r.length := by omega
        refine EVgo9 (And.intro (hfull) ( And.intro (hgt) ( And.intro (hbx) ( And.intro (hby) (hbt))))) (s10 hcf) (h11) (h13) (h12) (h14) (h21) (h23) trivial trivial trivial trivial ?_
        refine WQ.ret ?_
        rfl
end
end Go.Proofs.YtklanpanmndakaaR
