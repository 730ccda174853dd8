/- Evs13D: a part of the proof. -/
import Derived.Test.YtklanpanmndakaaEvs13C
open Go Go.Proofs.YtklanpanmndakaaEv Go.Proofs.YtklanpanmndakaaR Go.IntWalk
set_option maxRecDepth 20000
set_option maxHeartbeats 8000000
set_option linter.unusedVariables false
set_option linter.unusedSimpArgs false
namespace Go.Proofs.YtklanpanmndakaaR
def ownI (l : List Int) : PV := .sl l.length false (((flat encI l).drop 0).take (l.length * 1))
theorem ownI_in (l : List Int) : PV.sl l.length false (flat encI l) = ownI l := by
  unfold ownI
  rw [List.drop_zero, List.take_of_length_le (by rw [lenI]; omega)]
theorem ownI1 (x : Int) : PV.sl 1 false [.int .i64 x] = .sl [x].length false (flat encI [x]) := rfl
section
variable {cf : CF} (hcf : cf = ev env)
include hcf
theorem s39 (a b c : Bool) (m : Tk) (x : List Int) (hs : Sn m) (hx : m.r.length + x.length ≤ 64) : cf 39 [tk a b m, .sl x.length c (flat encI x)] [] = some (.tup [tk a false ⟨m.d, m.r ++ x, m.th, m.pl, m.h⟩, .int .i64 0], []) := by
  have h62 := s62 hcf b c m.r x 64 (by omega) (by omega) (by omega)
  have h45 := s45 hcf a b false m (m.r ++ x)
  have hst : stands m.h (m.r ++ x).length = true := (stands_iff _ _).2 (by have := hs.h; rw [List.length_append]; omega)
  rw [ownI_in, if_pos hst] at h45
  obtain ⟨d, r, th, pl, h⟩ := m
  refine ev_ofC' hcf env39 ?_
  simp only [tk] at h62 h45 ⊢
  conv => arg 2; simp only [ir39]
  conv => arg 3; simp only [ir39, Go.Proofs.YtklanpanmndakaaEv.start, List.length, Nat.reduceAdd, Nat.reduceSub, List.reduceReplicate, List.append_eq, List.cons_append, List.nil_append]
  conv => arg 4; simp only [heapOf]
  try conv => arg 5; simp only [List.length, Nat.reduceAdd]
  try conv => arg 6; simp only [List.length, Nat.reduceAdd]
  refine EVgo2 trivial (h62) (h45) trivial trivial ?_
  exact WQ.ret rfl
theorem s39n (a b c : Bool) (m : Tk) (x : List Int) (hs : Sn m) (hl : x.length ≤ 100) (hx : ¬ m.r.length + x.length ≤ 64) : cf 39 [tk a b m, .sl x.length c (flat encI x)] [] = some (.tup [tk a b m, .int .i64 (-5)], []) := by
  have hr := hs.r
  have h62 := s62n hcf b c m.r x 64 (by omega) (by omega) (by omega)
  obtain ⟨d, r, th, pl, h⟩ := m
  refine ev_ofC' hcf env39 ?_
  simp only [tk] at h62 ⊢
  conv => arg 2; simp only [ir39]
  conv => arg 3; simp only [ir39, Go.Proofs.YtklanpanmndakaaEv.start, List.length, Nat.reduceAdd, Nat.reduceSub, List.reduceReplicate, List.append_eq, List.cons_append, List.nil_append]
  conv => arg 4; simp only [heapOf]
  try conv => arg 5; simp only [List.length, Nat.reduceAdd]
  try conv => arg 6; simp only [List.length, Nat.reduceAdd]
  refine EVgo2 trivial (h62) trivial trivial trivial ?_
  exact WQ.ret rfl
theorem s15n (n : Int) (hr : -9223372036854775808 ≤ n ∧ n ≤ 9223372036854775807) (h : ¬ (0 ≤ n ∧ n ≤ 4096004095)) : cf 15 [.int .i64 n] [] = some (.tup [.agg [.int .i64 0, .int .i64 0], .bool false], []) := by
  refine ev_ofC' hcf env15 ?_
  conv => arg 2; simp only [ir15]
  conv => arg 3; simp only [ir15, Go.Proofs.YtklanpanmndakaaEv.start, List.length, Nat.reduceAdd, Nat.reduceSub, List.reduceReplicate, List.append_eq, List.cons_append, List.nil_append]
  conv => arg 4; simp only [heapOf]
  try conv => arg 5; simp only [List.length, Nat.reduceAdd]
  try conv => arg 6; simp only [List.length, Nat.reduceAdd]
  by_cases h1 : n < 0
  · refine EVgo2 (h1) trivial trivial trivial trivial ?_
    exact WQ.ret rfl
  · have h2 : n / 4096 > 1000000 := by omega
    refine EVgo2 (And.intro (q4096 n (by omega)) ( And.intro (r4096 n (by omega)) ( And.intro (h1) (h2)))) trivial trivial trivial trivial ?_
    exact WQ.ret rfl
theorem s14 (a b : Bool) (m : Tk) (to : Int) (hs : saneB m = true) (ht : 0 ≤ to ∧ to ≤ 4096004095) (hx : m.r.length ≤ 63) : cf 14 [tk a b m, .int .i64 to] [] = some (.tup [tk a false ⟨m.d, m.r ++ [addr m.th m.pl], to / 4096, to % 4096, m.h⟩, .int .i64 0], []) := by
  have h38 := s38 hcf a b m hs
  have h15 := s15 hcf to ht
  have h20 := s20 hcf m.th m.pl
  have h39 := s39 hcf a b false m [addr m.th m.pl] ((sane_iff m).1 hs) (by simp only [List.length_cons, List.length_nil]; omega)
  rw [ownI_in] at h39
  obtain ⟨d, r, th, pl, h⟩ := m
  refine ev_ofC' hcf env14 ?_
  simp only [tk] at h38 h39 ⊢
  conv => arg 2; simp only [ir14]
  conv => arg 3; simp only [ir14, Go.Proofs.YtklanpanmndakaaEv.start, List.length, Nat.reduceAdd, Nat.reduceSub, List.reduceReplicate, List.append_eq, List.cons_append, List.nil_append]
  conv => arg 4; simp only [heapOf]
  try conv => arg 5; simp only [List.length, Nat.reduceAdd]
  try conv => arg 6; simp only [List.length, Nat.reduceAdd]
  refine EVgo9 trivial (h38) (h15) (h20) (h39) trivial trivial trivial trivial trivial trivial trivial ?_
  exact WQ.ret rfl
theorem s40 (a b : Bool) (m : Tk) (n : Nat) (hr : m.r.length ≤ 64) (hn : n ≤ m.r.length) : ∃ c e, cf 40 [tk a b m, .int .i64 n] [] = some (.tup [tk a c ⟨m.d, m.r.take (m.r.length - n), m.th, m.pl, if stands m.h ((m.r.length - n : Nat) : Int) = true then m.h else 0⟩, .sl n e (flat encI (m.r.drop (m.r.length - n))), .int .i64 0], []) := by
  obtain ⟨c, e, h63⟩ := s63 hcf b m.r n hn (by omega)
  refine ⟨c, e, ?_⟩
  have h45 := s45 hcf a b c m (m.r.take (m.r.length - n))
  have hl : (m.r.take (m.r.length - n)).length = m.r.length - n := by rw [List.length_take]; omega
  simp only [hl] at h45
  obtain ⟨d, r, th, pl, h⟩ := m
  refine ev_ofC' hcf env40 ?_
  simp only [tk, hl] at h63 h45 ⊢
  conv => arg 2; simp only [ir40]
  conv => arg 3; simp only [ir40, Go.Proofs.YtklanpanmndakaaEv.start, List.length, Nat.reduceAdd, Nat.reduceSub, List.reduceReplicate, List.append_eq, List.cons_append, List.nil_append]
  conv => arg 4; simp only [heapOf]
  try conv => arg 5; simp only [List.length, Nat.reduceAdd]
  try conv => arg 6; simp only [List.length, Nat.reduceAdd]
  refine EVgo2 trivial (h63) (h45) trivial trivial ?_
  exact WQ.ret rfl
theorem s14o (a b : Bool) (m : Tk) (to : Int) (hs : saneB m = true) (ht : 0 ≤ to ∧ to ≤ 4096004095) (hx : ¬ m.r.length ≤ 63) : cf 14 [tk a b m, .int .i64 to] [] = some (.tup [tk a b m, .int .i64 (-5)], []) := by
  have h38 := s38 hcf a b m hs
  have h15 := s15 hcf to ht
  have h20 := s20 hcf m.th m.pl
  have h39 := s39n hcf a b false m [addr m.th m.pl] ((sane_iff m).1 hs) (by simp) (by simp only [List.length_cons, List.length_nil]; omega)
  rw [ownI_in] at h39
  obtain ⟨d, r, th, pl, h⟩ := m
  refine ev_ofC' hcf env14 ?_
  simp only [tk] at h38 h39 ⊢
  conv => arg 2; simp only [ir14]
  conv => arg 3; simp only [ir14, Go.Proofs.YtklanpanmndakaaEv.start, List.length, Nat.reduceAdd, Nat.reduceSub, List.reduceReplicate, List.append_eq, List.cons_append, List.nil_append]
  conv => arg 4; simp only [heapOf]
  try conv => arg 5; simp only [List.length, Nat.reduceAdd]
  try conv => arg 6; simp only [List.length, Nat.reduceAdd]
  refine EVgo9 trivial (h38) (h15) (h20) (h39) trivial trivial trivial trivial trivial trivial trivial ?_
  exact WQ.ret rfl
theorem s14a (a b : Bool) (m : Tk) (to : Int) (hs : saneB m = true) (hr : -9223372036854775808 ≤ to ∧ to ≤ 9223372036854775807) (ht : ¬ (0 ≤ to ∧ to ≤ 4096004095)) : cf 14 [tk a b m, .int .i64 to] [] = some (.tup [tk a b m, .int .i64 (-9)], []) := by
  have h38 := s38 hcf a b m hs
  have h15 := s15n hcf to hr ht
  obtain ⟨d, r, th, pl, h⟩ := m
  refine ev_ofC' hcf env14 ?_
  simp only [tk] at h38 ⊢
  conv => arg 2; simp only [ir14]
  conv => arg 3; simp only [ir14, Go.Proofs.YtklanpanmndakaaEv.start, List.length, Nat.reduceAdd, Nat.reduceSub, List.reduceReplicate, List.append_eq, List.cons_append, List.nil_append]
  conv => arg 4; simp only [heapOf]
  try conv => arg 5; simp only [List.length, Nat.reduceAdd]
  try conv => arg 6; simp only [List.length, Nat.reduceAdd]
  refine EVgo2 trivial (h38) (h15) trivial trivial ?_
  exact WQ.ret rfl
omit hcf in
theorem drop_snoc (r : List Int) (x : Int) : (r ++ [x]).drop ((r ++ [x]).length - 1) = [x] := by simp
omit hcf in
theorem take_snoc (r : List Int) (x : Int) : (r ++ [x]).take ((r ++ [x]).length - 1) = r := by simp
omit hcf in
theorem len_snoc (r : List Int) (x : Int) : (r ++ [x]).length - 1 = r.length := by simp
/-- the cut of H -/
def cut (h n : Int) : Int := if stands h n = true then h else 0
theorem s17 (a b : Bool) (d r : List Int) (th pl h x : Int) (hs : saneB ⟨d, r ++ [x], th, pl, h⟩ = true) (hx : 0 ≤ x ∧ x ≤ 4096004095) : ∃ c, cf 17 [tk a b ⟨d, r ++ [x], th, pl, h⟩] [] = some (.tup [tk a c ⟨d, r, x / 4096, x % 4096, cut h r.length⟩, .bool false, .int .i64 0], []) := by
  have h38 := s38 hcf a b _ hs
  have hS := (sane_iff _).1 hs
  have hr := hS.r
  simp only at hr
  obtain ⟨c, e, h40⟩ := s40 hcf a b ⟨d, r ++ [x], th, pl, h⟩ 1 hr (by simp)
  refine ⟨c, ?_⟩
  simp only [len_snoc, List.take_left, List.drop_left] at h40
  have e0 : flat encI [x] = [PV.int .i64 x] := rfl
  have h15 := s15 hcf x hx
  refine ev_ofC' hcf env17 ?_
  unfold cut
  simp only [tk] at h38 h40 ⊢
  conv => arg 2; simp only [ir17]
  conv => arg 3; simp only [ir17, Go.Proofs.YtklanpanmndakaaEv.start, List.length, Nat.reduceAdd, Nat.reduceSub, List.reduceReplicate, List.append_eq, List.cons_append, List.nil_append]
  conv => arg 4; simp only [heapOf]
  try conv => arg 5; simp only [List.length, Nat.reduceAdd]
  try conv => arg 6; simp only [List.length, Nat.reduceAdd]
  have hm1 : (x == -1) = false := by simp; omega
  have hm2 : (x == -2) = false := by simp; omega
  refine EVgo9 (And.intro (hm1) ( And.intro (hm2) (e0))) (h38) (h40) (h15) trivial trivial trivial trivial trivial trivial trivial trivial ?_
  exact WQ.ret rfl
end
end Go.Proofs.YtklanpanmndakaaR
