/- Evs13E: a part of the proof. -/
import Derived.Test.YtklanpanmndakaaEvs13D
open Go Go.Proofs.YtklanpanmndakaaEv Go.Proofs.YtklanpanmndakaaR Go.IntWalk
set_option maxRecDepth 20000
set_option maxHeartbeats 8000000
set_option linter.unusedVariables false
set_option linter.unusedSimpArgs false
namespace Go.Proofs.YtklanpanmndakaaR
theorem addr_at {th pl : Int} (h1 : 0 ≤ th ∧ th ≤ 1000000) (h2 : 0 ≤ pl ∧ pl ≤ 4095) : addr th pl / 4096 = th ∧ addr th pl % 4096 = pl ∧ 0 ≤ addr th pl ∧ addr th pl ≤ 4096004095 := by
  unfold addr
  rw [if_pos h1, if_pos h2]
  omega
theorem at_addr {n : Int} (h : 0 ≤ n ∧ n ≤ 4096004095) : addr (n / 4096) (n % 4096) = n := by
  unfold addr
  rw [if_pos (by omega), if_pos (by omega)]
  omega
theorem cut_le {m : Tk} (hs : Sn m) : cut m.h m.r.length = m.h := by
  unfold cut
  rw [if_pos ((stands_iff _ _).2 (by have := hs.h; omega))]
theorem sn_push {m : Tk} (hs : Sn m) (l : List Int) (h : m.r.length + l.length ≤ 64) {th pl : Int} (h1 : 0 ≤ th ∧ th ≤ 1000000) (h2 : 0 ≤ pl ∧ pl ≤ 4095) : Sn ⟨m.d, m.r ++ l, th, pl, m.h⟩ :=
  ⟨hs.d, by rw [List.length_append]; omega, h1, h2, by have := hs.h; simp only [List.length_append]; omega⟩
section
variable {cf : CF} (hcf : cf = ev env)
include hcf
theorem s21 (a b : Bool) (m : Tk) (x : Int) (hs : saneB m = true) (hx : m.r.length ≤ 63) : cf 21 [tk a b m, .int .i64 x] [] = some (.tup [tk a false ⟨m.d, m.r ++ [x], m.th, m.pl, m.h⟩, .int .i64 0], []) := by
  have h38 := s38 hcf a b m hs
  have h39 := s39 hcf a b false m [x] ((sane_iff m).1 hs) (by simp only [List.length_cons, List.length_nil]; omega)
  rw [ownI_in] at h39
  obtain ⟨d, r, th, pl, h⟩ := m
  refine ev_ofC' hcf env21 ?_
  simp only [tk] at h38 h39 ⊢
  conv => arg 2; simp only [ir21]
  conv => arg 3; simp only [ir21, Go.Proofs.YtklanpanmndakaaEv.start, List.length, Nat.reduceAdd, Nat.reduceSub, List.reduceReplicate, List.append_eq, List.cons_append, List.nil_append]
  conv => arg 4; simp only [heapOf]
  try conv => arg 5; simp only [List.length, Nat.reduceAdd]
  try conv => arg 6; simp only [List.length, Nat.reduceAdd]
  refine EVgo2 trivial (h38) (h39) trivial trivial ?_
  exact WQ.ret rfl
theorem s21o (a b : Bool) (m : Tk) (x : Int) (hs : saneB m = true) (hx : ¬ m.r.length ≤ 63) : cf 21 [tk a b m, .int .i64 x] [] = some (.tup [tk a b m, .int .i64 (-5)], []) := by
  have h38 := s38 hcf a b m hs
  have h39 := s39n hcf a b false m [x] ((sane_iff m).1 hs) (by simp) (by simp only [List.length_cons, List.length_nil]; omega)
  rw [ownI_in] at h39
  obtain ⟨d, r, th, pl, h⟩ := m
  refine ev_ofC' hcf env21 ?_
  simp only [tk] at h38 h39 ⊢
  conv => arg 2; simp only [ir21]
  conv => arg 3; simp only [ir21, Go.Proofs.YtklanpanmndakaaEv.start, List.length, Nat.reduceAdd, Nat.reduceSub, List.reduceReplicate, List.append_eq, List.cons_append, List.nil_append]
  conv => arg 4; simp only [heapOf]
  try conv => arg 5; simp only [List.length, Nat.reduceAdd]
  try conv => arg 6; simp only [List.length, Nat.reduceAdd]
  refine EVgo2 trivial (h38) (h39) trivial trivial ?_
  exact WQ.ret rfl
theorem s22 (a b : Bool) (d r : List Int) (th pl h x : Int) (hs : saneB ⟨d, r ++ [x], th, pl, h⟩ = true) : ∃ c, cf 22 [tk a b ⟨d, r ++ [x], th, pl, h⟩] [] = some (.tup [tk a c ⟨d, r, th, pl, cut h r.length⟩, .int .i64 x, .int .i64 0], []) := by
  have h38 := s38 hcf a b _ hs
  have hS := (sane_iff _).1 hs
  have hr := hS.r
  simp only at hr
  obtain ⟨c, e, h40⟩ := s40 hcf a b ⟨d, r ++ [x], th, pl, h⟩ 1 hr (by simp)
  refine ⟨c, ?_⟩
  simp only [len_snoc, List.take_left, List.drop_left] at h40
  have e0 : flat encI [x] = [PV.int .i64 x] := rfl
  refine ev_ofC' hcf env22 ?_
  unfold cut
  simp only [tk] at h38 h40 ⊢
  conv => arg 2; simp only [ir22]
  conv => arg 3; simp only [ir22, Go.Proofs.YtklanpanmndakaaEv.start, List.length, Nat.reduceAdd, Nat.reduceSub, List.reduceReplicate, List.append_eq, List.cons_append, List.nil_append]
  conv => arg 4; simp only [heapOf]
  try conv => arg 5; simp only [List.length, Nat.reduceAdd]
  try conv => arg 6; simp only [List.length, Nat.reduceAdd]
  refine EVgo2 (e0) (h38) (h40) trivial trivial ?_
  exact WQ.ret rfl
theorem s23 (a b : Bool) (m : Tk) (x y : Int) (hs : saneB m = true) (hx : m.r.length ≤ 62) : cf 23 [tk a b m, .int .i64 x, .int .i64 y] [] = some (.tup [tk a false ⟨m.d, m.r ++ [x, y], m.th, m.pl, m.h⟩, .int .i64 0], []) := by
  have h38 := s38 hcf a b m hs
  have h39 := s39 hcf a b false m [x, y] ((sane_iff m).1 hs) (by simp only [List.length_cons, List.length_nil]; omega)
  rw [ownI_in] at h39
  obtain ⟨d, r, th, pl, h⟩ := m
  refine ev_ofC' hcf env23 ?_
  simp only [tk] at h38 h39 ⊢
  conv => arg 2; simp only [ir23]
  conv => arg 3; simp only [ir23, Go.Proofs.YtklanpanmndakaaEv.start, List.length, Nat.reduceAdd, Nat.reduceSub, List.reduceReplicate, List.append_eq, List.cons_append, List.nil_append]
  conv => arg 4; simp only [heapOf]
  try conv => arg 5; simp only [List.length, Nat.reduceAdd]
  try conv => arg 6; simp only [List.length, Nat.reduceAdd]
  refine EVgo2 trivial (h38) (h39) trivial trivial ?_
  exact WQ.ret rfl
theorem s23o (a b : Bool) (m : Tk) (x y : Int) (hs : saneB m = true) (hx : ¬ m.r.length ≤ 62) : cf 23 [tk a b m, .int .i64 x, .int .i64 y] [] = some (.tup [tk a b m, .int .i64 (-5)], []) := by
  have h38 := s38 hcf a b m hs
  have h39 := s39n hcf a b false m [x, y] ((sane_iff m).1 hs) (by simp) (by simp only [List.length_cons, List.length_nil]; omega)
  rw [ownI_in] at h39
  obtain ⟨d, r, th, pl, h⟩ := m
  refine ev_ofC' hcf env23 ?_
  simp only [tk] at h38 h39 ⊢
  conv => arg 2; simp only [ir23]
  conv => arg 3; simp only [ir23, Go.Proofs.YtklanpanmndakaaEv.start, List.length, Nat.reduceAdd, Nat.reduceSub, List.reduceReplicate, List.append_eq, List.cons_append, List.nil_append]
  conv => arg 4; simp only [heapOf]
  try conv => arg 5; simp only [List.length, Nat.reduceAdd]
  try conv => arg 6; simp only [List.length, Nat.reduceAdd]
  refine EVgo2 trivial (h38) (h39) trivial trivial ?_
  exact WQ.ret rfl
theorem s24 (a b : Bool) (d r : List Int) (th pl h x y : Int) (hs : saneB ⟨d, r ++ [x, y], th, pl, h⟩ = true) : ∃ c, cf 24 [tk a b ⟨d, r ++ [x, y], th, pl, h⟩] [] = some (.tup [tk a c ⟨d, r, th, pl, cut h r.length⟩, .int .i64 0], []) := by
  have h38 := s38 hcf a b _ hs
  have hS := (sane_iff _).1 hs
  have hr := hS.r
  simp only at hr
  obtain ⟨c, e, h40⟩ := s40 hcf a b ⟨d, r ++ [x, y], th, pl, h⟩ 2 hr (by simp)
  refine ⟨c, ?_⟩
  have hl : (r ++ [x, y]).length - 2 = r.length := by simp
  simp only [hl, List.take_left, List.drop_left] at h40
  refine ev_ofC' hcf env24 ?_
  unfold cut
  simp only [tk] at h38 h40 ⊢
  conv => arg 2; simp only [ir24]
  conv => arg 3; simp only [ir24, Go.Proofs.YtklanpanmndakaaEv.start, List.length, Nat.reduceAdd, Nat.reduceSub, List.reduceReplicate, List.append_eq, List.cons_append, List.nil_append]
  conv => arg 4; simp only [heapOf]
  try conv => arg 5; simp only [List.length, Nat.reduceAdd]
  try conv => arg 6; simp only [List.length, Nat.reduceAdd]
  refine EVgo2 trivial (h38) (h40) trivial trivial ?_
  exact WQ.ret rfl
theorem s43 (a : Bool) (l : List Int) (n : Nat) (h : n < l.length) (k : l.length ≤ 500) : cf 43 [.sl l.length a (flat encI l), .int .i64 n] [] = some (.tup [.int .i64 l[l.length - 1 - n], .int .i64 0], []) := by
  refine ev_ofC' hcf env43 ?_
  conv => arg 2; simp only [ir43]
  conv => arg 3; simp only [ir43, Go.Proofs.YtklanpanmndakaaEv.start, List.length, Nat.reduceAdd, Nat.reduceSub, List.reduceReplicate, List.append_eq, List.cons_append, List.nil_append]
  conv => arg 4; simp only [heapOf]
  try conv => arg 5; simp only [List.length, Nat.reduceAdd]
  try conv => arg 6; simp only [List.length, Nat.reduceAdd]
  have h1 : ¬ ((n : Int) < 0) := by omega
  have h2 : ¬ ((l.length : Int) ≤ (n : Int)) := by omega
  have w1 : IntKind.i64.wrap ((l.length : Int) - 1) = (l.length : Int) - 1 := by rw [i64_in _ (by omega)]
  have w2 : IntKind.i64.wrap ((l.length : Int) - 1 - (n : Int)) = ((l.length - 1 - n : Nat) : Int) := by rw [i64_in _ (by omega)]; omega
  have hlt : l.length - 1 - n < l.length := by omega
  have e0 := flat_at (enc := encI) (es := 1) (fun _ => rfl) hlt
  rw [Nat.mul_one] at e0
  simp only [encI, List.cons_append, List.nil_append] at e0
  refine EVgo2 (And.intro (h1) ( And.intro (h2) ( And.intro (w1) ( And.intro (w2) (e0))))) trivial trivial trivial trivial ?_
  exact WQ.ret rfl
theorem s25 (a b : Bool) (m : Tk) (hs : saneB m = true) (hr : 0 < m.r.length) : cf 25 [tk a b m, .int .i64 0] [] = some (.tup [.int .i64 m.r[m.r.length - 1], .int .i64 0], []) := by
  have h38 := s38 hcf a b m hs
  have hr2 := ((sane_iff m).1 hs).r
  have h43 := s43 hcf b m.r 0 hr (by omega)
  obtain ⟨d, r, th, pl, h⟩ := m
  refine ev_ofC' hcf env25 ?_
  simp only [tk] at h38 h43 ⊢
  conv => arg 2; simp only [ir25]
  conv => arg 3; simp only [ir25, Go.Proofs.YtklanpanmndakaaEv.start, List.length, Nat.reduceAdd, Nat.reduceSub, List.reduceReplicate, List.append_eq, List.cons_append, List.nil_append]
  conv => arg 4; simp only [heapOf]
  try conv => arg 5; simp only [List.length, Nat.reduceAdd]
  try conv => arg 6; simp only [List.length, Nat.reduceAdd]
  have wm : IntKind.i64.wrap (2 * 0) = ((0 : Nat) : Int) := by decide
  have wm2 : IntKind.i64.wrap 0 = ((0 : Nat) : Int) := by decide
  refine EVgo2 (And.intro (wm) (wm2)) (h38) (h43) trivial trivial ?_
  exact WQ.ret rfl
end
end Go.Proofs.YtklanpanmndakaaR
