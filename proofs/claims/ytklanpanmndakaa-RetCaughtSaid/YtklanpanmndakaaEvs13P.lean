/- Evs13P: a part of the proof. -/
import Derived.Test.YtklanpanmndakaaEvs13N
open Go Go.Proofs.YtklanpanmndakaaEv Go.Proofs.YtklanpanmndakaaR Go.IntWalk
set_option maxRecDepth 20000
set_option maxHeartbeats 8000000
set_option linter.unusedVariables false
set_option linter.unusedSimpArgs false
namespace Go.Proofs.YtklanpanmndakaaR
section
variable {cf : CF} (hcf : cf = ev env)
include hcf
theorem s41 (a b c : Bool) (d R r : List Int) (th pl h f0 f1 f2 : Int) (hd : d.length ≤ 63) (hr : r.length ≤ 100) (hh : h = (r.length : Int) + 3) (hf2 : 0 ≤ f2 ∧ f2 ≤ 4096004095) (hst : stands f0 r.length = true) :
    ∃ e, cf 41 [tk a b ⟨d, R, th, pl, h⟩, .sl (r ++ [f0, f1, f2]).length c (flat encI (r ++ [f0, f1, f2]))] [] = some (.tup [.agg [.own 0 1 0 (d.length + 1), .sl r.length e (flat encI r), .int .i64 (f2 / 4096), .int .i64 (f2 % 4096), .int .i64 f0], .int .i64 0], [some (.row (flat encI (d ++ [0])))]) := by
  have hl : (r ++ [f0, f1, f2]).length = r.length + 3 := by simp
  obtain ⟨e, e', h63⟩ := s63 hcf c (r ++ [f0, f1, f2]) 3 (by omega) (by omega)
  have hl3 : (r ++ [f0, f1, f2]).length - 3 = r.length := by omega
  rw [hl3, List.take_left, List.drop_left] at h63
  refine ⟨e, ?_⟩
  have h15 := s15 hcf f2 hf2
  have h62 := s62 hcf a false d [0] 64 (by omega) (by simp) (by simp; omega)
  rw [ownI_in] at h62
  have hdl : (d ++ [0]).length = d.length + 1 := by simp
  rw [hdl] at h62
  have h37 := s37 hcf f0 r.length
  rw [hst] at h37
  have e0 : flat encI [f0, f1, f2] = [PV.int .i64 f0, .int .i64 f1, .int .i64 f2] := rfl
  have hcmp : (h != (((r ++ [f0, f1, f2]).length : Nat) : Int)) = false := by rw [hl]; simp; omega
  refine ev_ofC' hcf env41 ?_
  simp only [tk] at h62 h63 ⊢
  conv => arg 2; simp only [ir41]
  conv => arg 3; simp only [ir41, Go.Proofs.YtklanpanmndakaaEv.start, List.length, Nat.reduceAdd, Nat.reduceSub, List.reduceReplicate, List.append_eq, List.cons_append, List.nil_append]
  conv => arg 4; simp only [heapOf]
  try conv => arg 5; simp only [List.length, Nat.reduceAdd]
  try conv => arg 6; simp only [List.length, Nat.reduceAdd]
  refine EVgo9 (And.intro (e0) (hcmp)) (h63) (h15) (h37) (h62) trivial trivial trivial trivial trivial trivial trivial ?_
  refine WQ.ret ?_
  rfl
theorem s17c (a b : Bool) (d r : List Int) (th pl h f0 f1 f2 : Int) (hs : saneB ⟨d, r ++ [f0, f1, f2, -1], th, pl, h⟩ = true) (hd : d.length ≤ 63) (hh : h = (r.length : Int) + 3) (hf2 : 0 ≤ f2 ∧ f2 ≤ 4096004095) (hst : stands f0 r.length = true) :
    ∃ c, cf 17 [tk a b ⟨d, r ++ [f0, f1, f2, -1], th, pl, h⟩] [] = some (.tup [.agg [.own 0 1 0 (d.length + 1), .sl r.length c (flat encI r), .int .i64 (f2 / 4096), .int .i64 (f2 % 4096), .int .i64 f0], .bool false, .int .i64 0], [some (.row (flat encI (d ++ [0])))]) := by
  have h38 := s38 hcf a b _ hs
  have hS := (sane_iff _).1 hs
  have hr := hS.r
  simp only [List.length_append, List.length_cons, List.length_nil] at hr
  have hR : r ++ [f0, f1, f2, -1] = (r ++ [f0, f1, f2]) ++ [-1] := by simp
  rw [hR] at h38 hs ⊢
  generalize hX : r ++ [f0, f1, f2] = X at *
  have hXl : X.length = r.length + 3 := by rw [← hX]; simp
  obtain ⟨c, e, h40⟩ := s40 hcf a b ⟨d, X ++ [-1], th, pl, h⟩ 1 (by simp only [List.length_append, List.length_cons, List.length_nil]; omega) (by simp)
  simp only [len_snoc, List.take_left, List.drop_left] at h40
  obtain ⟨c', h41⟩ := s41 hcf a b c d (X ++ [-1]) r th pl h f0 f1 f2 hd (by omega) hh hf2 hst
  rw [hX] at h41
  refine ⟨c', ?_⟩
  have e0 : flat encI [-1] = [PV.int .i64 (-1)] := rfl
  refine ev_ofC' hcf env17 ?_
  simp only [tk] at h38 h40 h41 ⊢
  conv => arg 2; simp only [ir17]
  conv => arg 3; simp only [ir17, Go.Proofs.YtklanpanmndakaaEv.start, List.length, Nat.reduceAdd, Nat.reduceSub, List.reduceReplicate, List.append_eq, List.cons_append, List.nil_append]
  conv => arg 4; simp only [heapOf]
  try conv => arg 5; simp only [List.length, Nat.reduceAdd]
  try conv => arg 6; simp only [List.length, Nat.reduceAdd]
  refine EVgo9 (e0) (h38) (h40) (h41) trivial trivial trivial trivial trivial trivial trivial trivial ?_
  refine WQ.ret ?_
  rfl
end
end Go.Proofs.YtklanpanmndakaaR
