/- Evs13N: a part of the proof. -/
import Derived.Test.YtklanpanmndakaaEvs13L
open Go Go.Proofs.YtklanpanmndakaaEv Go.Proofs.YtklanpanmndakaaR Go.IntWalk
set_option maxRecDepth 20000
set_option maxHeartbeats 8000000
set_option linter.unusedVariables false
set_option linter.unusedSimpArgs false
namespace Go.Proofs.YtklanpanmndakaaR
theorem cnt_nat (n : Nat) (h : n ≤ 63) : cnt (n : Int) = n := by
  unfold cnt
  rw [if_neg (by omega), if_neg (by omega)]
  omega
theorem deepL_all (l : List Int) : deepL l l.length = l := by
  unfold deepL
  rw [List.take_length, Nat.sub_self]
  simp
theorem deepL_snoc (l m : List Int) : deepL (l ++ m) l.length = l := by
  unfold deepL
  rw [List.take_left, List.length_append]
  have : l.length - (l.length + m.length) = 0 := by omega
  rw [this]
  simp
def lo (n : Int) : Int := IntKind.i64.wrap (((BitVec.ofInt IntKind.i64.bits n &&& BitVec.ofInt IntKind.i64.bits 16777215).toNat : Nat) : Int)
theorem lo_at (n : Int) : 0 ≤ lo n ∧ lo n ≤ 4096004095 := by
  unfold lo
  have h : (BitVec.ofInt IntKind.i64.bits n &&& BitVec.ofInt IntKind.i64.bits 16777215).toNat ≤ 16777215 := by
    rw [BitVec.toNat_and]
    have : (BitVec.ofInt IntKind.i64.bits 16777215).toNat = 16777215 := by decide
    rw [this]
    exact Nat.and_le_right
  rw [i64_in _ (by omega)]
  omega
theorem lo_def (n : Int) : IntKind.i64.wrap (((BitVec.ofInt IntKind.i64.bits n &&& BitVec.ofInt IntKind.i64.bits 16777215).toNat : Nat) : Int) = lo n := rfl
theorem at_end (d : List Int) (n : Int) : List.drop d.length (flat encI (d ++ [n])) = [.int .i64 n] := by
  rw [flat_append, List.drop_append, List.drop_of_length_le (by rw [lenI]; omega), lenI, Nat.sub_self]
  rfl
section
variable {cf : CF} (hcf : cf = ev env)
include hcf
theorem s29 (a b : Bool) (m : Tk) (to : Int) (hs : saneB m = true) (ht : 0 ≤ to ∧ to ≤ 4096004095) (hx : m.r.length ≤ 60) : cf 29 [tk a b m, .int .i64 to] [] = some (.tup [tk a false ⟨m.d, m.r ++ [m.h, (m.d.length : Int), addr m.th m.pl, -1], to / 4096, to % 4096, (m.r.length : Int) + 3⟩, .int .i64 0], []) := by
  have h38 := s38 hcf a b m hs
  have h15 := s15 hcf to ht
  have h20 := s20 hcf m.th m.pl
  have h39 := s39 hcf a b false m [m.h, (m.d.length : Int), addr m.th m.pl, -1] ((sane_iff m).1 hs) (by simp only [List.length_cons, List.length_nil]; omega)
  rw [ownI_in] at h39
  have hl : ((m.r ++ [m.h, (m.d.length : Int), addr m.th m.pl, -1]).length : Int) = (m.r.length : Int) + 4 := by simp
  have hw : IntKind.i64.wrap ((m.r.length : Int) + 4 - 1) = (m.r.length : Int) + 3 := by rw [i64_in _ (by omega)]; omega
  obtain ⟨d, r, th, pl, h⟩ := m
  refine ev_ofC' hcf env29 ?_
  simp only [tk] at h38 h39 hl hw ⊢
  conv => arg 2; simp only [ir29]
  conv => arg 3; simp only [ir29, Go.Proofs.YtklanpanmndakaaEv.start, List.length, Nat.reduceAdd, Nat.reduceSub, List.reduceReplicate, List.append_eq, List.cons_append, List.nil_append]
  conv => arg 4; simp only [heapOf]
  try conv => arg 5; simp only [List.length, Nat.reduceAdd]
  try conv => arg 6; simp only [List.length, Nat.reduceAdd]
  refine EVgo9 (And.intro (hl) (hw)) (h38) (h15) (h20) (h39) trivial trivial trivial trivial trivial trivial trivial ?_
  refine WQ.ret ?_
  rfl
end
end Go.Proofs.YtklanpanmndakaaR
