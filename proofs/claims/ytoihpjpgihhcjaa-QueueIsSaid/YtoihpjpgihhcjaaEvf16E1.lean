/- Same of whole numbers, and the document's example. -/
import Derived.Test.YtoihpjpgihhcjaaEvf16D4
open Go Go.Proofs.YtoihpjpgihhcjaaEv Go.Proofs.YtoihpjpgihhcjaaR Go.IntWalk Go.Proofs
set_option maxRecDepth 20000
set_option maxHeartbeats 8000000
set_option linter.unusedVariables false
set_option linter.unusedSimpArgs false
namespace Go.Proofs.YtoihpjpgihhcjaaR
section
variable {cf : CF} (hcf : cf = ev env)
include hcf
theorem s16 (l : List It) (hl : l.length ≤ 1000000) : Sp cf 16 [.sl l.length false (idsP l), .sl l.length false (idsP l)] (.bool true) := by
  refine sp_of hcf env16 ?_
  have hne : ((l.length : Int) != (l.length : Int)) = false := bne_self_eq_false _
  conv => arg 2; simp only [ir16]
  conv => arg 3; simp only [ir16, Go.Proofs.YtoihpjpgihhcjaaEv.start, List.length, Nat.reduceAdd, Nat.reduceSub, List.reduceReplicate, List.append_eq, List.cons_append, List.nil_append]
  conv => arg 4; simp only [heapOf]
  try conv => arg 5; simp only [List.length, Nat.reduceAdd]
  try conv => arg 6; simp only [List.length, Nat.reduceAdd]
  refine EVgo9 (hne) trivial trivial trivial trivial trivial trivial trivial trivial trivial trivial trivial ?_
  refine WC.loop (T' := _) (H' := _) (n' := _) rfl ((?_ : ∀ (r p : List It), p ++ r = l →
    WC cf _ (mkT 26 [(0, .sl l.length false (idsP l)), (1, .sl l.length false (idsP l)), (5, .int .i64 (p.length : Nat))]) [] 0 0 _) l [] rfl)
  intro r
  induction r with
  | nil =>
    intro p hp
    rw [List.append_nil] at hp
    subst hp
    conv => arg 3; simp only [mkT, putT, List.reduceReplicate, List.set]
    refine EVgl9 trivial trivial trivial trivial trivial trivial trivial trivial trivial trivial trivial trivial ?_
    exact EVret trivial
  | cons x r ih =>
    intro p hp
    obtain ⟨x, y, z⟩ := x
    have hlen : l.length = p.length + (r.length + 1) := by rw [← hp]; simp
    have hlt : (p.length : Int) < (l.length : Int) := by omega
    have hw : IntKind.i64.wrap ((p.length : Int) + 1) = ((p.length + 1 : Nat) : Int) := by rw [i64_in _ (by omega)]; simp
    have eK := mid_ids hp
    have hx : (x != x) = false := bne_self_eq_false _
    have hih := ih (p ++ [(x, y, z)]) (by rw [List.append_assoc]; exact hp)
    rw [snoc_len] at hih
    conv => arg 3; simp only [mkT, putT, List.reduceReplicate, List.set]
    refine EVgo9 (And.intro (hlt) ( And.intro (hw) ( And.intro (eK) (hx)))) trivial trivial trivial trivial trivial trivial trivial trivial trivial trivial trivial ?_
    exact WC.loop rfl hih
theorem s8 : Sp cf 8 [] (.bool true) := by
  have h1 := s13 hcf (0, []) 3 1 (by decide)
  have h2 := s13 hcf (1, [(3, 1, 0)]) 5 2 (by decide)
  have h3 := s13 hcf (2, [(5, 2, 1), (3, 1, 0)]) 4 2 (by decide)
  have h4 := s14 hcf (3, [(5, 2, 1), (4, 2, 2), (3, 1, 0)]) (by decide)
  have h5 := s9 hcf (3, [(5, 2, 1), (4, 2, 2), (3, 1, 0)]) (by decide)
  have h6 := s16 hcf [(5, 2, 1), (4, 2, 2), (3, 1, 0)] (by decide)
  rw [show putQ (0, []) 3 1 = ((1, [(3, 1, 0)]), true) by decide +kernel] at h1
  rw [show putQ (1, [(3, 1, 0)]) 5 2 = ((2, [(5, 2, 1), (3, 1, 0)]), true) by decide +kernel] at h2
  rw [show putQ (2, [(5, 2, 1), (3, 1, 0)]) 4 2 = ((3, [(5, 2, 1), (4, 2, 2), (3, 1, 0)]), true) by decide +kernel] at h3
  rw [show saneQ (3, [(5, 2, 1), (4, 2, 2), (3, 1, 0)]) = (3, [(5, 2, 1), (4, 2, 2), (3, 1, 0)]) by decide +kernel] at h4
  rw [show saneB (3, [(5, 2, 1), (4, 2, 2), (3, 1, 0)]).1 (3, [(5, 2, 1), (4, 2, 2), (3, 1, 0)]).2 = true by decide +kernel] at h5
  refine sp_of hcf env8 ?_
  simp only [encB, encQ, slX, idsP, List.length, flat, encX, List.map, List.flatten, List.append, Nat.reduceAdd, List.cons_append, List.nil_append, List.append_eq] at h1 h2 h3 h4 h5 h6
  conv => arg 2; simp only [ir8]
  conv => arg 3; simp only [ir8, Go.Proofs.YtoihpjpgihhcjaaEv.start, List.length, Nat.reduceAdd, Nat.reduceSub, List.reduceReplicate, List.append_eq, List.cons_append, List.nil_append]
  conv => arg 4; simp only [heapOf]
  try conv => arg 5; simp only [List.length, Nat.reduceAdd]
  try conv => arg 6; simp only [List.length, Nat.reduceAdd]
  refine EVgo9 trivial (h1) (h2) (h3) trivial trivial trivial trivial trivial trivial trivial trivial ?_
  refine EVgo9 trivial (h4) (h6) (h5) trivial trivial trivial trivial trivial trivial trivial trivial ?_
  exact EVret trivial
end
end Go.Proofs.YtoihpjpgihhcjaaR
