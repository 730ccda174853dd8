/- timer.is, slices.IndexFunc, slices.ContainsFunc. -/
import Derived.Test.YtppnijapeepbnaaEvIr17
open Go Go.Proofs.YtppnijapeepbnaaEv Go.Proofs.YtppnijapeepbnaaR Go.IntWalk Go.Proofs
set_option maxRecDepth 20000
set_option maxHeartbeats 8000000
set_option linter.unusedVariables false
set_option linter.unusedSimpArgs false
namespace Go.Proofs.YtppnijapeepbnaaR
/-- where it stands -/
def ixN (i : Int) : List Np → Nat → Int
  | [], _ => -1
  | x :: r, k => if i = x.1 then (k : Int) else ixN i r (k + 1)
theorem ixN_has (i : Int) : ∀ (l : List Np) (k : Nat), decide (ixN i l k ≥ 0) = hasN l i
  | [], k => rfl
  | x :: r, k => by
    show decide ((if i = x.1 then (k : Int) else ixN i r (k + 1)) ≥ 0) = ((i == x.1) || hasN r i)
    by_cases h : i = x.1
    · rw [if_pos h, decide_eq_true (show (k : Int) ≥ 0 by omega), show (i == x.1) = true from beq_iff_eq.2 h]; rfl
    · rw [if_neg h, ixN_has i r (k + 1), show (i == x.1) = false from beq_eq_false_iff_ne.2 h]; rfl
section
variable {cf : CF} (hcf : cf = ev env)
include hcf
theorem s36 (x : Np) (i : Int) : cf 36 [.agg (encN x), .ptr 0 0] [some (.box [.int .i64 i])] = some (.bool (i == x.1), [some (.box [.int .i64 i])]) := by
  refine ev_ofC' hcf env36 ?_
  obtain ⟨x, y⟩ := x
  simp only [encN]
  have e : (i == x) = (x == i) := by
    by_cases h : i = x
    · subst h; rfl
    · rw [beq_eq_false_iff_ne.2 h, beq_eq_false_iff_ne.2 (Ne.symm h)]
  rw [e]
  conv => arg 2; simp only [ir36]
  conv => arg 3; simp only [ir36, Go.Proofs.YtppnijapeepbnaaEv.start, List.length, Nat.reduceAdd, Nat.reduceSub, List.reduceReplicate, List.append_eq, List.cons_append, List.nil_append]
  conv => arg 4; simp only [heapOf]
  try conv => arg 5; simp only [List.length, Nat.reduceAdd]
  try conv => arg 6; simp only [List.length, Nat.reduceAdd]
  refine EVgo9 trivial trivial trivial trivial trivial trivial trivial trivial trivial trivial trivial trivial ?_
  exact WQ.ret rfl
theorem s25 (i : Int) : cf 25 [.int .i64 i] [] = some (.fn 36 [] [.ptr 0 0], [some (.box [.int .i64 i])]) := by
  refine ev_ofC' hcf env25 ?_
  conv => arg 2; simp only [ir25]
  conv => arg 3; simp only [ir25, Go.Proofs.YtppnijapeepbnaaEv.start, List.length, Nat.reduceAdd, Nat.reduceSub, List.reduceReplicate, List.append_eq, List.cons_append, List.nil_append]
  conv => arg 4; simp only [heapOf]
  try conv => arg 5; simp only [List.length, Nat.reduceAdd]
  try conv => arg 6; simp only [List.length, Nat.reduceAdd]
  refine EVgo9 trivial trivial trivial trivial trivial trivial trivial trivial trivial trivial trivial trivial ?_
  exact WQ.ret rfl
theorem s36c (x : Np) (i : Int) : cf 36 [.agg (encN x), .rop [.int .i64 i]] [] = some (.bool (i == x.1), []) := by
  refine ev_ofC' hcf env36 ?_
  obtain ⟨x, y⟩ := x
  simp only [encN]
  have e : (i == x) = (x == i) := by
    by_cases h : i = x
    · subst h; rfl
    · rw [beq_eq_false_iff_ne.2 h, beq_eq_false_iff_ne.2 (Ne.symm h)]
  rw [e]
  conv => arg 2; simp only [ir36]
  conv => arg 3; simp only [ir36, Go.Proofs.YtppnijapeepbnaaEv.start, List.length, Nat.reduceAdd, Nat.reduceSub, List.reduceReplicate, List.append_eq, List.cons_append, List.nil_append]
  conv => arg 4; simp only [heapOf]
  try conv => arg 5; simp only [List.length, Nat.reduceAdd]
  try conv => arg 6; simp only [List.length, Nat.reduceAdd]
  refine EVgo9 trivial trivial trivial trivial trivial trivial trivial trivial trivial trivial trivial trivial ?_
  exact WQ.ret rfl
theorem s35 (l : List Np) (i : Int) (hl : l.length ≤ 1000000) : cf 35 [slN l, .fn 36 [] [.rop [.int .i64 i]]] [] = some (.int .i64 (ixN i l 0), []) := by
  refine ev_ofC' hcf env35 ?_
  simp only [slN]
  conv => arg 2; simp only [ir35]
  conv => arg 3; simp only [ir35, Go.Proofs.YtppnijapeepbnaaEv.start, List.length, Nat.reduceAdd, Nat.reduceSub, List.reduceReplicate, List.append_eq, List.cons_append, List.nil_append]
  conv => arg 4; simp only [heapOf]
  try conv => arg 5; simp only [List.length, Nat.reduceAdd]
  try conv => arg 6; simp only [List.length, Nat.reduceAdd]
  refine EVgo9 trivial trivial trivial trivial trivial trivial trivial trivial trivial trivial trivial trivial ?_
  refine WC.loop (T' := _) (H' := _) (n' := _) rfl ((?_ : ∀ (r p : List Np), p ++ r = l → ixN i l 0 = ixN i r p.length →
    WC cf _ (mkT 19 [(0, .sl l.length false (flat encN l)), (1, .fn 36 [] [.rop [.int .i64 i]]), (7, .int .i64 (l.length : Nat)), (8, .int .i64 (p.length : Nat))]) [] 0 0 _) l [] rfl rfl)
  intro r
  induction r with
  | nil =>
    intro p hp hok
    rw [List.append_nil] at hp
    subst hp
    rw [hok]
    conv => arg 3; simp only [mkT, putT, List.reduceReplicate, List.set]
    refine EVgl9 trivial trivial trivial trivial trivial trivial trivial trivial trivial trivial trivial trivial ?_
    exact WQ.ret rfl
  | cons x r ih =>
    intro p hp hok
    have hlen : l.length = p.length + (r.length + 1) := by rw [← hp]; simp
    have hlt : (p.length : Int) < (l.length : Int) := by omega
    have hw : IntKind.i64.wrap ((p.length : Int) + 1) = ((p.length + 1 : Nat) : Int) := by rw [i64_in _ (by omega)]; simp
    have e0 := mid_N (p := p) (r := r) (x := x.1) (y := x.2) hp
    have h36 := s36c hcf x i
    have hok' : ixN i l 0 = if i = x.1 then (p.length : Int) else ixN i r (p.length + 1) := hok
    have hih := ih (p ++ [x]) (by rw [List.append_assoc]; exact hp)
    rw [snoc_len] at hih
    simp only [encN] at h36
    by_cases hx : i = x.1
    · rw [if_pos hx] at hok'
      rw [beq_iff_eq.2 hx] at h36
      rw [hok']
      conv => arg 3; simp only [mkT, putT, List.reduceReplicate, List.set]
      refine EVgo9 (And.intro (hlt) (e0)) (h36) trivial trivial trivial trivial trivial trivial trivial trivial trivial trivial ?_
      exact WQ.ret rfl
    · rw [if_neg hx] at hok'
      rw [beq_eq_false_iff_ne.2 hx] at h36
      conv => arg 3; simp only [mkT, putT, List.reduceReplicate, List.set]
      refine EVgo9 (And.intro (hlt) (e0)) (h36) trivial trivial trivial trivial trivial trivial trivial trivial trivial trivial ?_
      refine EVgo9 (hw) trivial trivial trivial trivial trivial trivial trivial trivial trivial trivial trivial ?_
      exact WC.loop rfl (hih hok')
theorem s24 (l : List Np) (i : Int) (hl : l.length ≤ 1000000) : cf 24 [slN l, .fn 36 [] [.rop [.int .i64 i]]] [] = some (.bool (hasN l i), []) := by
  have h35 := s35 hcf l i hl
  refine ev_ofC' hcf env24 ?_
  rw [← ixN_has i l 0]
  generalize ixN i l 0 = z at h35
  simp only [slN] at h35 ⊢
  conv => arg 2; simp only [ir24]
  conv => arg 3; simp only [ir24, Go.Proofs.YtppnijapeepbnaaEv.start, List.length, Nat.reduceAdd, Nat.reduceSub, List.reduceReplicate, List.append_eq, List.cons_append, List.nil_append]
  conv => arg 4; simp only [heapOf]
  try conv => arg 5; simp only [List.length, Nat.reduceAdd]
  try conv => arg 6; simp only [List.length, Nat.reduceAdd]
  refine EVgo9 trivial (h35) trivial trivial trivial trivial trivial trivial trivial trivial trivial trivial ?_
  exact WQ.ret rfl
end
end Go.Proofs.YtppnijapeepbnaaR
