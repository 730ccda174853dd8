/- slices.SortStableFunc of few; timer.Put. -/
import Derived.Test.YtppnijapeepbnaaEvf17E2
open Go Go.Proofs.YtppnijapeepbnaaEv Go.Proofs.YtppnijapeepbnaaR Go.IntWalk Go.Proofs
set_option maxRecDepth 20000
set_option maxHeartbeats 8000000
set_option linter.unusedVariables false
set_option linter.unusedSimpArgs false
namespace Go.Proofs.YtppnijapeepbnaaR
section
variable {cf : CF} (hcf : cf = ev env)
include hcf
theorem s37 (l : List Np) (hl : l.length < 20) : cf 37 [.own 0 2 0 l.length, .int .i64 (l.length : Nat), .fn 28 [] []] [some (.row (flat encN l))] = some (.tup [], [some (.row (flat encN (sortR [] l)))]) := by
  have h40 := s40 hcf l (by omega)
  refine ev_ofC' hcf env37 ?_
  obtain ⟨n, hn⟩ : ∃ n, l.length = n := ⟨_, rfl⟩
  rw [hn] at hl h40 ⊢
  have hlt : ¬ ((20 : Int) ≤ (n : Int)) := by omega
  have hlt2 : ¬ ((20 : Int) < (n : Int)) := by omega
  conv => arg 2; simp only [ir37]
  conv => arg 3; simp only [ir37, Go.Proofs.YtppnijapeepbnaaEv.start, List.length, Nat.reduceAdd, Nat.reduceSub, List.reduceReplicate, List.append_eq, List.cons_append, List.nil_append]
  conv => arg 4; simp only [heapOf]
  try conv => arg 5; simp only [List.length, Nat.reduceAdd]
  try conv => arg 6; simp only [List.length, Nat.reduceAdd]
  refine EVgo9 trivial trivial trivial trivial trivial trivial trivial trivial trivial trivial trivial trivial ?_
  refine WC.loop (T' := _) (H' := _) (n' := _) rfl (?_ : WC cf _ (mkT 63 [(0, .own 0 2 0 n), (1, .int .i64 (n : Nat)), (2, .fn 28 [] []), (6, .int .i64 20), (7, .int .i64 0), (8, .int .i64 20)]) [(0, .row (flat encN l))] 1 1 _)
  conv => arg 3; simp only [mkT, putT, List.reduceReplicate, List.set]
  refine EVgo9 (hlt) trivial trivial trivial trivial trivial trivial trivial trivial trivial trivial trivial ?_
  refine EVgo9 trivial (h40) trivial trivial trivial trivial trivial trivial trivial trivial trivial trivial ?_
  refine WC.loop (T' := _) (H' := _) (n' := _) rfl (?_ : WC cf _ (mkT 63 [(0, .own 0 2 0 n), (1, .int .i64 (n : Nat)), (2, .fn 28 [] []), (6, .int .i64 20)]) [(0, .row (flat encN (sortR [] l)))] 1 1 _)
  conv => arg 3; simp only [mkT, putT, List.reduceReplicate, List.set]
  refine EVgo9 (hlt2) trivial trivial trivial trivial trivial trivial trivial trivial trivial trivial trivial ?_
  exact WQ.fin rfl
theorem s27 (l : List Np) (hl : l.length < 20) : cf 27 [.own 0 2 0 l.length, .fn 28 [] []] [some (.row (flat encN l))] = some (.tup [], [some (.row (flat encN (sortR [] l)))]) := by
  have h37 := s37 hcf l hl
  refine ev_ofC' hcf env27 ?_
  conv => arg 2; simp only [ir27]
  conv => arg 3; simp only [ir27, Go.Proofs.YtppnijapeepbnaaEv.start, List.length, Nat.reduceAdd, Nat.reduceSub, List.reduceReplicate, List.append_eq, List.cons_append, List.nil_append]
  conv => arg 4; simp only [heapOf]
  try conv => arg 5; simp only [List.length, Nat.reduceAdd]
  try conv => arg 6; simp only [List.length, Nat.reduceAdd]
  refine EVgo9 trivial (h37) trivial trivial trivial trivial trivial trivial trivial trivial trivial trivial ?_
  exact WQ.fin rfl
theorem s26v (l : List Np) (h : l.length ≤ 1000000) : cf 26 [slN l] [] = some (.own 0 2 0 l.length, [some (.row (flat encN l))]) := by
  subst hcf
  cases l with
  | nil => exact ev_prim ((env_but 26 (by decide)).trans envhP26) _ _ rfl
  | cons x l => exact ev_prim ((env_but 26 (by decide)).trans envhP26) _ _ (clone0_26 (x :: l) h (by simp))
end
end Go.Proofs.YtppnijapeepbnaaR
