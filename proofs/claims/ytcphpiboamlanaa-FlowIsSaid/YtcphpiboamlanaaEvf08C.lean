/- Evf08C: a part of the proof. -/
import Derived.Test.YtcphpiboamlanaaEvf08B
open Go Go.Proofs.YtcphpiboamlanaaEv Go.Proofs.YtcphpiboamlanaaR Go.IntWalk
set_option maxRecDepth 20000
set_option maxHeartbeats 8000000
set_option linter.unusedVariables false
set_option linter.unusedSimpArgs false
namespace Go.Proofs.YtcphpiboamlanaaR
theorem clone0_45 (l : List Pr) (t : Bool) (h : l.length ≤ 1000000) (hp : 0 < l.length) : ev env0 45 [.sl l.length t (flat encP l)] [] = some (.own 0 2 0 l.length, [some (.row (flat encP l))]) := by
  refine ev_ofC envZ45 ?_
  conv => arg 2; simp only [ir45]
  conv => arg 3; simp only [ir45, Go.Proofs.YtcphpiboamlanaaEv.start, List.length, Nat.reduceAdd, Nat.reduceSub, List.reduceReplicate, List.append_eq, List.cons_append, List.nil_append]
  conv => arg 4; simp only [heapOf]
  try conv => arg 5; simp only [List.length, Nat.reduceAdd]
  try conv => arg 6; simp only [List.length, Nat.reduceAdd]
  have hne : l.length ≠ 0 := by omega
  refine EVgo9 trivial trivial trivial trivial trivial trivial trivial trivial trivial trivial (k_eqNil_sl rfl hne) trivial ?_
  refine EVgo9 (lenP) trivial trivial trivial trivial trivial trivial trivial trivial trivial trivial trivial ?_
  exact WQ.ret rfl
theorem clone0_46 (l : List Pr) (t : Bool) (h : l.length ≤ 1000000) (hp : 0 < l.length) : ev env0 46 [.sl l.length t (flat encP l)] [] = some (.own 0 2 0 l.length, [some (.row (flat encP l))]) := by
  refine ev_ofC envZ46 ?_
  conv => arg 2; simp only [ir46]
  conv => arg 3; simp only [ir46, Go.Proofs.YtcphpiboamlanaaEv.start, List.length, Nat.reduceAdd, Nat.reduceSub, List.reduceReplicate, List.append_eq, List.cons_append, List.nil_append]
  conv => arg 4; simp only [heapOf]
  try conv => arg 5; simp only [List.length, Nat.reduceAdd]
  try conv => arg 6; simp only [List.length, Nat.reduceAdd]
  have hne : l.length ≠ 0 := by omega
  refine EVgo9 trivial trivial trivial trivial trivial trivial trivial trivial trivial trivial (k_eqNil_sl rfl hne) trivial ?_
  refine EVgo9 (lenP) trivial trivial trivial trivial trivial trivial trivial trivial trivial trivial trivial ?_
  exact WQ.ret rfl
def emp : Bd := ⟨[], [], []⟩
def ownB (b : Bd) : Bd := if saneB b = true then b else emp
/-- a build of one's own, in the heap -/
def hB (b : Bd) (rc rm rq : List Pr) : List (Option Blk) := [some (.box [.own 1 2 0 b.c.length, .own 2 2 0 b.m.length, .own 3 2 0 b.o.length]), some (.row (flat encP rc)), some (.row (flat encP rm)), some (.row (flat encP rq))]
/-- the rows hold what is told -/
structure Rw (b : Bd) (rc rm rq : List Pr) : Prop where
  c : rc.take b.c.length = b.c
  m : rm.take b.m.length = b.m
  o : rq.take b.o.length = b.o
theorem Rw.refl (b : Bd) : Rw b b.c b.m b.o := ⟨List.take_length, List.take_length, List.take_length⟩
theorem take_le {l r : List Pr} (h : r.take l.length = l) : l.length ≤ r.length := by
  have := congrArg List.length h
  rw [List.length_take] at this
  omega
section
variable {cf : CF} {E : Env} (hcf : cf = ev E) (hE : ∀ n, n ≠ 26 → E n = env n)
include hcf hE
theorem s45 (l : List Pr) (t : Bool) (h : l.length ≤ 1000000) : cf 45 [.sl l.length t (flat encP l)] [] = some (.own 0 2 0 l.length, [some (.row (flat encP l))]) := by
  subst hcf
  cases l with
  | nil => exact ev_prim ((hE 45 (by decide)).trans envP45) _ _ rfl
  | cons x l => exact ev_prim ((hE 45 (by decide)).trans envP45) _ _ (clone0_45 (x :: l) t h (by simp))
theorem s46 (l : List Pr) (t : Bool) (h : l.length ≤ 1000000) : cf 46 [.sl l.length t (flat encP l)] [] = some (.own 0 2 0 l.length, [some (.row (flat encP l))]) := by
  subst hcf
  cases l with
  | nil => exact ev_prim ((hE 46 (by decide)).trans envP46) _ _ rfl
  | cons x l => exact ev_prim ((hE 46 (by decide)).trans envP46) _ _ (clone0_46 (x :: l) t h (by simp))
theorem s26i (b : Bd) (h26 : E 26 = some (.body ir26)) (hc : b.c.length ≤ 1000000) (hm : b.m.length ≤ 1000000) (ho : b.o.length ≤ 1000000) : cf 26 [bE b] [] = some (.ptr 0 0, if saneB b = true then hB b b.c b.m b.o else [some (.box [.nil, .nil, .nil])]) := by
  have h14 := s14 hcf hE b (by omega) (by omega)
  have h1 := s45 hcf hE b.c false hc
  have h2 := s46 hcf hE b.m false hm
  have h3 := s46 hcf hE b.o false ho
  refine ev_ofC' hcf h26 ?_
  cases hs : saneB b with
  | true =>
    rw [if_pos rfl]
    simp only [hB]
    conv => arg 2; simp only [ir26]
    conv => arg 3; simp only [ir26, Go.Proofs.YtcphpiboamlanaaEv.start, List.length, Nat.reduceAdd, Nat.reduceSub, List.reduceReplicate, List.append_eq, List.cons_append, List.nil_append]
    conv => arg 4; simp only [heapOf]
    try conv => arg 5; simp only [List.length, Nat.reduceAdd]
    try conv => arg 6; simp only [List.length, Nat.reduceAdd]
    refine EVgo9 (And.intro (@bE.eq_1) ( And.intro (@slP.eq_1) (hs))) (h14) (h1) (h2) (h3) trivial trivial trivial trivial trivial trivial trivial ?_
    exact WQ.ret rfl
  | false =>
    rw [if_neg (by simp)]
    conv => arg 2; simp only [ir26]
    conv => arg 3; simp only [ir26, Go.Proofs.YtcphpiboamlanaaEv.start, List.length, Nat.reduceAdd, Nat.reduceSub, List.reduceReplicate, List.append_eq, List.cons_append, List.nil_append]
    conv => arg 4; simp only [heapOf]
    try conv => arg 5; simp only [List.length, Nat.reduceAdd]
    try conv => arg 6; simp only [List.length, Nat.reduceAdd]
    refine EVgo9 (And.intro (@bE.eq_1) ( And.intro (@slP.eq_1) (hs))) (h14) trivial trivial trivial trivial trivial trivial trivial trivial trivial trivial ?_
    exact WQ.ret rfl
end
theorem env_but : ∀ n, n ≠ 26 → envB26 n = env n := fun n hn => by
  show _ = if n = 26 then _ else _
  rw [if_neg hn]
section
variable {cf : CF} (hcf : cf = ev env)
include hcf
theorem s26 (b : Bd) (hc : b.c.length ≤ 1000000) (hm : b.m.length ≤ 1000000) (ho : b.o.length ≤ 1000000) : cf 26 [bE b] [] = some (.ptr 0 0, hB (ownB b) (ownB b).c (ownB b).m (ownB b).o) := by
  subst hcf
  have hi := s26i (cf := ev envB26) rfl env_but b envZ26 hc hm ho
  refine ev_prim envP26 _ _ ?_
  unfold ownG
  rw [hi]
  unfold ownB
  cases hs : saneB b with
  | true => rfl
  | false => rfl
end
end Go.Proofs.YtcphpiboamlanaaR
