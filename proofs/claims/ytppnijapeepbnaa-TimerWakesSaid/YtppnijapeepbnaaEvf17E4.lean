/- timer.Put (DOES NOT BUILD YET: it ran beyond 250 s; find the slow step). -/
import Derived.Test.YtppnijapeepbnaaEvf17E3
open Go Go.Proofs.YtppnijapeepbnaaEv Go.Proofs.YtppnijapeepbnaaR Go.IntWalk Go.Proofs
set_option maxRecDepth 20000
set_option maxHeartbeats 8000000
set_option linter.unusedVariables false
set_option linter.unusedSimpArgs false
namespace Go.Proofs.YtppnijapeepbnaaR
def putL (l : List Np) (x : Np) : List Np := if mayB x = true ∧ hasN (saneL l) x.1 = false then sortR [] (saneL l ++ [x]) else saneL l
def putOk (l : List Np) (x : Np) : Bool := mayB x && !hasN (saneL l) x.1
section
variable {cf : CF} (hcf : cf = ev env)
include hcf
theorem s8 (l : List Np) (x : Np) (hl : l.length ≤ 1000000) (hs : (saneL l).length < 19) : Sp cf 8 [slN l, .int .i64 x.1, .int .i64 x.2] (.tup [slN (putL l x), .bool (putOk l x)]) := by
  have h22 := s22 hcf env_but l hl
  have h23 := s23 hcf env_but x
  have h25 := s25 hcf x.1
  have h26 := s26v hcf (saneL l) (by omega)
  have h24 := s24 hcf (saneL l) x.1 (by omega)
  have h27 := s27 hcf (saneL l ++ [x]) (by simp; omega)
  obtain ⟨x, y⟩ := x
  generalize hm : saneL l = m at *
  refine sp_of hcf env8 ?_
  unfold putL putOk
  rw [hm]
  simp only [encN] at h23
  cases h1 : mayB (x, y) with
  | false =>
    rw [h1] at h23
    rw [if_neg (by simp)]
    simp only [slN] at *
    conv => arg 2; simp only [ir8]
    conv => arg 3; simp only [ir8, Go.Proofs.YtppnijapeepbnaaEv.start, List.length, Nat.reduceAdd, Nat.reduceSub, List.reduceReplicate, List.append_eq, List.cons_append, List.nil_append]
    conv => arg 4; simp only [heapOf]
    try conv => arg 5; simp only [List.length, Nat.reduceAdd]
    try conv => arg 6; simp only [List.length, Nat.reduceAdd]
    refine EVgo9 trivial (h22) (h23) trivial trivial trivial trivial trivial trivial trivial trivial trivial ?_
    exact EVret trivial
  | true =>
    rw [h1] at h23
    cases h2 : hasN m x with
    | true =>
      rw [h2] at h24
      rw [if_neg (by simp)]
      simp only [slN] at *
      conv => arg 2; simp only [ir8]
      conv => arg 3; simp only [ir8, Go.Proofs.YtppnijapeepbnaaEv.start, List.length, Nat.reduceAdd, Nat.reduceSub, List.reduceReplicate, List.append_eq, List.cons_append, List.nil_append]
      conv => arg 4; simp only [heapOf]
      try conv => arg 5; simp only [List.length, Nat.reduceAdd]
      try conv => arg 6; simp only [List.length, Nat.reduceAdd]
      refine EVgo9 trivial (h22) (h23) (h25) (h24) trivial trivial trivial trivial trivial trivial trivial ?_
      exact EVret trivial
    | false =>
      rw [h2] at h24
      rw [if_pos ⟨rfl, rfl⟩]
      simp only [slN] at *
      conv => arg 2; simp only [ir8]
      conv => arg 3; simp only [ir8, Go.Proofs.YtppnijapeepbnaaEv.start, List.length, Nat.reduceAdd, Nat.reduceSub, List.reduceReplicate, List.append_eq, List.cons_append, List.nil_append]
      conv => arg 4; simp only [heapOf]
      try conv => arg 5; simp only [List.length, Nat.reduceAdd]
      try conv => arg 6; simp only [List.length, Nat.reduceAdd]
      have hm2 : (m ++ [(x, y)]).length = m.length + 1 := snoc_len _ _
      rw [hm2] at h27
      have hz := sortR_len [] (m ++ [(x, y)])
      rw [hm2] at hz
      generalize sortR [] (m ++ [(x, y)]) = z at *
      have hz1 : z.length = m.length + 1 := by rw [hz]; simp
      have hza : List.take ((m.length + 1) * 2) (flat encN z) = flat encN z := by rw [← hz1]; exact allN z
      clear hz
      have hlm := lenN m
      refine EVgo9 (And.intro (allN) ( And.intro (lenN) (snocN))) (h22) (h23) (h25) (h24) (h26) (h27) trivial trivial trivial trivial trivial ?_
      exact EVret (And.intro (hz1) (hza))
end
end Go.Proofs.YtppnijapeepbnaaR
