/- Evf08N: a part of the proof. -/
import Derived.Test.YtcphpiboamlanaaEvf08M
open Go Go.Proofs.YtcphpiboamlanaaEv Go.Proofs.YtcphpiboamlanaaR Go.IntWalk
set_option maxRecDepth 20000
set_option maxHeartbeats 8000000
set_option linter.unusedVariables false
set_option linter.unusedSimpArgs false
namespace Go.Proofs.YtcphpiboamlanaaR
/-- a thread of a size that the walks take -/
structure Few (b : Bd) : Prop where
  c : b.c.length ≤ 100000
  m : b.m.length ≤ 100000
  o : b.o.length ≤ 100000
theorem own_good {b : Bd} (h : Few b) : Good (ownB b) := by
  unfold ownB
  cases hs : saneB b with
  | true => exact show Good b from ⟨hs, ⟨by have := h.c; omega, by have := h.m; omega, by have := h.o; omega⟩, by have := h.m; omega⟩
  | false => exact show Good emp from ⟨rfl, ⟨by show 0 ≤ _; omega, by show 0 ≤ _; omega, by show 0 ≤ _; omega⟩, by show 0 < _; omega⟩
def emitB (b : Bd) (l : List Pr) : Bd × Int := if (ownB b).c.length + l.length ≤ 4096 then (⟨(ownB b).c ++ l, (ownB b).m, (ownB b).o⟩, 0) else (ownB b, -8)
def encEmit (x : Bd × Int) : PV := .tup [bE x.1, .int .i64 x.2]
def endB (b : Bd) : List Pr × Int := if (ownB b).m = [] then (if (ownB b).c.length + 1 ≤ 4096 then ((ownB b).c ++ [(4, 0)], 0) else ([], -8)) else ([], -22)
def encEnd (x : List Pr × Int) : PV := .tup [slP x.1, .int .i64 x.2]
section
variable {cf : CF} (hcf : cf = ev env)
include hcf
theorem s19 (b : Bd) (l : List Pr) (hb : Few b) (hl : l.length ≤ 1000000) : Sp cf 19 [bE b, slP l] (encEmit (emitB b l)) := by
  have h26 := s26 hcf b (by have := hb.c; omega) (by have := hb.m; omega) (by have := hb.o; omega)
  have hg := own_good hb
  refine sp_of hcf env19 ?_
  by_cases h : (ownB b).c.length + l.length ≤ 4096
  · have h28 := s28 hcf (ownB b) (ownB b).c (ownB b).m (ownB b).o l (Rw.refl _) hg.sm hl h
    simp only [emitB, if_pos h, encEmit]
    simp only [hB, bE, slP] at h26 h28 ⊢
    conv => arg 2; simp only [ir19]
    conv => arg 3; simp only [ir19, Go.Proofs.YtcphpiboamlanaaEv.start, List.length, Nat.reduceAdd, Nat.reduceSub, List.reduceReplicate, List.append_eq, List.cons_append, List.nil_append]
    conv => arg 4; simp only [heapOf]
    try conv => arg 5; simp only [List.length, Nat.reduceAdd]
    try conv => arg 6; simp only [List.length, Nat.reduceAdd]
    refine EVgo9 trivial (h26) (h28) trivial trivial trivial trivial trivial trivial trivial trivial trivial ?_
    exact EVret (allP)
  · have h28 := s28n hcf (ownB b) (ownB b).c (ownB b).m (ownB b).o l (Rw.refl _) hg.sm hl h
    simp only [emitB, if_neg h, encEmit]
    simp only [hB, bE, slP] at h26 h28 ⊢
    conv => arg 2; simp only [ir19]
    conv => arg 3; simp only [ir19, Go.Proofs.YtcphpiboamlanaaEv.start, List.length, Nat.reduceAdd, Nat.reduceSub, List.reduceReplicate, List.append_eq, List.cons_append, List.nil_append]
    conv => arg 4; simp only [heapOf]
    try conv => arg 5; simp only [List.length, Nat.reduceAdd]
    try conv => arg 6; simp only [List.length, Nat.reduceAdd]
    refine EVgo9 trivial (h26) (h28) trivial trivial trivial trivial trivial trivial trivial trivial trivial ?_
    exact EVret (allP)
theorem s11 (b : Bd) (hb : Few b) : Sp cf 11 [bE b] (encEnd (endB b)) := by
  have h26 := s26 hcf b (by have := hb.c; omega) (by have := hb.m; omega) (by have := hb.o; omega)
  have hg := own_good hb
  refine sp_of hcf env11 ?_
  by_cases hm : (ownB b).m = []
  · have l0 : (ownB b).m.length = 0 := by rw [hm]; rfl
    have n0 : ¬ (((ownB b).m.length : Int) > 0) := by omega
    by_cases h : (ownB b).c.length + 1 ≤ 4096
    · have h28 := s28 hcf (ownB b) (ownB b).c (ownB b).m (ownB b).o [(4, 0)] (Rw.refl _) hg.sm (by simp) (by simp; omega)
      have e : endB b = _ := (if_pos hm).trans (if_pos h)
      rw [e]
      simp only [encEnd]
      simp only [hB, bE, slP] at h26 h28 ⊢
      conv => arg 2; simp only [ir11]
      conv => arg 3; simp only [ir11, Go.Proofs.YtcphpiboamlanaaEv.start, List.length, Nat.reduceAdd, Nat.reduceSub, List.reduceReplicate, List.append_eq, List.cons_append, List.nil_append]
      conv => arg 4; simp only [heapOf]
      try conv => arg 5; simp only [List.length, Nat.reduceAdd]
      try conv => arg 6; simp only [List.length, Nat.reduceAdd]
      refine EVgo9 (n0) (h26) (h28) trivial trivial trivial trivial trivial trivial trivial trivial trivial ?_
      exact EVret (allP)
    · have h28 := s28n hcf (ownB b) (ownB b).c (ownB b).m (ownB b).o [(4, 0)] (Rw.refl _) hg.sm (by simp) (by simp; omega)
      have e : endB b = _ := (if_pos hm).trans (if_neg h)
      rw [e, show encEnd ([], -8) = .tup [.sl 0 false [], .int .i64 (-8)] from rfl]
      simp only [hB, bE, slP] at h26 h28 ⊢
      conv => arg 2; simp only [ir11]
      conv => arg 3; simp only [ir11, Go.Proofs.YtcphpiboamlanaaEv.start, List.length, Nat.reduceAdd, Nat.reduceSub, List.reduceReplicate, List.append_eq, List.cons_append, List.nil_append]
      conv => arg 4; simp only [heapOf]
      try conv => arg 5; simp only [List.length, Nat.reduceAdd]
      try conv => arg 6; simp only [List.length, Nat.reduceAdd]
      refine EVgo9 (n0) (h26) (h28) trivial trivial trivial trivial trivial trivial trivial trivial trivial ?_
      exact EVret trivial
  · have n0 : ((ownB b).m.length : Int) > 0 := by
      have : (ownB b).m.length ≠ 0 := fun q => hm (List.length_eq_zero_iff.1 q)
      omega
    have e : endB b = _ := if_neg hm
    rw [e, show encEnd ([], -22) = .tup [.sl 0 false [], .int .i64 (-22)] from rfl]
    simp only [hB, bE, slP] at h26 ⊢
    conv => arg 2; simp only [ir11]
    conv => arg 3; simp only [ir11, Go.Proofs.YtcphpiboamlanaaEv.start, List.length, Nat.reduceAdd, Nat.reduceSub, List.reduceReplicate, List.append_eq, List.cons_append, List.nil_append]
    conv => arg 4; simp only [heapOf]
    try conv => arg 5; simp only [List.length, Nat.reduceAdd]
    try conv => arg 6; simp only [List.length, Nat.reduceAdd]
    refine EVgo9 (n0) (h26) trivial trivial trivial trivial trivial trivial trivial trivial trivial trivial ?_
    exact EVret trivial
def capN (b : Nat) : Nat := if 97 ≤ b ∧ b ≤ 122 then b - 32 else b
theorem s77 (b : Nat) (hb : b < 256) : Sp cf 77 [.int .u8 (b : Nat)] (.int .u8 (capN b : Nat)) := by
  refine sp_of hcf env77 ?_
  conv => arg 2; simp only [ir77]
  conv => arg 3; simp only [ir77, Go.Proofs.YtcphpiboamlanaaEv.start, List.length, Nat.reduceAdd, Nat.reduceSub, List.reduceReplicate, List.append_eq, List.cons_append, List.nil_append]
  conv => arg 4; simp only [heapOf]
  try conv => arg 5; simp only [List.length, Nat.reduceAdd]
  try conv => arg 6; simp only [List.length, Nat.reduceAdd]
  by_cases h1 : 97 ≤ b
  · have h1' : (b : Int) ≥ 97 := by omega
    by_cases h2 : b ≤ 122
    · have h2' : (b : Int) ≤ 122 := by omega
      have w1 : IntKind.u8.wrap ((b : Int) - 97) = (b : Int) - 97 := by unfold IntKind.wrap; simp [IntKind.signed, IntKind.bits]; omega
      have w2 : IntKind.u8.wrap ((b : Int) - 97 + 65) = ((b - 32 : Nat) : Int) := by unfold IntKind.wrap; simp [IntKind.signed, IntKind.bits]; omega
      have e : capN b = b - 32 := if_pos ⟨h1, h2⟩
      rw [e]
      refine EVgo9 (And.intro (h1') ( And.intro (h2') ( And.intro (w1) (w2)))) trivial trivial trivial trivial trivial trivial trivial trivial trivial trivial trivial ?_
      exact EVret trivial
    · have h2' : ¬ (b : Int) ≤ 122 := by omega
      have e : capN b = b := if_neg fun q => h2 q.2
      rw [e]
      refine EVgo9 (And.intro (h1') (h2')) trivial trivial trivial trivial trivial trivial trivial trivial trivial trivial trivial ?_
      exact EVret trivial
  · have h1' : ¬ (b : Int) ≥ 97 := by omega
    have e : capN b = b := if_neg fun q => h1 q.1
    rw [e]
    refine EVgo9 (h1') trivial trivial trivial trivial trivial trivial trivial trivial trivial trivial trivial ?_
    exact EVret trivial
end
end Go.Proofs.YtcphpiboamlanaaR
