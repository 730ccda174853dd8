/- Evf08X: a part of the proof. -/
import Derived.Test.YtcphpiboamlanaaEvf08W
import Derived.Test.YtcphpiboamlanaaEvf08X0
open Go Go.Proofs.YtcphpiboamlanaaEv Go.Proofs.YtcphpiboamlanaaR Go.IntWalk
set_option maxRecDepth 20000
set_option maxHeartbeats 16000000
set_option linter.unusedVariables false
set_option linter.unusedSimpArgs false
namespace Go.Proofs.YtcphpiboamlanaaR
section
variable {cf : CF} (hcf : cf = ev env)
include hcf
theorem s6 (b : Bd) (l : List Pr) (w : ByteArray) : Sp cf 6 [bE b, slP l, .str w] (.bool true) := by
  have h9 := s9 hcf
  have h13 := s13 hcf b
  refine sp_of hcf env6 ?_
  cases hf : fewB b with
  | false =>
    rw [hf] at h13
    simp only [bE, slP] at h13 ⊢
    conv => arg 2; simp only [ir6]
    conv => arg 3; simp only [ir6, Go.Proofs.YtcphpiboamlanaaEv.start, List.length, Nat.reduceAdd, Nat.reduceSub, List.reduceReplicate, List.append_eq, List.cons_append, List.nil_append]
    conv => arg 4; simp only [heapOf]
    try conv => arg 5; simp only [List.length, Nat.reduceAdd]
    try conv => arg 6; simp only [List.length, Nat.reduceAdd]
    refine EVgo9 trivial (h9) (h13) trivial trivial trivial trivial trivial trivial trivial trivial trivial ?_
    exact EVret trivial
  | true =>
    rw [hf] at h13
    by_cases hl : l.length ≤ 200
    · have hl' : ¬ (l.length : Int) > 200 := by omega
      by_cases hw : w.size ≤ 100
      · have hw' : ¬ (w.size : Int) > 100 := by omega
        have f := few_few hf
        have f0 := few_of hf
        have h15 := s15 hcf b (by omega) (by omega)
        have h19 := s19 hcf b l f (by omega)
        have h20 := s20 hcf b l f.mid (by omega)
        have h10 := s10 hcf b w f (by omega)
        have h21 := s21 hcf b w f (by omega)
        have h11 := s11 hcf b f
        have h22 := s22 hcf b f
        have fe := few_emit (b := b) (l := l) ⟨by omega, by omega⟩
        have fw := few_word (b := b) w ⟨by omega, by omega⟩
        have h18e := s18 hcf (emitB b l).1 (by have := fe.m; omega) (by have := fe.o; omega)
        have h17e := s17 hcf (emitB b l).1 fe
        have h18w := s18 hcf (wordB b w).1 (by have := fw.m; omega) (by have := fw.o; omega)
        have h17w := s17 hcf (wordB b w).1 fw
        have h23 := s23 hcf (endB b).1 (end_len b)
        have h14 := s14 hcf (fun _ _ => rfl) b (by omega) (by omega)
        have h24 := s24 hcf b (by omega) (by omega) (by omega)
        have h12 := s12 hcf l (by omega)
        have h25 := s25 hcf l (by omega)
        generalize emitB b l = x at *
        generalize wordB b w = y at *
        generalize endB b = z at *
        generalize saneB b = p at *
        generalize wholeB l = q at *
        have e1 : (x.2 == x.2) = true := beq_self_eq_true _
        have e2 : (y.2.1 == y.2.1) = true := beq_self_eq_true _
        have e3 : (y.2.2 == y.2.2) = true := beq_self_eq_true _
        have e4 : (z.2 == z.2) = true := beq_self_eq_true _
        have e5 : (p == p) = true := beq_self_eq_true _
        have e6 : (q == q) = true := beq_self_eq_true _
        simp only [encEmit, encWord, encEnd, bE, slP] at h13 h15 h19 h20 h10 h21 h11 h22 h18e h17e h18w h17w h23 h14 h24 h12 h25 ⊢
        conv => arg 2; simp only [ir6]
        conv => arg 3; simp only [ir6, Go.Proofs.YtcphpiboamlanaaEv.start, List.length, Nat.reduceAdd, Nat.reduceSub, List.reduceReplicate, List.append_eq, List.cons_append, List.nil_append]
        conv => arg 4; simp only [heapOf]
        try conv => arg 5; simp only [List.length, Nat.reduceAdd]
        try conv => arg 6; simp only [List.length, Nat.reduceAdd]
        refine EVgo9 (And.intro (hl') (hw')) (h9) (h13) (h15) (h19) (h20) (h10) (h21) (h11) (h22) trivial trivial ?_
        refine EVgo9 (And.intro (e1) ( And.intro (e2) ( And.intro (e3) ( And.intro (e4) ( And.intro (e5) (e6)))))) (h18e) (h17e) (h18w) (h17w) (h23) (h15) (h14) (h24) (h12) trivial trivial ?_
        refine EVgo9 (And.intro (e1) ( And.intro (e2) ( And.intro (e3) ( And.intro (e4) ( And.intro (e5) (e6)))))) (h12) (h25) trivial trivial trivial trivial trivial trivial trivial trivial trivial ?_
        exact EVret trivial
      · have hw' : (w.size : Int) > 100 := by omega
        simp only [bE, slP] at h13 ⊢
        conv => arg 2; simp only [ir6]
        conv => arg 3; simp only [ir6, Go.Proofs.YtcphpiboamlanaaEv.start, List.length, Nat.reduceAdd, Nat.reduceSub, List.reduceReplicate, List.append_eq, List.cons_append, List.nil_append]
        conv => arg 4; simp only [heapOf]
        try conv => arg 5; simp only [List.length, Nat.reduceAdd]
        try conv => arg 6; simp only [List.length, Nat.reduceAdd]
        refine EVgo9 (And.intro (hl') (hw')) (h9) (h13) trivial trivial trivial trivial trivial trivial trivial trivial trivial ?_
        exact EVret trivial
    · have hl' : (l.length : Int) > 200 := by omega
      simp only [bE, slP] at h13 ⊢
      conv => arg 2; simp only [ir6]
      conv => arg 3; simp only [ir6, Go.Proofs.YtcphpiboamlanaaEv.start, List.length, Nat.reduceAdd, Nat.reduceSub, List.reduceReplicate, List.append_eq, List.cons_append, List.nil_append]
      conv => arg 4; simp only [heapOf]
      try conv => arg 5; simp only [List.length, Nat.reduceAdd]
      try conv => arg 6; simp only [List.length, Nat.reduceAdd]
      refine EVgo9 (hl') (h9) (h13) trivial trivial trivial trivial trivial trivial trivial trivial trivial ?_
      exact EVret trivial
end
end Go.Proofs.YtcphpiboamlanaaR
