/- Evf08V: a part of the proof. -/
import Derived.Test.YtcphpiboamlanaaEvf08U
open Go Go.Proofs.YtcphpiboamlanaaEv Go.Proofs.YtcphpiboamlanaaR Go.IntWalk
set_option maxRecDepth 20000
set_option maxHeartbeats 8000000
set_option linter.unusedVariables false
set_option linter.unusedSimpArgs false
namespace Go.Proofs.YtcphpiboamlanaaR
theorem cmpS (u v : List UInt8) : ((⟨u.toArray⟩ : ByteArray).toList == (⟨v.toArray⟩ : ByteArray).toList) = decide (u = v) := by
  rw [toL, toL]
  by_cases h : u = v
  · rw [decide_eq_true h]; exact beq_iff_eq.2 h
  · rw [decide_eq_false h]; exact beq_eq_false_iff_ne.2 h
theorem idxS_is (u : List UInt8) : ∀ (l : List (List UInt8)) (i k : Nat), idxS u l i = ((i + k : Nat) : Int) → l.getD k [] = u ∧ k < l.length
  | [], i, k, h => by
    have : (-1 : Int) = ((i + k : Nat) : Int) := h
    omega
  | x :: r, i, k, h => by
    unfold idxS at h
    by_cases hx : u = x
    · rw [if_pos hx] at h
      obtain rfl : k = 0 := by omega
      exact ⟨hx.symm, by simp⟩
    · rw [if_neg hx] at h
      have hk : k ≠ 0 := by
        intro q
        subst q
        rcases idxS_lt u r (i + 1) with w | ⟨j, hj, w⟩ <;> omega
      obtain ⟨j, rfl⟩ := Nat.exists_eq_succ_of_ne_zero hk
      have := idxS_is u r (i + 1) j (by rw [h]; congr 1; omega)
      exact ⟨this.1, by simpa using this.2⟩
theorem idxS_none (u : List UInt8) : ∀ (l : List (List UInt8)) (i : Nat), idxS u l i = -1 → ∀ w ∈ l, u ≠ w
  | [], i, h, w, hw => absurd hw List.not_mem_nil
  | x :: r, i, h, w, hw => by
    unfold idxS at h
    by_cases hx : u = x
    · rw [if_pos hx] at h
      omega
    · rw [if_neg hx] at h
      rcases List.mem_cons.1 hw with rfl | q
      · exact hx
      · exact idxS_none u r (i + 1) h w q
theorem word_is {s : ByteArray} {k : Nat} (h : wordK s = k) : upL s.toList = theWords.getD k [] := by
  unfold wordK at h
  exact (idxS_is _ _ 0 k (by rw [h, Nat.zero_add])).1.symm
theorem word_none {s : ByteArray} (h : wordK s = -1) {w : List UInt8} (hw : w ∈ theWords) : ((⟨(upL s.toList).toArray⟩ : ByteArray).toList == (⟨w.toArray⟩ : ByteArray).toList) = false := by
  rw [cmpS]
  exact decide_eq_false (idxS_none _ _ 0 h w hw)
theorem Ok.orig {b : Bd} (h : Ok b) {below : Nat} (ht : (topP b.m below 1).2 = true) : ∃ n : Nat, topP b.m below 1 = ((n : Int), true) ∧ n < b.c.length ∧ below + 1 ≤ b.m.length := by
  have q := topP_ok (Prod.ext rfl ht : topP b.m below 1 = ((topP b.m below 1).1, true))
  have w := h.m (1, (topP b.m below 1).1) (by rw [← q.2]; exact getD_mem (by omega))
  have w1 : (topP b.m below 1).1 < b.c.length := w.2.2.2.2 rfl
  have w0 : 0 ≤ (topP b.m below 1).1 := w.2.2.1
  exact ⟨(topP b.m below 1).1.toNat, Prod.ext (by simp only; omega) ht, by omega, q.1⟩
theorem top_of {m : List Pr} {below : Nat} {k : Int} (ht : (topP m below k).2 = true) : ∃ a, topP m below k = (a, true) ∧ below + 1 ≤ m.length :=
  ⟨_, Prod.ext rfl ht, (topP_ok (Prod.ext rfl ht : topP m below k = ((topP m below k).1, true))).1⟩
section
variable {b : Bd}
theorem md (hb : Few b) (ho : Ok b) {c m o : List Pr} (hc : c.length ≤ 100000) (hm : m.length ≤ b.m.length + 10) (hq : o.length ≤ b.o.length + 10) : Mid ⟨c, m, o⟩ := ⟨by show c.length ≤ _; omega, by have := hb.m; show m.length ≤ _; omega, by have := hb.o; show o.length ≤ _; omega⟩
end
theorem kc_len {d : Int} {c o p : List Pr} {n : Nat} (ho : OutOk n o) (hp : ∀ x ∈ p, x ∈ o) (hc : c.length = n) : (killC d c p).length = n := killC_len d c (fun x hx => ho x (hp x hx)) hc
section
variable {cf : CF} (hcf : cf = ev env)
include hcf
theorem s39_3 (b : Bd) (hb : Few b) (ho : Ok b) (u : List UInt8) (hu : u = [66, 69, 71, 73, 78]) : Sp cf 39 [bE b, .str ⟨u.toArray⟩] (encW (wordF 3 b)) := by
  have hc := ho.c
  have q0 : ((⟨u.toArray⟩ : ByteArray).toList == (⟨#[73, 70]⟩ : ByteArray).toList) = false := (cmpS u [73, 70]).trans (by rw [hu]; decide)
  have q3 : ((⟨u.toArray⟩ : ByteArray).toList == (⟨#[66, 69, 71, 73, 78]⟩ : ByteArray).toList) = true := (cmpS u [66, 69, 71, 73, 78]).trans (by rw [hu]; decide)
  have q8 : ((⟨u.toArray⟩ : ByteArray).toList == (⟨#[68, 79]⟩ : ByteArray).toList) = false := (cmpS u [68, 79]).trans (by rw [hu]; decide)
  have q9 : ((⟨u.toArray⟩ : ByteArray).toList == (⟨#[63, 68, 79]⟩ : ByteArray).toList) = false := (cmpS u [63, 68, 79]).trans (by rw [hu]; decide)
  have w : IntKind.i64.wrap ((b.c.length : Int) + 1) = (b.c.length : Int) + 1 := i64_in _ (by omega)
  have h64 := s64 hcf b 2 (b.c.length : Int) hb.mid
  refine sp_of hcf env39 ?_
  have e : wordF 3 b = beginW b := rfl
  rw [e]
  unfold beginW
  simp only [encW, bE, slP] at h64 ⊢
  conv => arg 2; simp only [ir39]
  conv => arg 3; simp only [ir39, Go.Proofs.YtcphpiboamlanaaEv.start, List.length, Nat.reduceAdd, Nat.reduceSub, List.reduceReplicate, List.append_eq, List.cons_append, List.nil_append]
  conv => arg 4; simp only [heapOf]
  try conv => arg 5; simp only [List.length, Nat.reduceAdd]
  try conv => arg 6; simp only [List.length, Nat.reduceAdd]
  refine EVgo9 (And.intro (q0) ( And.intro (q3) ( And.intro (q8) (q9)))) (h64) trivial trivial trivial trivial trivial trivial trivial trivial trivial trivial ?_
  exact EVret trivial
theorem s39_0 (b : Bd) (hb : Few b) (ho : Ok b) (u : List UInt8) (hu : u = [73, 70]) : Sp cf 39 [bE b, .str ⟨u.toArray⟩] (encW (wordF 0 b)) := by
  have hc := ho.c
  have q0 : ((⟨u.toArray⟩ : ByteArray).toList == (⟨#[73, 70]⟩ : ByteArray).toList) = true := (cmpS u [73, 70]).trans (by rw [hu]; decide)
  have q3 : ((⟨u.toArray⟩ : ByteArray).toList == (⟨#[66, 69, 71, 73, 78]⟩ : ByteArray).toList) = false := (cmpS u [66, 69, 71, 73, 78]).trans (by rw [hu]; decide)
  have q8 : ((⟨u.toArray⟩ : ByteArray).toList == (⟨#[68, 79]⟩ : ByteArray).toList) = false := (cmpS u [68, 79]).trans (by rw [hu]; decide)
  have q9 : ((⟨u.toArray⟩ : ByteArray).toList == (⟨#[63, 68, 79]⟩ : ByteArray).toList) = false := (cmpS u [63, 68, 79]).trans (by rw [hu]; decide)
  have w : IntKind.i64.wrap ((b.c.length : Int) + 1) = (b.c.length : Int) + 1 := i64_in _ (by omega)
  have h44 := s44 hcf b 2 0 hb.mid
  refine sp_of hcf env39 ?_
  have e : wordF 0 b = openW 2 1 0 b := rfl
  rw [e]
  by_cases h : b.c.length + 1 ≤ 4096
  · rw [emit_y ho (by simpa using h)] at h44
    have e2 : openW 2 1 0 b = _ := if_pos h
    rw [e2]
    rw [Int.add_zero]
    have h64 := s64 hcf ⟨(b.c ++ [(2, 0)]), b.m, b.o⟩ 1 (b.c.length : Int) (md hb ho (by simp; omega) (by simp) (by simp))
    simp only [encW, encEmit, bE, slP] at h44 h64 ⊢
    conv => arg 2; simp only [ir39]
    conv => arg 3; simp only [ir39, Go.Proofs.YtcphpiboamlanaaEv.start, List.length, Nat.reduceAdd, Nat.reduceSub, List.reduceReplicate, List.append_eq, List.cons_append, List.nil_append]
    conv => arg 4; simp only [heapOf]
    try conv => arg 5; simp only [List.length, Nat.reduceAdd]
    try conv => arg 6; simp only [List.length, Nat.reduceAdd]
    refine EVgo9 (And.intro (q0) ( And.intro (q3) ( And.intro (q8) ( And.intro (q9) (w))))) (h44) (h64) trivial trivial trivial trivial trivial trivial trivial trivial trivial ?_
    exact EVret trivial
  · rw [emit_n ho (by simpa using h)] at h44
    have e2 : openW 2 1 0 b = _ := if_neg h
    rw [e2]
    simp only [encW, encEmit, bE, slP] at h44 ⊢
    conv => arg 2; simp only [ir39]
    conv => arg 3; simp only [ir39, Go.Proofs.YtcphpiboamlanaaEv.start, List.length, Nat.reduceAdd, Nat.reduceSub, List.reduceReplicate, List.append_eq, List.cons_append, List.nil_append]
    conv => arg 4; simp only [heapOf]
    try conv => arg 5; simp only [List.length, Nat.reduceAdd]
    try conv => arg 6; simp only [List.length, Nat.reduceAdd]
    refine EVgo9 (And.intro (q0) ( And.intro (q3) ( And.intro (q8) ( And.intro (q9) (w))))) (h44) trivial trivial trivial trivial trivial trivial trivial trivial trivial trivial ?_
    exact EVret trivial
theorem s39_8 (b : Bd) (hb : Few b) (ho : Ok b) (u : List UInt8) (hu : u = [68, 79]) : Sp cf 39 [bE b, .str ⟨u.toArray⟩] (encW (wordF 8 b)) := by
  have hc := ho.c
  have q0 : ((⟨u.toArray⟩ : ByteArray).toList == (⟨#[73, 70]⟩ : ByteArray).toList) = false := (cmpS u [73, 70]).trans (by rw [hu]; decide)
  have q3 : ((⟨u.toArray⟩ : ByteArray).toList == (⟨#[66, 69, 71, 73, 78]⟩ : ByteArray).toList) = false := (cmpS u [66, 69, 71, 73, 78]).trans (by rw [hu]; decide)
  have q8 : ((⟨u.toArray⟩ : ByteArray).toList == (⟨#[68, 79]⟩ : ByteArray).toList) = true := (cmpS u [68, 79]).trans (by rw [hu]; decide)
  have q9 : ((⟨u.toArray⟩ : ByteArray).toList == (⟨#[63, 68, 79]⟩ : ByteArray).toList) = false := (cmpS u [63, 68, 79]).trans (by rw [hu]; decide)
  have w : IntKind.i64.wrap ((b.c.length : Int) + 1) = (b.c.length : Int) + 1 := i64_in _ (by omega)
  have h44 := s44 hcf b 5 0 hb.mid
  refine sp_of hcf env39 ?_
  have e : wordF 8 b = openW 5 3 1 b := rfl
  rw [e]
  by_cases h : b.c.length + 1 ≤ 4096
  · rw [emit_y ho (by simpa using h)] at h44
    have e2 : openW 5 3 1 b = _ := if_pos h
    rw [e2]
    have h64 := s64 hcf ⟨(b.c ++ [(5, 0)]), b.m, b.o⟩ 3 ((b.c.length : Int) + 1) (md hb ho (by simp; omega) (by simp) (by simp))
    simp only [encW, encEmit, bE, slP] at h44 h64 ⊢
    conv => arg 2; simp only [ir39]
    conv => arg 3; simp only [ir39, Go.Proofs.YtcphpiboamlanaaEv.start, List.length, Nat.reduceAdd, Nat.reduceSub, List.reduceReplicate, List.append_eq, List.cons_append, List.nil_append]
    conv => arg 4; simp only [heapOf]
    try conv => arg 5; simp only [List.length, Nat.reduceAdd]
    try conv => arg 6; simp only [List.length, Nat.reduceAdd]
    refine EVgo9 (And.intro (q0) ( And.intro (q3) ( And.intro (q8) ( And.intro (q9) (w))))) (h44) (h64) trivial trivial trivial trivial trivial trivial trivial trivial trivial ?_
    exact EVret trivial
  · rw [emit_n ho (by simpa using h)] at h44
    have e2 : openW 5 3 1 b = _ := if_neg h
    rw [e2]
    simp only [encW, encEmit, bE, slP] at h44 ⊢
    conv => arg 2; simp only [ir39]
    conv => arg 3; simp only [ir39, Go.Proofs.YtcphpiboamlanaaEv.start, List.length, Nat.reduceAdd, Nat.reduceSub, List.reduceReplicate, List.append_eq, List.cons_append, List.nil_append]
    conv => arg 4; simp only [heapOf]
    try conv => arg 5; simp only [List.length, Nat.reduceAdd]
    try conv => arg 6; simp only [List.length, Nat.reduceAdd]
    refine EVgo9 (And.intro (q0) ( And.intro (q3) ( And.intro (q8) ( And.intro (q9) (w))))) (h44) trivial trivial trivial trivial trivial trivial trivial trivial trivial trivial ?_
    exact EVret trivial
theorem s39_9 (b : Bd) (hb : Few b) (ho : Ok b) (u : List UInt8) (hu : u = [63, 68, 79]) : Sp cf 39 [bE b, .str ⟨u.toArray⟩] (encW (wordF 9 b)) := by
  have hc := ho.c
  have q0 : ((⟨u.toArray⟩ : ByteArray).toList == (⟨#[73, 70]⟩ : ByteArray).toList) = false := (cmpS u [73, 70]).trans (by rw [hu]; decide)
  have q3 : ((⟨u.toArray⟩ : ByteArray).toList == (⟨#[66, 69, 71, 73, 78]⟩ : ByteArray).toList) = false := (cmpS u [66, 69, 71, 73, 78]).trans (by rw [hu]; decide)
  have q8 : ((⟨u.toArray⟩ : ByteArray).toList == (⟨#[68, 79]⟩ : ByteArray).toList) = false := (cmpS u [68, 79]).trans (by rw [hu]; decide)
  have q9 : ((⟨u.toArray⟩ : ByteArray).toList == (⟨#[63, 68, 79]⟩ : ByteArray).toList) = true := (cmpS u [63, 68, 79]).trans (by rw [hu]; decide)
  have w : IntKind.i64.wrap ((b.c.length : Int) + 1) = (b.c.length : Int) + 1 := i64_in _ (by omega)
  have h44 := s44 hcf b 6 0 hb.mid
  refine sp_of hcf env39 ?_
  have e : wordF 9 b = mayW b := rfl
  rw [e]
  by_cases h : b.c.length + 1 ≤ 4096
  · rw [emit_y ho (by simpa using h)] at h44
    have e2 : mayW b = _ := if_pos h
    rw [e2]
    have h64 := s64 hcf ⟨(b.c ++ [(6, 0)]), b.m, b.o⟩ 3 ((b.c.length : Int) + 1) (md hb ho (by simp; omega) (by simp) (by simp))
    have h65 := s65 hcf ⟨(b.c ++ [(6, 0)]), b.m ++ [(3, ((b.c.length : Int) + 1))], b.o⟩ (b.c.length : Int) (md hb ho (by simp; omega) (by simp only [List.length_append, List.length_take, List.length_cons, List.length_nil]; omega) (by simp))
    simp only [encW, encEmit, bE, slP] at h44 h64 h65 ⊢
    conv => arg 2; simp only [ir39]
    conv => arg 3; simp only [ir39, Go.Proofs.YtcphpiboamlanaaEv.start, List.length, Nat.reduceAdd, Nat.reduceSub, List.reduceReplicate, List.append_eq, List.cons_append, List.nil_append]
    conv => arg 4; simp only [heapOf]
    try conv => arg 5; simp only [List.length, Nat.reduceAdd]
    try conv => arg 6; simp only [List.length, Nat.reduceAdd]
    refine EVgo9 (And.intro (q0) ( And.intro (q3) ( And.intro (q8) ( And.intro (q9) (w))))) (h44) (h64) (h65) trivial trivial trivial trivial trivial trivial trivial trivial ?_
    exact EVret trivial
  · rw [emit_n ho (by simpa using h)] at h44
    have e2 : mayW b = _ := if_neg h
    rw [e2]
    simp only [encW, encEmit, bE, slP] at h44 ⊢
    conv => arg 2; simp only [ir39]
    conv => arg 3; simp only [ir39, Go.Proofs.YtcphpiboamlanaaEv.start, List.length, Nat.reduceAdd, Nat.reduceSub, List.reduceReplicate, List.append_eq, List.cons_append, List.nil_append]
    conv => arg 4; simp only [heapOf]
    try conv => arg 5; simp only [List.length, Nat.reduceAdd]
    try conv => arg 6; simp only [List.length, Nat.reduceAdd]
    refine EVgo9 (And.intro (q0) ( And.intro (q3) ( And.intro (q8) ( And.intro (q9) (w))))) (h44) trivial trivial trivial trivial trivial trivial trivial trivial trivial trivial ?_
    exact EVret trivial
theorem s40_2 (b : Bd) (hb : Few b) (ho : Ok b) (u : List UInt8) (hu : u = [84, 72, 69, 78]) : Sp cf 40 [bE b, .str ⟨u.toArray⟩] (encW (wordF 2 b)) := by
  have hc := ho.c
  have q2 : ((⟨u.toArray⟩ : ByteArray).toList == (⟨#[84, 72, 69, 78]⟩ : ByteArray).toList) = true := (cmpS u [84, 72, 69, 78]).trans (by rw [hu]; decide)
  have h66 := s66 hcf b 0 1 (by have := hb.m; omega) (by omega)
  refine sp_of hcf env40 ?_
  have e : wordF 2 b = thenW b := rfl
  rw [e]
  cases ht : (topP b.m 0 1).2 with
  | false =>
    have e2 : thenW b = (-22, b) := by unfold thenW; rw [ht]; rfl
    rw [e2]
    rw [topP_n ht] at h66
    simp only [encW, encTop, bE, slP] at h66 ⊢
    conv => arg 2; simp only [ir40]
    conv => arg 3; simp only [ir40, Go.Proofs.YtcphpiboamlanaaEv.start, List.length, Nat.reduceAdd, Nat.reduceSub, List.reduceReplicate, List.append_eq, List.cons_append, List.nil_append]
    conv => arg 4; simp only [heapOf]
    try conv => arg 5; simp only [List.length, Nat.reduceAdd]
    try conv => arg 6; simp only [List.length, Nat.reduceAdd]
    refine EVgo9 (q2) (h66) trivial trivial trivial trivial trivial trivial trivial trivial trivial trivial ?_
    exact EVret trivial
  | true =>
    obtain ⟨n, en, hn, hm⟩ := ho.orig ht
    rw [en] at h66
    have h68 := s68 hcf b 1 hb.mid (by omega)
    have h67 := s67 hcf ⟨b.c, b.m.take (b.m.length - 1), b.o⟩ n (md hb ho (by omega) (by simp only [List.length_take]; omega) (by simp)) hn
    have e2 : thenW b = (0, ⟨resC b.c n, b.m.take (b.m.length - 1), b.o⟩) := by unfold thenW; rw [en]; rfl
    rw [e2]
    simp only [encW, encTop, bE, slP] at h66 h67 h68 ⊢
    conv => arg 2; simp only [ir40]
    conv => arg 3; simp only [ir40, Go.Proofs.YtcphpiboamlanaaEv.start, List.length, Nat.reduceAdd, Nat.reduceSub, List.reduceReplicate, List.append_eq, List.cons_append, List.nil_append]
    conv => arg 4; simp only [heapOf]
    try conv => arg 5; simp only [List.length, Nat.reduceAdd]
    try conv => arg 6; simp only [List.length, Nat.reduceAdd]
    refine EVgo9 (q2) (h66) (h68) (h67) trivial trivial trivial trivial trivial trivial trivial trivial ?_
    exact EVret trivial
theorem s40_1 (b : Bd) (hb : Few b) (ho : Ok b) (u : List UInt8) (hu : u = [69, 76, 83, 69]) : Sp cf 40 [bE b, .str ⟨u.toArray⟩] (encW (wordF 1 b)) := by
  have hc := ho.c
  have q2 : ((⟨u.toArray⟩ : ByteArray).toList == (⟨#[84, 72, 69, 78]⟩ : ByteArray).toList) = false := (cmpS u [84, 72, 69, 78]).trans (by rw [hu]; decide)
  have h66 := s66 hcf b 0 1 (by have := hb.m; omega) (by omega)
  refine sp_of hcf env40 ?_
  have e : wordF 1 b = elseW b := rfl
  rw [e]
  cases ht : (topP b.m 0 1).2 with
  | false =>
    have e2 : elseW b = (-22, b) := by unfold elseW; rw [ht]; rfl
    rw [e2]
    rw [topP_n ht] at h66
    simp only [encW, encTop, bE, slP] at h66 ⊢
    conv => arg 2; simp only [ir40]
    conv => arg 3; simp only [ir40, Go.Proofs.YtcphpiboamlanaaEv.start, List.length, Nat.reduceAdd, Nat.reduceSub, List.reduceReplicate, List.append_eq, List.cons_append, List.nil_append]
    conv => arg 4; simp only [heapOf]
    try conv => arg 5; simp only [List.length, Nat.reduceAdd]
    try conv => arg 6; simp only [List.length, Nat.reduceAdd]
    refine EVgo9 (q2) (h66) trivial trivial trivial trivial trivial trivial trivial trivial trivial trivial ?_
    exact EVret trivial
  | true =>
    obtain ⟨n, en, hn, hm⟩ := ho.orig ht
    rw [en] at h66
    have h44 := s44 hcf b 1 0 hb.mid
    by_cases h : b.c.length + 1 ≤ 4096
    · rw [emit_y ho (by simpa using h)] at h44
      have h68 := s68 hcf ⟨b.c ++ [(1, 0)], b.m, b.o⟩ 1 (md hb ho (by simp; omega) (by simp) (by simp)) (by show 1 ≤ b.m.length; omega)
      have h67 := s67 hcf ⟨b.c ++ [(1, 0)], b.m.take (b.m.length - 1), b.o⟩ n (md hb ho (by simp; omega) (by simp only [List.length_take]; omega) (by simp)) (by show n < (b.c ++ [(1, 0)]).length; simp; omega)
      have h64 := s64 hcf ⟨resC (b.c ++ [(1, 0)]) n, b.m.take (b.m.length - 1), b.o⟩ 1 (b.c.length : Int) (md hb ho (by rw [resC_len _ (by simp; omega)]; simp; omega) (by simp only [List.length_take]; omega) (by simp))
      have e2 : elseW b = (0, ⟨resC (b.c ++ [(1, 0)]) n, b.m.take (b.m.length - 1) ++ [(1, (b.c.length : Int))], b.o⟩) := by unfold elseW; rw [en, if_pos rfl, if_pos h]; rfl
      rw [e2]
      simp only [encW, encEmit, encTop, bE, slP] at h44 h64 h66 h67 h68 ⊢
      conv => arg 2; simp only [ir40]
      conv => arg 3; simp only [ir40, Go.Proofs.YtcphpiboamlanaaEv.start, List.length, Nat.reduceAdd, Nat.reduceSub, List.reduceReplicate, List.append_eq, List.cons_append, List.nil_append]
      conv => arg 4; simp only [heapOf]
      try conv => arg 5; simp only [List.length, Nat.reduceAdd]
      try conv => arg 6; simp only [List.length, Nat.reduceAdd]
      refine EVgo9 (q2) (h66) (h44) (h68) (h67) (h64) trivial trivial trivial trivial trivial trivial ?_
      exact EVret trivial
    · rw [emit_n ho (by simpa using h)] at h44
      have e2 : elseW b = (-8, b) := by unfold elseW; rw [en, if_pos rfl, if_neg h]
      rw [e2]
      simp only [encW, encEmit, encTop, bE, slP] at h44 h66 ⊢
      conv => arg 2; simp only [ir40]
      conv => arg 3; simp only [ir40, Go.Proofs.YtcphpiboamlanaaEv.start, List.length, Nat.reduceAdd, Nat.reduceSub, List.reduceReplicate, List.append_eq, List.cons_append, List.nil_append]
      conv => arg 4; simp only [heapOf]
      try conv => arg 5; simp only [List.length, Nat.reduceAdd]
      try conv => arg 6; simp only [List.length, Nat.reduceAdd]
      refine EVgo9 (q2) (h66) (h44) trivial trivial trivial trivial trivial trivial trivial trivial trivial ?_
      exact EVret trivial
theorem s41_4 (b : Bd) (hb : Few b) (ho : Ok b) (u : List UInt8) (hu : u = [65, 71, 65, 73, 78]) : Sp cf 41 [bE b, .str ⟨u.toArray⟩] (encW (wordF 4 b)) := by
  have hc := ho.c
  have q5 : ((⟨u.toArray⟩ : ByteArray).toList == (⟨#[85, 78, 84, 73, 76]⟩ : ByteArray).toList) = false := (cmpS u [85, 78, 84, 73, 76]).trans (by rw [hu]; decide)
  have q6 : ((⟨u.toArray⟩ : ByteArray).toList == (⟨#[87, 72, 73, 76, 69]⟩ : ByteArray).toList) = false := (cmpS u [87, 72, 73, 76, 69]).trans (by rw [hu]; decide)
  have q7 : ((⟨u.toArray⟩ : ByteArray).toList == (⟨#[82, 69, 80, 69, 65, 84]⟩ : ByteArray).toList) = false := (cmpS u [82, 69, 80, 69, 65, 84]).trans (by rw [hu]; decide)
  have h66 := s66 hcf b 0 2 (by have := hb.m; omega) (by omega)
  have h66' := s66 hcf b 1 1 (by have := hb.m; omega) (by omega)
  refine sp_of hcf env41 ?_
  have e : wordF 4 b = backW 1 2 b := rfl
  rw [e]
  cases ht : (topP b.m 0 2).2 with
  | false =>
    have e2 : backW 1 2 b = (-22, b) := by unfold backW; rw [ht]; simp
    rw [e2]
    rw [topP_n ht] at h66
    simp only [encW, encTop, bE, slP] at h66 h66' ⊢
    conv => arg 2; simp only [ir41]
    conv => arg 3; simp only [ir41, Go.Proofs.YtcphpiboamlanaaEv.start, List.length, Nat.reduceAdd, Nat.reduceSub, List.reduceReplicate, List.append_eq, List.cons_append, List.nil_append]
    conv => arg 4; simp only [heapOf]
    try conv => arg 5; simp only [List.length, Nat.reduceAdd]
    try conv => arg 6; simp only [List.length, Nat.reduceAdd]
    refine EVgo9 (And.intro (q5) ( And.intro (q6) (q7))) (h66) (h66') trivial trivial trivial trivial trivial trivial trivial trivial trivial ?_
    exact EVret trivial
  | true =>
    obtain ⟨a, ea, hm⟩ := top_of ht
    rw [ea] at h66
    have h44 := s44 hcf b 1 a hb.mid
    by_cases h : b.c.length + 1 ≤ 4096
    · rw [emit_y ho (by simpa using h)] at h44
      have h68 := s68 hcf ⟨(b.c ++ [(1, a)]), b.m, b.o⟩ 1 (md hb ho (by simp; omega) (by simp) (by simp)) (by show 1 ≤ b.m.length; omega)
      have e2 : backW 1 2 b = (0, ⟨(b.c ++ [(1, a)]), b.m.take (b.m.length - 1), b.o⟩) := by unfold backW; rw [ea, if_pos rfl, if_pos h]
      rw [e2]
      simp only [encW, encEmit, encTop, bE, slP] at h66 h66' h44 h68 ⊢
      conv => arg 2; simp only [ir41]
      conv => arg 3; simp only [ir41, Go.Proofs.YtcphpiboamlanaaEv.start, List.length, Nat.reduceAdd, Nat.reduceSub, List.reduceReplicate, List.append_eq, List.cons_append, List.nil_append]
      conv => arg 4; simp only [heapOf]
      try conv => arg 5; simp only [List.length, Nat.reduceAdd]
      try conv => arg 6; simp only [List.length, Nat.reduceAdd]
      refine EVgo9 (And.intro (q5) ( And.intro (q6) (q7))) (h66) (h66') (h44) (h68) trivial trivial trivial trivial trivial trivial trivial ?_
      exact EVret trivial
    · rw [emit_n ho (by simpa using h)] at h44
      have e2 : backW 1 2 b = (-8, b) := by unfold backW; rw [ea, if_pos rfl, if_neg h]
      rw [e2]
      simp only [encW, encEmit, encTop, bE, slP] at h66 h66' h44 ⊢
      conv => arg 2; simp only [ir41]
      conv => arg 3; simp only [ir41, Go.Proofs.YtcphpiboamlanaaEv.start, List.length, Nat.reduceAdd, Nat.reduceSub, List.reduceReplicate, List.append_eq, List.cons_append, List.nil_append]
      conv => arg 4; simp only [heapOf]
      try conv => arg 5; simp only [List.length, Nat.reduceAdd]
      try conv => arg 6; simp only [List.length, Nat.reduceAdd]
      refine EVgo9 (And.intro (q5) ( And.intro (q6) (q7))) (h66) (h66') (h44) trivial trivial trivial trivial trivial trivial trivial trivial ?_
      exact EVret trivial
theorem s41_5 (b : Bd) (hb : Few b) (ho : Ok b) (u : List UInt8) (hu : u = [85, 78, 84, 73, 76]) : Sp cf 41 [bE b, .str ⟨u.toArray⟩] (encW (wordF 5 b)) := by
  have hc := ho.c
  have q5 : ((⟨u.toArray⟩ : ByteArray).toList == (⟨#[85, 78, 84, 73, 76]⟩ : ByteArray).toList) = true := (cmpS u [85, 78, 84, 73, 76]).trans (by rw [hu]; decide)
  have q6 : ((⟨u.toArray⟩ : ByteArray).toList == (⟨#[87, 72, 73, 76, 69]⟩ : ByteArray).toList) = false := (cmpS u [87, 72, 73, 76, 69]).trans (by rw [hu]; decide)
  have q7 : ((⟨u.toArray⟩ : ByteArray).toList == (⟨#[82, 69, 80, 69, 65, 84]⟩ : ByteArray).toList) = false := (cmpS u [82, 69, 80, 69, 65, 84]).trans (by rw [hu]; decide)
  have h66 := s66 hcf b 0 2 (by have := hb.m; omega) (by omega)
  have h66' := s66 hcf b 1 1 (by have := hb.m; omega) (by omega)
  refine sp_of hcf env41 ?_
  have e : wordF 5 b = backW 2 2 b := rfl
  rw [e]
  cases ht : (topP b.m 0 2).2 with
  | false =>
    have e2 : backW 2 2 b = (-22, b) := by unfold backW; rw [ht]; simp
    rw [e2]
    rw [topP_n ht] at h66
    simp only [encW, encTop, bE, slP] at h66 h66' ⊢
    conv => arg 2; simp only [ir41]
    conv => arg 3; simp only [ir41, Go.Proofs.YtcphpiboamlanaaEv.start, List.length, Nat.reduceAdd, Nat.reduceSub, List.reduceReplicate, List.append_eq, List.cons_append, List.nil_append]
    conv => arg 4; simp only [heapOf]
    try conv => arg 5; simp only [List.length, Nat.reduceAdd]
    try conv => arg 6; simp only [List.length, Nat.reduceAdd]
    refine EVgo9 (And.intro (q5) ( And.intro (q6) (q7))) (h66) (h66') trivial trivial trivial trivial trivial trivial trivial trivial trivial ?_
    exact EVret trivial
  | true =>
    obtain ⟨a, ea, hm⟩ := top_of ht
    rw [ea] at h66
    have h44 := s44 hcf b 2 a hb.mid
    by_cases h : b.c.length + 1 ≤ 4096
    · rw [emit_y ho (by simpa using h)] at h44
      have h68 := s68 hcf ⟨(b.c ++ [(2, a)]), b.m, b.o⟩ 1 (md hb ho (by simp; omega) (by simp) (by simp)) (by show 1 ≤ b.m.length; omega)
      have e2 : backW 2 2 b = (0, ⟨(b.c ++ [(2, a)]), b.m.take (b.m.length - 1), b.o⟩) := by unfold backW; rw [ea, if_pos rfl, if_pos h]
      rw [e2]
      simp only [encW, encEmit, encTop, bE, slP] at h66 h66' h44 h68 ⊢
      conv => arg 2; simp only [ir41]
      conv => arg 3; simp only [ir41, Go.Proofs.YtcphpiboamlanaaEv.start, List.length, Nat.reduceAdd, Nat.reduceSub, List.reduceReplicate, List.append_eq, List.cons_append, List.nil_append]
      conv => arg 4; simp only [heapOf]
      try conv => arg 5; simp only [List.length, Nat.reduceAdd]
      try conv => arg 6; simp only [List.length, Nat.reduceAdd]
      refine EVgo9 (And.intro (q5) ( And.intro (q6) (q7))) (h66) (h66') (h44) (h68) trivial trivial trivial trivial trivial trivial trivial ?_
      exact EVret trivial
    · rw [emit_n ho (by simpa using h)] at h44
      have e2 : backW 2 2 b = (-8, b) := by unfold backW; rw [ea, if_pos rfl, if_neg h]
      rw [e2]
      simp only [encW, encEmit, encTop, bE, slP] at h66 h66' h44 ⊢
      conv => arg 2; simp only [ir41]
      conv => arg 3; simp only [ir41, Go.Proofs.YtcphpiboamlanaaEv.start, List.length, Nat.reduceAdd, Nat.reduceSub, List.reduceReplicate, List.append_eq, List.cons_append, List.nil_append]
      conv => arg 4; simp only [heapOf]
      try conv => arg 5; simp only [List.length, Nat.reduceAdd]
      try conv => arg 6; simp only [List.length, Nat.reduceAdd]
      refine EVgo9 (And.intro (q5) ( And.intro (q6) (q7))) (h66) (h66') (h44) trivial trivial trivial trivial trivial trivial trivial trivial ?_
      exact EVret trivial
theorem s41_6 (b : Bd) (hb : Few b) (ho : Ok b) (u : List UInt8) (hu : u = [87, 72, 73, 76, 69]) : Sp cf 41 [bE b, .str ⟨u.toArray⟩] (encW (wordF 6 b)) := by
  have hc := ho.c
  have q5 : ((⟨u.toArray⟩ : ByteArray).toList == (⟨#[85, 78, 84, 73, 76]⟩ : ByteArray).toList) = false := (cmpS u [85, 78, 84, 73, 76]).trans (by rw [hu]; decide)
  have q6 : ((⟨u.toArray⟩ : ByteArray).toList == (⟨#[87, 72, 73, 76, 69]⟩ : ByteArray).toList) = true := (cmpS u [87, 72, 73, 76, 69]).trans (by rw [hu]; decide)
  have q7 : ((⟨u.toArray⟩ : ByteArray).toList == (⟨#[82, 69, 80, 69, 65, 84]⟩ : ByteArray).toList) = false := (cmpS u [82, 69, 80, 69, 65, 84]).trans (by rw [hu]; decide)
  have h66 := s66 hcf b 0 2 (by have := hb.m; omega) (by omega)
  have h66' := s66 hcf b 1 1 (by have := hb.m; omega) (by omega)
  refine sp_of hcf env41 ?_
  have e : wordF 6 b = whileW b := rfl
  rw [e]
  cases ht : (topP b.m 0 2).2 with
  | false =>
    have e2 : whileW b = (-22, b) := by unfold whileW; rw [ht]; simp
    rw [e2]
    rw [topP_n ht] at h66
    simp only [encW, encTop, bE, slP] at h66 h66' ⊢
    conv => arg 2; simp only [ir41]
    conv => arg 3; simp only [ir41, Go.Proofs.YtcphpiboamlanaaEv.start, List.length, Nat.reduceAdd, Nat.reduceSub, List.reduceReplicate, List.append_eq, List.cons_append, List.nil_append]
    conv => arg 4; simp only [heapOf]
    try conv => arg 5; simp only [List.length, Nat.reduceAdd]
    try conv => arg 6; simp only [List.length, Nat.reduceAdd]
    refine EVgo9 (And.intro (q5) ( And.intro (q6) (q7))) (h66) (h66') trivial trivial trivial trivial trivial trivial trivial trivial trivial ?_
    exact EVret trivial
  | true =>
    obtain ⟨a, ea, hm⟩ := top_of ht
    rw [ea] at h66
    have h44 := s44 hcf b 2 0 hb.mid
    by_cases h : b.c.length + 1 ≤ 4096
    · rw [emit_y ho (by simpa using h)] at h44
      have h68 := s68 hcf ⟨(b.c ++ [(2, 0)]), b.m, b.o⟩ 1 (md hb ho (by simp; omega) (by simp) (by simp)) (by show 1 ≤ b.m.length; omega)
      have h64 := s64 hcf ⟨(b.c ++ [(2, 0)]), b.m.take (b.m.length - 1), b.o⟩ 1 (b.c.length : Int) (md hb ho (by simp; omega) (by simp only [List.length_take]; omega) (by simp))
      have h64' := s64 hcf ⟨(b.c ++ [(2, 0)]), b.m.take (b.m.length - 1) ++ [(1, (b.c.length : Int))], b.o⟩ 2 a (md hb ho (by simp; omega) (by simp only [List.length_append, List.length_take, List.length_cons, List.length_nil]; omega) (by simp))
      have e2 : whileW b = (0, ⟨(b.c ++ [(2, 0)]), b.m.take (b.m.length - 1) ++ [(1, (b.c.length : Int))] ++ [(2, a)], b.o⟩) := by unfold whileW; rw [ea, if_pos rfl, if_pos h]
      rw [e2]
      simp only [encW, encEmit, encTop, bE, slP] at h66 h66' h44 h68 h64 h64' ⊢
      conv => arg 2; simp only [ir41]
      conv => arg 3; simp only [ir41, Go.Proofs.YtcphpiboamlanaaEv.start, List.length, Nat.reduceAdd, Nat.reduceSub, List.reduceReplicate, List.append_eq, List.cons_append, List.nil_append]
      conv => arg 4; simp only [heapOf]
      try conv => arg 5; simp only [List.length, Nat.reduceAdd]
      try conv => arg 6; simp only [List.length, Nat.reduceAdd]
      refine EVgo9 (And.intro (q5) ( And.intro (q6) (q7))) (h66) (h66') (h44) (h68) (h64) (h64') trivial trivial trivial trivial trivial ?_
      exact EVret trivial
    · rw [emit_n ho (by simpa using h)] at h44
      have e2 : whileW b = (-8, b) := by unfold whileW; rw [ea, if_pos rfl, if_neg h]
      rw [e2]
      simp only [encW, encEmit, encTop, bE, slP] at h66 h66' h44 ⊢
      conv => arg 2; simp only [ir41]
      conv => arg 3; simp only [ir41, Go.Proofs.YtcphpiboamlanaaEv.start, List.length, Nat.reduceAdd, Nat.reduceSub, List.reduceReplicate, List.append_eq, List.cons_append, List.nil_append]
      conv => arg 4; simp only [heapOf]
      try conv => arg 5; simp only [List.length, Nat.reduceAdd]
      try conv => arg 6; simp only [List.length, Nat.reduceAdd]
      refine EVgo9 (And.intro (q5) ( And.intro (q6) (q7))) (h66) (h66') (h44) trivial trivial trivial trivial trivial trivial trivial trivial ?_
      exact EVret trivial
theorem s41_7 (b : Bd) (hb : Few b) (ho : Ok b) (u : List UInt8) (hu : u = [82, 69, 80, 69, 65, 84]) : Sp cf 41 [bE b, .str ⟨u.toArray⟩] (encW (wordF 7 b)) := by
  have hc := ho.c
  have q5 : ((⟨u.toArray⟩ : ByteArray).toList == (⟨#[85, 78, 84, 73, 76]⟩ : ByteArray).toList) = false := (cmpS u [85, 78, 84, 73, 76]).trans (by rw [hu]; decide)
  have q6 : ((⟨u.toArray⟩ : ByteArray).toList == (⟨#[87, 72, 73, 76, 69]⟩ : ByteArray).toList) = false := (cmpS u [87, 72, 73, 76, 69]).trans (by rw [hu]; decide)
  have q7 : ((⟨u.toArray⟩ : ByteArray).toList == (⟨#[82, 69, 80, 69, 65, 84]⟩ : ByteArray).toList) = true := (cmpS u [82, 69, 80, 69, 65, 84]).trans (by rw [hu]; decide)
  have h66 := s66 hcf b 0 2 (by have := hb.m; omega) (by omega)
  have h66' := s66 hcf b 1 1 (by have := hb.m; omega) (by omega)
  refine sp_of hcf env41 ?_
  have e : wordF 7 b = repeatW b := rfl
  rw [e]
  cases ht : (topP b.m 0 2).2 with
  | false =>
    have e2 : repeatW b = (-22, b) := by unfold repeatW; rw [ht]; simp
    rw [e2]
    rw [topP_n ht] at h66
    simp only [encW, encTop, bE, slP] at h66 h66' ⊢
    conv => arg 2; simp only [ir41]
    conv => arg 3; simp only [ir41, Go.Proofs.YtcphpiboamlanaaEv.start, List.length, Nat.reduceAdd, Nat.reduceSub, List.reduceReplicate, List.append_eq, List.cons_append, List.nil_append]
    conv => arg 4; simp only [heapOf]
    try conv => arg 5; simp only [List.length, Nat.reduceAdd]
    try conv => arg 6; simp only [List.length, Nat.reduceAdd]
    refine EVgo9 (And.intro (q5) ( And.intro (q6) (q7))) (h66) (h66') trivial trivial trivial trivial trivial trivial trivial trivial trivial ?_
    exact EVret trivial
  | true =>
    obtain ⟨a, ea, hm⟩ := top_of ht
    rw [ea] at h66
    cases hs : (topP b.m 1 1).2 with
    | false =>
      have e2 : repeatW b = (-22, b) := by unfold repeatW; rw [ht, hs]; simp
      rw [e2]
      rw [topP_n hs] at h66'
      simp only [encW, encTop, bE, slP] at h66 h66' ⊢
      conv => arg 2; simp only [ir41]
      conv => arg 3; simp only [ir41, Go.Proofs.YtcphpiboamlanaaEv.start, List.length, Nat.reduceAdd, Nat.reduceSub, List.reduceReplicate, List.append_eq, List.cons_append, List.nil_append]
      conv => arg 4; simp only [heapOf]
      try conv => arg 5; simp only [List.length, Nat.reduceAdd]
      try conv => arg 6; simp only [List.length, Nat.reduceAdd]
      refine EVgo9 (And.intro (q5) ( And.intro (q6) (q7))) (h66) (h66') trivial trivial trivial trivial trivial trivial trivial trivial trivial ?_
      exact EVret trivial
    | true =>
      obtain ⟨n, en, hn, hm2⟩ := ho.orig hs
      rw [en] at h66'
      have h44 := s44 hcf b 1 a hb.mid
      by_cases h : b.c.length + 1 ≤ 4096
      · rw [emit_y ho (by simpa using h)] at h44
        have h68 := s68 hcf ⟨(b.c ++ [(1, a)]), b.m, b.o⟩ 2 (md hb ho (by simp; omega) (by simp) (by simp)) (by show 2 ≤ b.m.length; omega)
        have h67 := s67 hcf ⟨(b.c ++ [(1, a)]), b.m.take (b.m.length - 2), b.o⟩ n (md hb ho (by simp; omega) (by simp only [List.length_take]; omega) (by simp)) (by show n < (b.c ++ [(1, a)]).length; simp; omega)
        have e2 : repeatW b = (0, ⟨resC (b.c ++ [(1, a)]) n, b.m.take (b.m.length - 2), b.o⟩) := by unfold repeatW; rw [ea, en, if_pos ⟨rfl, rfl⟩, if_pos h]; rfl
        rw [e2]
        simp only [encW, encEmit, encTop, bE, slP] at h66 h66' h44 h68 h67 ⊢
        conv => arg 2; simp only [ir41]
        conv => arg 3; simp only [ir41, Go.Proofs.YtcphpiboamlanaaEv.start, List.length, Nat.reduceAdd, Nat.reduceSub, List.reduceReplicate, List.append_eq, List.cons_append, List.nil_append]
        conv => arg 4; simp only [heapOf]
        try conv => arg 5; simp only [List.length, Nat.reduceAdd]
        try conv => arg 6; simp only [List.length, Nat.reduceAdd]
        refine EVgo9 (And.intro (q5) ( And.intro (q6) (q7))) (h66) (h66') (h44) (h68) (h67) trivial trivial trivial trivial trivial trivial ?_
        exact EVret trivial
      · rw [emit_n ho (by simpa using h)] at h44
        have e2 : repeatW b = (-8, b) := by unfold repeatW; rw [ea, en, if_pos ⟨rfl, rfl⟩, if_neg h]
        rw [e2]
        simp only [encW, encEmit, encTop, bE, slP] at h66 h66' h44 ⊢
        conv => arg 2; simp only [ir41]
        conv => arg 3; simp only [ir41, Go.Proofs.YtcphpiboamlanaaEv.start, List.length, Nat.reduceAdd, Nat.reduceSub, List.reduceReplicate, List.append_eq, List.cons_append, List.nil_append]
        conv => arg 4; simp only [heapOf]
        try conv => arg 5; simp only [List.length, Nat.reduceAdd]
        try conv => arg 6; simp only [List.length, Nat.reduceAdd]
        refine EVgo9 (And.intro (q5) ( And.intro (q6) (q7))) (h66) (h66') (h44) trivial trivial trivial trivial trivial trivial trivial trivial ?_
        exact EVret trivial
theorem s42 (b : Bd) (hb : Few b) (ho : Ok b) (o : Int) : Sp cf 42 [bE b, .int .i64 o] (encW (closeW o b)) := by
  have hc := ho.c
  have hbo := hb.o
  have hbm := hb.m
  have h66 := s66 hcf b 0 3 (by omega) (by omega)
  have h16 := s16 hcf b (by omega)
  refine sp_of hcf env42 ?_
  cases ht : (topP b.m 0 3).2 with
  | false =>
    have e2 : closeW o b = (-22, b) := by unfold closeW; rw [ht]; rfl
    rw [e2]
    rw [topP_n ht] at h66
    simp only [encW, encTop, bE, slP] at h66 ⊢
    conv => arg 2; simp only [ir42]
    conv => arg 3; simp only [ir42, Go.Proofs.YtcphpiboamlanaaEv.start, List.length, Nat.reduceAdd, Nat.reduceSub, List.reduceReplicate, List.append_eq, List.cons_append, List.nil_append]
    conv => arg 4; simp only [heapOf]
    try conv => arg 5; simp only [List.length, Nat.reduceAdd]
    try conv => arg 6; simp only [List.length, Nat.reduceAdd]
    refine EVgo9 trivial (h66) trivial trivial trivial trivial trivial trivial trivial trivial trivial trivial ?_
    exact EVret trivial
  | true =>
    obtain ⟨a, ea, hm⟩ := top_of ht
    rw [ea] at h66
    have h44 := s44 hcf b o a hb.mid
    by_cases h : b.c.length + 1 ≤ 4096
    · rw [emit_y ho (by simpa using h)] at h44
      have h68 := s68 hcf ⟨b.c ++ [(o, a)], b.m, b.o⟩ 1 (md hb ho (by simp; omega) (by simp) (by simp)) (by show 1 ≤ b.m.length; omega)
      have e2 : closeW o b = (0, ⟨killC (deep b.m : Nat) (b.c ++ [(o, a)]) b.o, b.m.take (b.m.length - 1), keep (deep b.m : Nat) b.o⟩) := by unfold closeW; rw [ea, if_pos rfl, if_pos h]
      rw [e2]
      have lc : (b.c ++ [(o, a)]).length = b.c.length + 1 := by simp
      have hok : OutOk (b.c.length + 1) b.o := fun p hp => by
        have := ho.o p hp
        unfold OOk at this
        exact ⟨p.2.toNat, by omega, by omega⟩
      generalize (deep b.m : Nat) = d at *
      generalize hcc : b.c ++ [(o, a)] = C at *
      generalize hmm : b.m.take (b.m.length - 1) = M at *
      have hM : M.length ≤ 100000 := by rw [← hmm, List.length_take]; omega
      have hk : ∀ p, (∀ x ∈ p, x ∈ b.o) → (killC d C p).length = b.c.length + 1 := fun p hp => kc_len hok hp lc
      simp only [encW, encEmit, encTop, bE, slP] at h66 h16 h44 h68 ⊢
      conv => arg 2; simp only [ir42]
      conv => arg 3; simp only [ir42, Go.Proofs.YtcphpiboamlanaaEv.start, List.length, Nat.reduceAdd, Nat.reduceSub, List.reduceReplicate, List.append_eq, List.cons_append, List.nil_append]
      conv => arg 4; simp only [heapOf]
      try conv => arg 5; simp only [List.length, Nat.reduceAdd]
      try conv => arg 6; simp only [List.length, Nat.reduceAdd]
      refine EVgo9 trivial (h66) (h16) (h44) (h68) trivial trivial trivial trivial trivial trivial trivial ?_
      refine WC.loop (T' := _) (H' := _) (n' := _) rfl ((?_ : ∀ (r q : List Pr), q ++ r = b.o →
        WC cf _ (mkT 80 [(4, .ptr 0 0), (8, .int .i64 (d : Nat)), (9, .ptr 1 0), (11, .own 2 2 0 (keep (d : Nat) q).length), (12, .int .i64 (q.length : Nat))]) [(0, .box [.nil, .nil, .nil]), (1, .box [.sl (killC (d : Nat) C q).length false (flat encP (killC (d : Nat) C q)), .sl M.length false (flat encP M), .sl b.o.length false (flat encP b.o)]), (2, .row (flat encP (keep (d : Nat) q)))] 0 3 _) b.o [] rfl)
      intro r
      induction r with
      | nil =>
        intro q hq
        rw [List.append_nil] at hq
        subst hq
        conv => arg 3; simp only [mkT, putT, List.reduceReplicate, List.set]
        refine EVgl9 trivial trivial trivial trivial trivial trivial trivial trivial trivial trivial trivial trivial ?_
        exact EVret (allP)
      | cons x r ih =>
        intro q hq
        obtain ⟨x, y⟩ := x
        have hmem : ∀ z ∈ q, z ∈ b.o := fun z hz => by rw [← hq]; exact List.mem_append_left _ hz
        have hlen : b.o.length = q.length + (r.length + 1) := by rw [← hq]; simp
        have hlt : (q.length : Int) < (b.o.length : Int) := by omega
        have hw : IntKind.i64.wrap ((q.length : Int) + 1) = ((q.length + 1 : Nat) : Int) := by rw [i64_in _ (by omega)]; simp
        have e0 := mid_P hq
        have hkl : (keep (d : Nat) q).length ≤ q.length := List.length_filter_le _ _
        have hih := ih (q ++ [(x, y)]) (by rw [List.append_assoc]; exact hq)
        rw [snoc_len, killC_snoc, keep_snoc] at hih
        by_cases hx : x = (d : Int)
        · obtain ⟨k, ek, hkk⟩ := hok (x, y) (by rw [← hq]; simp)
          simp only at ek
          subst ek
          rw [if_pos hx, if_pos hx, List.append_nil, Int.toNat_natCast] at hih
          have h67 := s67 hcf ⟨killC (d : Nat) C q, M, b.o⟩ k ⟨by show (killC _ _ _).length ≤ _; rw [hk q hmem]; omega, by show M.length ≤ _; omega, by show b.o.length ≤ _; omega⟩ (by show _ < (killC _ _ _).length; rw [hk q hmem]; omega)
          have hx' : (x == (d : Int)) = true := beq_iff_eq.2 hx
          simp only [bE, slP] at h67
          conv => arg 3; simp only [mkT, putT, List.reduceReplicate, List.set]
          refine EVgo9 (And.intro (hlt) ( And.intro (hw) ( And.intro (e0) (hx')))) (h67) trivial trivial trivial trivial trivial trivial trivial trivial trivial trivial ?_
          exact WC.loop rfl hih
        · rw [if_neg hx, if_neg hx, snoc_len] at hih
          have hx' : (x == (d : Int)) = false := beq_eq_false_iff_ne.2 hx
          conv => arg 3; simp only [mkT, putT, List.reduceReplicate, List.set]
          refine EVgo9 (And.intro (hlt) ( And.intro (hw) ( And.intro (e0) ( And.intro (hx') ( And.intro (lenP) ( And.intro (allP) (snocP))))))) trivial trivial trivial trivial trivial trivial trivial trivial trivial trivial trivial ?_
          exact WC.loop rfl hih
    · rw [emit_n ho (by simpa using h)] at h44
      have e2 : closeW o b = (-8, b) := by unfold closeW; rw [ea, if_pos rfl, if_neg h]
      rw [e2]
      simp only [encW, encEmit, encTop, bE, slP] at h66 h16 h44 ⊢
      conv => arg 2; simp only [ir42]
      conv => arg 3; simp only [ir42, Go.Proofs.YtcphpiboamlanaaEv.start, List.length, Nat.reduceAdd, Nat.reduceSub, List.reduceReplicate, List.append_eq, List.cons_append, List.nil_append]
      conv => arg 4; simp only [heapOf]
      try conv => arg 5; simp only [List.length, Nat.reduceAdd]
      try conv => arg 6; simp only [List.length, Nat.reduceAdd]
      refine EVgo9 trivial (h66) (h16) (h44) trivial trivial trivial trivial trivial trivial trivial trivial ?_
      exact EVret trivial
end
end Go.Proofs.YtcphpiboamlanaaR
