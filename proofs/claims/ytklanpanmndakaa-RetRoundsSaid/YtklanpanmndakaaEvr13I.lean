/- Evr13I: a part of the proof. -/
import Derived.Test.YtklanpanmndakaaEvr13H
open Go Go.Proofs.YtklanpanmndakaaEv Go.Proofs.YtklanpanmndakaaR Go.IntWalk
set_option maxRecDepth 20000
set_option maxHeartbeats 8000000
set_option linter.unusedVariables false
set_option linter.unusedSimpArgs false
namespace Go.Proofs.YtklanpanmndakaaR
structure Bd (m : Tk) : Prop where
  d : m.d.length ≤ 1000
  r : m.r.length ≤ 1000
theorem bd_sn {t : Tk} (h : Sn t) : Bd t := ⟨by have := h.d; omega, by have := h.r; omega⟩
theorem bd_enter {t : Tk} (h : Sn t) (a : Int) : Bd (enter t a).1 := by
  have := h.d; have := h.r
  unfold enter
  split
  · split
    · exact ⟨by simp only; omega, by simp; omega⟩
    · exact bd_sn h
  · exact bd_sn h
theorem bd_lay {t : Tk} (h : Sn t) (x : List Int) : Bd (lay t x).1 := by
  have := h.d; have := h.r
  unfold lay
  split
  · exact ⟨by simp only; omega, by simp; omega⟩
  · exact bd_sn h
theorem bd_tak {t : Tk} (h : Sn t) (n : Nat) : Bd (tak t n).1 := by
  have := h.d; have := h.r
  unfold tak
  split
  · exact ⟨by simp only; omega, by simp; omega⟩
  · exact bd_sn h
theorem bd_unc {t : Tk} (h : Sn t) (r : List Int) (hr : r.length ≤ 64) : Bd (unc t r).1 := by
  have := h.d; have := h.r
  unfold unc
  split
  · split
    · split
      · exact ⟨by simp; omega, by simp; omega⟩
      · exact bd_sn h
    · exact bd_sn h
  · exact bd_sn h
theorem bd_leave {t : Tk} (h : Sn t) : Bd (leave t).1 := by
  have := h.d; have := h.r
  unfold leave
  split
  · split
    · exact bd_unc h _ (by rw [List.length_take]; omega)
    · split
      · exact ⟨by simp only; omega, by simp; omega⟩
      · split
        · exact ⟨by simp only; omega, by simp; omega⟩
        · exact bd_sn h
  · exact bd_sn h
theorem bd_next {t : Tk} (h : Sn t) (n : Int) : Bd (next t n).1 := by
  have := h.d; have := h.r
  unfold next
  split
  · split
    · exact bd_tak h 2
    · exact ⟨by simp only; omega, by simp; omega⟩
  · exact bd_sn h
theorem bd_back {t : Tk} (h : Sn t) : Bd (back t).1 := by
  unfold back
  split
  · exact bd_tak h 1
  · exact bd_sn h
theorem bd_ctch {t : Tk} (h : Sn t) (a : Int) : Bd (ctch t a).1 := by
  have := h.d; have := h.r
  unfold ctch
  split
  · split
    · exact ⟨by simp only; omega, by simp; omega⟩
    · exact bd_sn h
  · exact bd_sn h
theorem bd_throw {t : Tk} (h : Sn t) (n : Int) : Bd (throw t n).1 := by
  have := h.d; have := h.r
  have := cnt_le (t.r.getD (t.h.toNat - 2) 0)
  unfold throw
  split
  · exact bd_sn h
  · split
    · exact ⟨by simp only [List.length_append, deepL_len, List.length_cons, List.length_nil]; omega, by simp; omega⟩
    · exact ⟨by simp only; omega, by simp⟩
section
variable {cf : CF} (hcf : cf = ev env)
include hcf
theorem s13 (m : Tk) : Sp cf 13 [tkE m] (tkE m) := by
  refine sp_of hcf env13 ?_
  conv => arg 2; simp only [ir13]
  conv => arg 3; simp only [ir13, Go.Proofs.YtklanpanmndakaaEv.start, List.length, Nat.reduceAdd, Nat.reduceSub, List.reduceReplicate, List.append_eq, List.cons_append, List.nil_append]
  conv => arg 4; simp only [heapOf]
  try conv => arg 5; simp only [List.length, Nat.reduceAdd]
  try conv => arg 6; simp only [List.length, Nat.reduceAdd]
  refine EVgo2 (@tkE.eq_1) trivial trivial trivial trivial ?_
  exact EVret trivial
theorem s19 (m : Tk) : Sp cf 19 [tkE m] (tkE m) := by
  refine sp_of hcf env19 ?_
  conv => arg 2; simp only [ir19]
  conv => arg 3; simp only [ir19, Go.Proofs.YtklanpanmndakaaEv.start, List.length, Nat.reduceAdd, Nat.reduceSub, List.reduceReplicate, List.append_eq, List.cons_append, List.nil_append]
  conv => arg 4; simp only [heapOf]
  try conv => arg 5; simp only [List.length, Nat.reduceAdd]
  try conv => arg 6; simp only [List.length, Nat.reduceAdd]
  refine EVgo2 (@tkE.eq_1) trivial trivial trivial trivial ?_
  exact EVret trivial
def few (m : Tk) : Bool := decide ((m.d.length : Int) ≤ 100) && decide ((m.r.length : Int) ≤ 100)
theorem s11 (m : Tk) : Sp cf 11 [tkE m] (.bool (few m)) := by
  refine sp_of hcf env11 ?_
  unfold few
  by_cases h1 : (m.d.length : Int) ≤ 100
  · simp only [h1, decide_true, Bool.true_and]
    conv => arg 2; simp only [ir11]
    conv => arg 3; simp only [ir11, Go.Proofs.YtklanpanmndakaaEv.start, List.length, Nat.reduceAdd, Nat.reduceSub, List.reduceReplicate, List.append_eq, List.cons_append, List.nil_append]
    conv => arg 4; simp only [heapOf]
    try conv => arg 5; simp only [List.length, Nat.reduceAdd]
    try conv => arg 6; simp only [List.length, Nat.reduceAdd]
    refine EVgo2 (And.intro (@tkE.eq_1) ( And.intro (@slI.eq_1) (h1))) trivial trivial trivial trivial ?_
    exact EVret trivial
  · simp only [h1, decide_false, Bool.false_and]
    conv => arg 2; simp only [ir11]
    conv => arg 3; simp only [ir11, Go.Proofs.YtklanpanmndakaaEv.start, List.length, Nat.reduceAdd, Nat.reduceSub, List.reduceReplicate, List.append_eq, List.cons_append, List.nil_append]
    conv => arg 4; simp only [heapOf]
    try conv => arg 5; simp only [List.length, Nat.reduceAdd]
    try conv => arg 6; simp only [List.length, Nat.reduceAdd]
    refine EVgo2 (And.intro (@tkE.eq_1) ( And.intro (@slI.eq_1) (h1))) trivial trivial trivial trivial ?_
    exact EVret trivial
theorem s10 : Sp cf 10 [] (.bool true) := ⟨fun xs hi hn => by
  have : xs = [] := by
    cases xs with
    | nil => rfl
    | cons a l => simp [norms] at hn
  subst this
  rw [hcf]
  refine ev_eq (n := 60) ?_
  kernel_rfl⟩
theorem s16 (l : List Int) (h : l.length ≤ 1000000) : Sp cf 16 [slI l, slI l] (.bool true) := by
  refine sp_of hcf env16 ?_
  simp only [slI]
  conv => arg 2; simp only [ir16]
  conv => arg 3; simp only [ir16, Go.Proofs.YtklanpanmndakaaEv.start, List.length, Nat.reduceAdd, Nat.reduceSub, List.reduceReplicate, List.append_eq, List.cons_append, List.nil_append]
  conv => arg 4; simp only [heapOf]
  try conv => arg 5; simp only [List.length, Nat.reduceAdd]
  try conv => arg 6; simp only [List.length, Nat.reduceAdd]
  refine EVgl2 trivial trivial trivial trivial trivial ?_
  refine WC.loop (T' := _) (H' := _) (n' := _) rfl ((?_ : ∀ (m i : Nat), i + m = l.length →
    WC cf _ (mkT 26 [(0, .sl l.length false (flat encI l)), (1, .sl l.length false (flat encI l)), (5, .int .i64 (i : Nat))]) [] 0 0 _) l.length 0 (by omega))
  intro m
  induction m with
  | zero =>
    intro i hi
    obtain rfl : i = l.length := by omega
    conv => arg 3; simp only [mkT, putT, List.reduceReplicate, List.set]
    refine EVgl2 trivial trivial trivial trivial trivial ?_
    exact EVret trivial
  | succ m ih =>
    intro i hi
    have hlt : (i : Int) < (l.length : Int) := by omega
    have hw : IntKind.i64.wrap ((i : Int) + 1) = ((i + 1 : Nat) : Int) := by rw [i64_in _ (by omega)]; simp
    have e0 := at_getD (l := l) (i := i) (by omega)
    conv => arg 3; simp only [mkT, putT, List.reduceReplicate, List.set]
    refine EVgl2 (And.intro (hlt) ( And.intro (hw) (e0))) trivial trivial trivial trivial ?_
    exact WC.loop rfl (ih (i + 1) (by omega))
theorem s18 (m : Tk) (h : Bd m) : Sp cf 18 [tkE m, tkE m] (.bool true) := by
  have h1 := s16 hcf m.d (by have := h.d; omega)
  have h2 := s16 hcf m.r (by have := h.r; omega)
  refine sp_of hcf env18 ?_
  conv => arg 2; simp only [ir18]
  conv => arg 3; simp only [ir18, Go.Proofs.YtklanpanmndakaaEv.start, List.length, Nat.reduceAdd, Nat.reduceSub, List.reduceReplicate, List.append_eq, List.cons_append, List.nil_append]
  conv => arg 4; simp only [heapOf]
  try conv => arg 5; simp only [List.length, Nat.reduceAdd]
  try conv => arg 6; simp only [List.length, Nat.reduceAdd]
  refine EVgl2 (@tkE.eq_1) (h1) (h2) trivial trivial ?_
  exact EVret trivial
end
end Go.Proofs.YtklanpanmndakaaR
