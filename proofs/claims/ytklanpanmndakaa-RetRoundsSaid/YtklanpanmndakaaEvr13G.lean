/- Evr13G: a part of the proof. -/
import Derived.Test.YtklanpanmndakaaEvr13F
open Go Go.Proofs.YtklanpanmndakaaEv Go.Proofs.YtklanpanmndakaaR Go.IntWalk
set_option maxRecDepth 20000
set_option maxHeartbeats 8000000
set_option linter.unusedVariables false
set_option linter.unusedSimpArgs false
namespace Go.Proofs.YtklanpanmndakaaR
/-- how deep the stack is that a throw leads to -/
def cnt (f1 : Int) : Nat := (max 0 (min f1 63)).toNat
def throw (t : Tk) (n : Int) : Tk × Bool :=
  if t.h = 0 then (t, false) else
  if okAt (t.r.getD (t.h.toNat - 1) 0) = true then (⟨deepL t.d (cnt (t.r.getD (t.h.toNat - 2) 0)) ++ [n], t.r.take (t.h.toNat - 3), thAt (t.r.getD (t.h.toNat - 1) 0), plAt (t.r.getD (t.h.toNat - 1) 0), cutH (t.r.getD (t.h.toNat - 3) 0) (t.h.toNat - 3 : Nat)⟩, true)
  else (⟨t.d, [], t.th, t.pl, 0⟩, false)
theorem cnt_le (f : Int) : cnt f ≤ 63 := by unfold cnt; omega
theorem cnt_eq (f : Int) : (if (0 : Int) < (if (63 : Int) < f then (63 : Int) else f) then (if (63 : Int) < f then (63 : Int) else f) else 0) = (cnt f : Int) := by
  unfold cnt
  split <;> split <;> omega
section
variable {cf : CF} (hcf : cf = ev env)
include hcf
omit hcf in
theorem clone0 (l : List Int) (t : Bool) (h : l.length ≤ 100000) (hp : 0 < l.length) : ev env0 46 [.sl l.length t (flat encI l)] [] = some (.own 0 1 0 l.length, [some (.row (flat encI l))]) := by
  refine ev_ofC envZ46 ?_
  conv => arg 2; simp only [ir46]
  conv => arg 3; simp only [ir46, Go.Proofs.YtklanpanmndakaaEv.start, List.length, Nat.reduceAdd, Nat.reduceSub, List.reduceReplicate, List.append_eq, List.cons_append, List.nil_append]
  conv => arg 4; simp only [heapOf]
  try conv => arg 5; simp only [List.length, Nat.reduceAdd]
  try conv => arg 6; simp only [List.length, Nat.reduceAdd]
  have hne : l.length ≠ 0 := by omega
  refine EVgo2 trivial trivial trivial (k_eqNil_sl rfl hne) trivial ?_
  refine EVgo2 (lenI) trivial trivial trivial trivial ?_
  exact WQ.ret rfl
theorem s46 (l : List Int) (t : Bool) (h : l.length ≤ 100000) : cf 46 [.sl l.length t (flat encI l)] [] = some (.own 0 1 0 l.length, [some (.row (flat encI l))]) := by
  subst hcf
  cases l with
  | nil => exact ev_prim envP46 _ _ rfl
  | cons x l => exact ev_prim envP46 _ _ (clone0 (x :: l) t h (by simp))
theorem s26 (m : Tk) (n : Int) (hv : ∀ x ∈ (saneT m).r, x ≤ maxI) : Sp cf 26 [tkE m, .int .i64 n] (.tup [tkE (throw (saneT m) n).1, .bool (throw (saneT m) n).2]) := by
  have h38 := s38 hcf m
  have hs := sn_sane m
  generalize saneT m = t at *
  have hr := hs.r
  have hd := hs.d
  by_cases h0 : t.h = 0
  · refine sp_of hcf env26 ?_
    simp only [throw, if_pos h0]
    conv => arg 2; simp only [ir26]
    conv => arg 3; simp only [ir26, Go.Proofs.YtklanpanmndakaaEv.start, List.length, Nat.reduceAdd, Nat.reduceSub, List.reduceReplicate, List.append_eq, List.cons_append, List.nil_append]
    conv => arg 4; simp only [heapOf]
    try conv => arg 5; simp only [List.length, Nat.reduceAdd]
    try conv => arg 6; simp only [List.length, Nat.reduceAdd]
    have h0' : (t.h == 0) = true := by simpa using h0
    refine EVgo2 (And.intro (@tkE.eq_1) (h0')) (h38) trivial trivial trivial ?_
    exact EVret trivial
  have h0' : (t.h == 0) = false := by simpa using h0
  obtain ⟨H, hH, hH3, hHr⟩ : ∃ H : Nat, t.h = H ∧ 3 ≤ H ∧ H ≤ t.r.length := ⟨t.h.toNat, by have := hs.h; omega, by have := hs.h; omega, by have := hs.h; omega⟩
  have wl : IntKind.i64.wrap ((H : Int) - 3) = ((H - 3 : Nat) : Int) := by rw [i64_in _ (by omega)]; omega
  have h0' : ((H : Int) == 0) = false := by simp; omega
  have eT : t.h.toNat = H := by omega
  have hle := getD_le hv (H - 1)
  have e1 : flat encI ((t.r.drop (H - 3)).take (H - (H - 3))) = [.int .i64 (t.r.getD (H - 3) 0), .int .i64 (t.r.getD (H - 2) 0), .int .i64 (t.r.getD (H - 1) 0)] := by
    have : (t.r.drop (H - 3)).take (H - (H - 3)) = [t.r.getD (H - 3) 0, t.r.getD (H - 2) 0, t.r.getD (H - 1) 0] := by
      rw [List.getD_eq_getElem?_getD, List.getElem?_eq_getElem (show H - 3 < t.r.length by omega), List.getD_eq_getElem?_getD, List.getElem?_eq_getElem (show H - 2 < t.r.length by omega), List.getD_eq_getElem?_getD, List.getElem?_eq_getElem (show H - 1 < t.r.length by omega)]
      rw [List.drop_eq_getElem_cons (show H - 3 < t.r.length by omega), List.drop_eq_getElem_cons (show H - 3 + 1 < t.r.length by omega), List.drop_eq_getElem_cons (show H - 3 + 1 + 1 < t.r.length by omega)]
      rw [show H - (H - 3) = 3 by omega]
      simp only [List.take_succ_cons, List.take_zero, Option.getD_some]
      congr 2
      · congr 1; omega
      · congr 2; omega
    rw [this]; rfl
  have e6 : (t.r.take (H - 3)).length = H - 3 := by rw [List.length_take]; omega
  have hcl := s46 hcf (t.r.take (H - 3)) true (by omega)
  have hcl2 := s46 hcf (t.r.take (H - 3)) false (by omega)
  rw [e6] at hcl hcl2
  have h45 := s45 hcf
  generalize hf2 : t.r.getD (H - 1) 0 = f2 at *
  generalize hf1 : t.r.getD (H - 2) 0 = f1 at *
  generalize hf0 : t.r.getD (H - 3) 0 = f0 at *
  have h15 := s15 hcf f2 hle
  have h44 := s44 hcf t.d (cnt f1) (by omega) (by have := cnt_le f1; omega)
  have hDl := deepL_len t.d (cnt f1)
  have h45 := s45 hcf ⟨deepL t.d (cnt f1) ++ [n], [], thAt f2, plAt f2, f0⟩ (t.r.take (H - 3))
  rw [e6] at h45
  have hDl2 : (deepL t.d (cnt f1) ++ [n]).length = cnt f1 + 1 := by rw [List.length_append, hDl]; rfl
  have allD : (deepL t.d (cnt f1)).take (cnt f1) = deepL t.d (cnt f1) := List.take_of_length_le (by rw [hDl]; omega)
  cases hok : okAt f2 with
  | false =>
    refine sp_of hcf env26 ?_
    simp only [throw, if_neg h0, eT, hf2, hf1, hf0, hok, Bool.false_eq_true, if_false]
    conv => arg 2; simp only [ir26]
    conv => arg 3; simp only [ir26, Go.Proofs.YtklanpanmndakaaEv.start, List.length, Nat.reduceAdd, Nat.reduceSub, List.reduceReplicate, List.append_eq, List.cons_append, List.nil_append]
    conv => arg 4; simp only [heapOf]
    try conv => arg 5; simp only [List.length, Nat.reduceAdd]
    try conv => arg 6; simp only [List.length, Nat.reduceAdd]
    refine EVgo2 (And.intro (@tkE.eq_1) ( And.intro (@slI.eq_1) ( And.intro (@atE.eq_1) ( And.intro (h0') ( And.intro (wl) ( And.intro (hH) ( And.intro (takeI) ( And.intro (dropI) ( And.intro (e1) (hok)))))))))) (h38) (h15) trivial trivial ?_
    exact EVret (And.intro (hDl) (e6))
  | true =>
    refine sp_of hcf env26 ?_
    simp only [throw, if_neg h0, eT, hf2, hf1, hf0, hok, if_true]
    conv => arg 2; simp only [ir26]
    conv => arg 3; simp only [ir26, Go.Proofs.YtklanpanmndakaaEv.start, List.length, Nat.reduceAdd, Nat.reduceSub, List.reduceReplicate, List.append_eq, List.cons_append, List.nil_append]
    conv => arg 4; simp only [heapOf]
    try conv => arg 5; simp only [List.length, Nat.reduceAdd]
    try conv => arg 6; simp only [List.length, Nat.reduceAdd]
    refine EVgo9 (And.intro (@tkE.eq_1) ( And.intro (@slI.eq_1) ( And.intro (@atE.eq_1) ( And.intro (h0') ( And.intro (wl) ( And.intro (hH) ( And.intro (takeI) ( And.intro (dropI) ( And.intro (e1) ( And.intro (hok) ( And.intro (snocI) ( And.intro (allD) ( And.intro (hDl2) ( And.intro (cnt_eq f1) ( And.intro (lenI) (hDl)))))))))))))))) (h38) (h15) (h44) (hcl) (hcl2) (h45) trivial trivial trivial (@k_mm cf) trivial ?_
    exact EVret (And.intro (hDl) (e6))
theorem s61 (m : Tk) (n : Int) (hv : ∀ x ∈ (saneT m).r, x ≤ maxI) : Sp cf 61 [tkE m, .int .i64 n] (.tup [tkE (throw (saneT m) n).1, .bool (throw (saneT m) n).2]) := by
  have h47 := s47 hcf m
  have hs := sn_sane m
  generalize saneT m = t at *
  have hr := hs.r
  have hd := hs.d
  by_cases h0 : t.h = 0
  · refine sp_of hcf env61 ?_
    simp only [throw, if_pos h0]
    conv => arg 2; simp only [ir61]
    conv => arg 3; simp only [ir61, Go.Proofs.YtklanpanmndakaaEv.start, List.length, Nat.reduceAdd, Nat.reduceSub, List.reduceReplicate, List.append_eq, List.cons_append, List.nil_append]
    conv => arg 4; simp only [heapOf]
    try conv => arg 5; simp only [List.length, Nat.reduceAdd]
    try conv => arg 6; simp only [List.length, Nat.reduceAdd]
    have h0' : (t.h == 0) = true := by simpa using h0
    refine EVgo2 (And.intro (@tkE.eq_1) (h0')) (h47) trivial trivial trivial ?_
    exact EVret trivial
  obtain ⟨H, hH, hH3, hHr⟩ : ∃ H : Nat, t.h = H ∧ 3 ≤ H ∧ H ≤ t.r.length := ⟨t.h.toNat, by have := hs.h; omega, by have := hs.h; omega, by have := hs.h; omega⟩
  have wl : IntKind.i64.wrap ((H : Int) - 3) = ((H - 3 : Nat) : Int) := by rw [i64_in _ (by omega)]; omega
  have w2 : IntKind.i64.wrap (((H - 3 : Nat) : Int) + 2) = ((H - 1 : Nat) : Int) := by rw [i64_in _ (by omega)]; omega
  have w1 : IntKind.i64.wrap (((H - 3 : Nat) : Int) + 1) = ((H - 2 : Nat) : Int) := by rw [i64_in _ (by omega)]; omega
  have h0' : ((H : Int) == 0) = false := by simp; omega
  have eT : t.h.toNat = H := by omega
  have hle := getD_le hv (H - 1)
  have e2 := at_getD (l := t.r) (i := H - 1) (by omega)
  have e1 := at_getD (l := t.r) (i := H - 2) (by omega)
  have e0 := at_getD (l := t.r) (i := H - 3) (by omega)
  have e6 : (t.r.take (H - 3)).length = H - 3 := by rw [List.length_take]; omega
  generalize hf2 : t.r.getD (H - 1) 0 = f2 at *
  generalize hf1 : t.r.getD (H - 2) 0 = f1 at *
  generalize hf0 : t.r.getD (H - 3) 0 = f0 at *
  have h48 := s48 hcf f2 hle
  have h66 := s66 hcf t.d (cnt f1) (by omega) (by have := cnt_le f1; omega)
  have hDl := deepL_len t.d (cnt f1)
  have h53 := s53 hcf f0 (H - 3 : Nat)
  have allD : (deepL t.d (cnt f1)).take (cnt f1) = deepL t.d (cnt f1) := List.take_of_length_le (by rw [hDl]; omega)
  cases hok : okAt f2 with
  | false =>
    refine sp_of hcf env61 ?_
    simp only [throw, if_neg h0, eT, hf2, hf1, hf0, hok, Bool.false_eq_true, if_false]
    conv => arg 2; simp only [ir61]
    conv => arg 3; simp only [ir61, Go.Proofs.YtklanpanmndakaaEv.start, List.length, Nat.reduceAdd, Nat.reduceSub, List.reduceReplicate, List.append_eq, List.cons_append, List.nil_append]
    conv => arg 4; simp only [heapOf]
    try conv => arg 5; simp only [List.length, Nat.reduceAdd]
    try conv => arg 6; simp only [List.length, Nat.reduceAdd]
    refine EVgo2 (And.intro (@tkE.eq_1) ( And.intro (@slI.eq_1) ( And.intro (@atE.eq_1) ( And.intro (h0') ( And.intro (wl) ( And.intro (hH) ( And.intro (w2) ( And.intro (w1) ( And.intro (e2) ( And.intro (e1) ( And.intro (e0) (hok)))))))))))) (h47) (h48) trivial trivial ?_
    exact EVret trivial
  | true =>
    refine sp_of hcf env61 ?_
    simp only [throw, if_neg h0, eT, hf2, hf1, hf0, hok, if_true]
    conv => arg 2; simp only [ir61]
    conv => arg 3; simp only [ir61, Go.Proofs.YtklanpanmndakaaEv.start, List.length, Nat.reduceAdd, Nat.reduceSub, List.reduceReplicate, List.append_eq, List.cons_append, List.nil_append]
    conv => arg 4; simp only [heapOf]
    try conv => arg 5; simp only [List.length, Nat.reduceAdd]
    try conv => arg 6; simp only [List.length, Nat.reduceAdd]
    refine EVgo9 (And.intro (@tkE.eq_1) ( And.intro (@slI.eq_1) ( And.intro (@atE.eq_1) ( And.intro (h0') ( And.intro (wl) ( And.intro (hH) ( And.intro (w2) ( And.intro (w1) ( And.intro (e2) ( And.intro (e1) ( And.intro (e0) ( And.intro (hok) ( And.intro (snocI) ( And.intro (allD) ( And.intro (takeI) ( And.intro (cnt_eq f1) ( And.intro (lenI) ( And.intro (hDl) (e6))))))))))))))))))) (h47) (h48) (h66) (h53) trivial trivial trivial trivial trivial (@k_mm cf) trivial ?_
    exact EVret (And.intro (hDl) (e6))
end
end Go.Proofs.YtklanpanmndakaaR
