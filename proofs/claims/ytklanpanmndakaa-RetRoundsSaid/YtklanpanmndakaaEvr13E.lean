/- Evr13E: a part of the proof. -/
import Derived.Test.YtklanpanmndakaaEvr13D
open Go Go.Proofs.YtklanpanmndakaaEv Go.Proofs.YtklanpanmndakaaR Go.IntWalk
set_option maxRecDepth 20000
set_option maxHeartbeats 8000000
set_option linter.unusedVariables false
set_option linter.unusedSimpArgs false
namespace Go.Proofs.YtklanpanmndakaaR
def leave (t : Tk) : Tk × Bool × Int :=
  if 1 ≤ t.r.length then
    (if t.r.getD (t.r.length - 1) 0 = -1 then ((unc t (t.r.take (t.r.length - 1))).1, false, (unc t (t.r.take (t.r.length - 1))).2)
    else if t.r.getD (t.r.length - 1) 0 = -2 then (⟨t.d, t.r.take (t.r.length - 1), t.th, t.pl, cutH t.h (t.r.length - 1 : Nat)⟩, true, 0)
    else if okAt (t.r.getD (t.r.length - 1) 0) = true then (⟨t.d, t.r.take (t.r.length - 1), thAt (t.r.getD (t.r.length - 1) 0), plAt (t.r.getD (t.r.length - 1) 0), cutH t.h (t.r.length - 1 : Nat)⟩, false, 0)
    else (t, false, -9))
  else (t, false, -6)
theorem addr_at {th pl : Int} (h1 : 0 ≤ th ∧ th ≤ 1000000) (h2 : 0 ≤ pl ∧ pl ≤ 4095) : thAt (addr th pl) = th ∧ plAt (addr th pl) = pl ∧ okAt (addr th pl) = true ∧ addr th pl ≤ 9223372036854775807 := by
  unfold addr thAt plAt okAt
  rw [if_pos h1, if_pos h2, decide_eq_true_eq]
  rw [if_pos (by omega), if_pos (by omega)]
  omega
theorem pop1 {l : List Int} (h : 1 ≤ l.length) : flat encI (l.drop (l.length - 1)) = [.int .i64 (l.getD (l.length - 1) 0)] := by
  rw [← dropI, at_getD (by omega), show l.length - 1 + 1 = l.length by omega, List.drop_length]
  rfl
def maxI : Int := 9223372036854775807
theorem getD_le {l : List Int} (hv : ∀ x ∈ l, x ≤ maxI) (i : Nat) : l.getD i 0 ≤ 9223372036854775807 := by
  rw [List.getD_eq_getElem?_getD]
  cases h : l[i]? with
  | none => simp
  | some x => exact hv _ (List.mem_of_getElem? h)
section
variable {cf : CF} (hcf : cf = ev env)
include hcf
theorem s17 (m : Tk) (hv : ∀ x ∈ (saneT m).r, x ≤ maxI) : Sp cf 17 [tkE m] (.tup [tkE (leave (saneT m)).1, .bool (leave (saneT m)).2.1, .int .i64 (leave (saneT m)).2.2]) := by
  have h38 := s38 hcf m
  have hs := sn_sane m
  generalize saneT m = t at *
  have hr := hs.r
  have hd := hs.d
  have h40 := s40 hcf t 1 (by omega) (by omega)
  by_cases hl : 1 ≤ t.r.length
  · have e6 : (t.r.take (t.r.length - 1)).length = t.r.length - 1 := by rw [List.length_take]; omega
    have e7 : (t.r.drop (t.r.length - 1)).length = 1 := by rw [List.length_drop]; omega
    have e8 := pop1 hl
    have hle := getD_le hv (t.r.length - 1)
    have h41 := s41 hcf t (t.r.take (t.r.length - 1)) hd (by omega) (fun x hx => hv x (List.mem_of_mem_take hx))
    simp only [tak, if_pos hl] at h40
    simp only [leave, if_pos hl]
    generalize unc t (t.r.take (t.r.length - 1)) = U at *
    generalize t.r.getD (t.r.length - 1) 0 = x at *
    have h15 := s15 hcf x hle
    obtain ⟨q1, q2, q3, q4⟩ := addr_at hs.th hs.pl
    have h20 := s20 hcf t.th t.pl
    have h15b := s15 hcf (addr t.th t.pl) q4
    by_cases c1 : x = -1
    · subst c1
      refine sp_of hcf env17 ?_
      simp only [if_true]
      conv => arg 2; simp only [ir17]
      conv => arg 3; simp only [ir17, Go.Proofs.YtklanpanmndakaaEv.start, List.length, Nat.reduceAdd, Nat.reduceSub, List.reduceReplicate, List.append_eq, List.cons_append, List.nil_append]
      conv => arg 4; simp only [heapOf]
      try conv => arg 5; simp only [List.length, Nat.reduceAdd]
      try conv => arg 6; simp only [List.length, Nat.reduceAdd]
      refine EVgo9 (And.intro (@tkE.eq_1) ( And.intro (@slI.eq_1) ( And.intro (e7) (e8)))) (h38) (h40) (h41) trivial trivial trivial trivial trivial trivial trivial trivial ?_
      exact EVret trivial
    by_cases c2 : x = -2
    · subst c2
      refine sp_of hcf env17 ?_
      simp only [if_neg c1, if_true]
      conv => arg 2; simp only [ir17]
      conv => arg 3; simp only [ir17, Go.Proofs.YtklanpanmndakaaEv.start, List.length, Nat.reduceAdd, Nat.reduceSub, List.reduceReplicate, List.append_eq, List.cons_append, List.nil_append]
      conv => arg 4; simp only [heapOf]
      try conv => arg 5; simp only [List.length, Nat.reduceAdd]
      try conv => arg 6; simp only [List.length, Nat.reduceAdd]
      refine EVgo9 (And.intro (@tkE.eq_1) ( And.intro (@slI.eq_1) ( And.intro (@atE.eq_1) ( And.intro (e7) ( And.intro (e8) ( And.intro (q1) ( And.intro (q2) (q3)))))))) (h38) (h40) (h20) (h15b) trivial trivial trivial trivial trivial trivial trivial ?_
      exact EVret trivial
    have c1' : (x == -1) = false := by simpa using c1
    have c2' : (x == -2) = false := by simpa using c2
    cases hok : okAt x with
    | false =>
      refine sp_of hcf env17 ?_
      simp only [if_neg c1, if_neg c2, Bool.false_eq_true, if_false]
      conv => arg 2; simp only [ir17]
      conv => arg 3; simp only [ir17, Go.Proofs.YtklanpanmndakaaEv.start, List.length, Nat.reduceAdd, Nat.reduceSub, List.reduceReplicate, List.append_eq, List.cons_append, List.nil_append]
      conv => arg 4; simp only [heapOf]
      try conv => arg 5; simp only [List.length, Nat.reduceAdd]
      try conv => arg 6; simp only [List.length, Nat.reduceAdd]
      refine EVgo9 (And.intro (@tkE.eq_1) ( And.intro (@slI.eq_1) ( And.intro (@atE.eq_1) ( And.intro (e7) ( And.intro (e8) ( And.intro (hok) ( And.intro (c1') (c2')))))))) (h38) (h40) (h15) trivial trivial trivial trivial trivial trivial trivial trivial ?_
      exact EVret trivial
    | true =>
      refine sp_of hcf env17 ?_
      simp only [if_neg c1, if_neg c2, if_true]
      conv => arg 2; simp only [ir17]
      conv => arg 3; simp only [ir17, Go.Proofs.YtklanpanmndakaaEv.start, List.length, Nat.reduceAdd, Nat.reduceSub, List.reduceReplicate, List.append_eq, List.cons_append, List.nil_append]
      conv => arg 4; simp only [heapOf]
      try conv => arg 5; simp only [List.length, Nat.reduceAdd]
      try conv => arg 6; simp only [List.length, Nat.reduceAdd]
      refine EVgo9 (And.intro (@tkE.eq_1) ( And.intro (@slI.eq_1) ( And.intro (@atE.eq_1) ( And.intro (e7) ( And.intro (e8) ( And.intro (hok) ( And.intro (c1') (c2')))))))) (h38) (h40) (h15) trivial trivial trivial trivial trivial trivial trivial trivial ?_
      exact EVret trivial
  · simp only [tak, if_neg hl] at h40
    refine sp_of hcf env17 ?_
    simp only [leave, if_neg hl]
    conv => arg 2; simp only [ir17]
    conv => arg 3; simp only [ir17, Go.Proofs.YtklanpanmndakaaEv.start, List.length, Nat.reduceAdd, Nat.reduceSub, List.reduceReplicate, List.append_eq, List.cons_append, List.nil_append]
    conv => arg 4; simp only [heapOf]
    try conv => arg 5; simp only [List.length, Nat.reduceAdd]
    try conv => arg 6; simp only [List.length, Nat.reduceAdd]
    refine EVgo2 (@tkE.eq_1) (h38) (h40) trivial trivial ?_
    exact EVret trivial
theorem s32 (m : Tk) (hv : ∀ x ∈ (saneT m).r, x ≤ maxI) : Sp cf 32 [tkE m] (.tup [tkE (leave (saneT m)).1, .bool (leave (saneT m)).2.1, .int .i64 (leave (saneT m)).2.2]) := by
  have h47 := s47 hcf m
  have hs := sn_sane m
  generalize saneT m = t at *
  have hr := hs.r
  have hd := hs.d
  have h52 := s52 hcf t.r 1 (by omega) (by omega)
  by_cases hl : 1 ≤ t.r.length
  · have e6 : (t.r.take (t.r.length - 1)).length = t.r.length - 1 := by rw [List.length_take]; omega
    have e7 : (t.r.drop (t.r.length - 1)).length = 1 := by rw [List.length_drop]; omega
    have e8 := pop1 hl
    have hle := getD_le hv (t.r.length - 1)
    have h54 := s54 hcf t (t.r.take (t.r.length - 1)) hd (by omega) (fun x hx => hv x (List.mem_of_mem_take hx))
    simp only [pop, if_pos (show 0 ≤ (1 : Int) ∧ (1 : Int) ≤ (t.r.length : Int) by omega), show Int.toNat 1 = 1 from rfl] at h52
    simp only [leave, if_pos hl]
    generalize unc t (t.r.take (t.r.length - 1)) = U at *
    generalize t.r.getD (t.r.length - 1) 0 = x at *
    have h48 := s48 hcf x hle
    have h53 := s53 hcf t.h (t.r.length - 1 : Nat)
    by_cases c1 : x = -1
    · subst c1
      refine sp_of hcf env32 ?_
      simp only [if_true]
      conv => arg 2; simp only [ir32]
      conv => arg 3; simp only [ir32, Go.Proofs.YtklanpanmndakaaEv.start, List.length, Nat.reduceAdd, Nat.reduceSub, List.reduceReplicate, List.append_eq, List.cons_append, List.nil_append]
      conv => arg 4; simp only [heapOf]
      try conv => arg 5; simp only [List.length, Nat.reduceAdd]
      try conv => arg 6; simp only [List.length, Nat.reduceAdd]
      refine EVgo9 (And.intro (@tkE.eq_1) ( And.intro (@slI.eq_1) ( And.intro (e7) (e8)))) (h47) (h52) (h54) trivial trivial trivial trivial trivial trivial trivial trivial ?_
      exact EVret trivial
    by_cases c2 : x = -2
    · subst c2
      refine sp_of hcf env32 ?_
      simp only [if_neg c1, if_true]
      conv => arg 2; simp only [ir32]
      conv => arg 3; simp only [ir32, Go.Proofs.YtklanpanmndakaaEv.start, List.length, Nat.reduceAdd, Nat.reduceSub, List.reduceReplicate, List.append_eq, List.cons_append, List.nil_append]
      conv => arg 4; simp only [heapOf]
      try conv => arg 5; simp only [List.length, Nat.reduceAdd]
      try conv => arg 6; simp only [List.length, Nat.reduceAdd]
      refine EVgo9 (And.intro (@tkE.eq_1) ( And.intro (@slI.eq_1) ( And.intro (@atE.eq_1) ( And.intro (e6) ( And.intro (e7) (e8)))))) (h47) (h52) (h53) trivial trivial trivial trivial trivial trivial trivial trivial ?_
      exact EVret (e6)
    have c1' : (x == -1) = false := by simpa using c1
    have c2' : (x == -2) = false := by simpa using c2
    cases hok : okAt x with
    | false =>
      refine sp_of hcf env32 ?_
      simp only [if_neg c1, if_neg c2, Bool.false_eq_true, if_false]
      conv => arg 2; simp only [ir32]
      conv => arg 3; simp only [ir32, Go.Proofs.YtklanpanmndakaaEv.start, List.length, Nat.reduceAdd, Nat.reduceSub, List.reduceReplicate, List.append_eq, List.cons_append, List.nil_append]
      conv => arg 4; simp only [heapOf]
      try conv => arg 5; simp only [List.length, Nat.reduceAdd]
      try conv => arg 6; simp only [List.length, Nat.reduceAdd]
      refine EVgo9 (And.intro (@tkE.eq_1) ( And.intro (@slI.eq_1) ( And.intro (@atE.eq_1) ( And.intro (e7) ( And.intro (e8) ( And.intro (hok) ( And.intro (c1') (c2')))))))) (h47) (h52) (h48) trivial trivial trivial trivial trivial trivial trivial trivial ?_
      exact EVret trivial
    | true =>
      refine sp_of hcf env32 ?_
      simp only [if_neg c1, if_neg c2, if_true]
      conv => arg 2; simp only [ir32]
      conv => arg 3; simp only [ir32, Go.Proofs.YtklanpanmndakaaEv.start, List.length, Nat.reduceAdd, Nat.reduceSub, List.reduceReplicate, List.append_eq, List.cons_append, List.nil_append]
      conv => arg 4; simp only [heapOf]
      try conv => arg 5; simp only [List.length, Nat.reduceAdd]
      try conv => arg 6; simp only [List.length, Nat.reduceAdd]
      refine EVgo9 (And.intro (@tkE.eq_1) ( And.intro (@slI.eq_1) ( And.intro (@atE.eq_1) ( And.intro (e6) ( And.intro (e7) ( And.intro (e8) ( And.intro (hok) ( And.intro (c1') (c2'))))))))) (h47) (h52) (h48) (h53) trivial trivial trivial trivial trivial trivial trivial ?_
      exact EVret (e6)
  · simp only [pop, if_neg (show ¬ (0 ≤ (1 : Int) ∧ (1 : Int) ≤ (t.r.length : Int)) by omega)] at h52
    refine sp_of hcf env32 ?_
    simp only [leave, if_neg hl]
    conv => arg 2; simp only [ir32]
    conv => arg 3; simp only [ir32, Go.Proofs.YtklanpanmndakaaEv.start, List.length, Nat.reduceAdd, Nat.reduceSub, List.reduceReplicate, List.append_eq, List.cons_append, List.nil_append]
    conv => arg 4; simp only [heapOf]
    try conv => arg 5; simp only [List.length, Nat.reduceAdd]
    try conv => arg 6; simp only [List.length, Nat.reduceAdd]
    refine EVgo2 (@tkE.eq_1) (h47) (h52) trivial trivial ?_
    exact EVret trivial
theorem s23 (m : Tk) (x y : Int) : Sp cf 23 [tkE m, .int .i64 x, .int .i64 y] (.tup [tkE (lay (saneT m) [x, y]).1, .int .i64 (lay (saneT m) [x, y]).2]) := by
  have h38 := s38 hcf m
  have hs := sn_sane m
  generalize saneT m = t at *
  have h39 := s39 hcf t [x, y] hs (by simp)
  refine sp_of hcf env23 ?_
  conv => arg 2; simp only [ir23]
  conv => arg 3; simp only [ir23, Go.Proofs.YtklanpanmndakaaEv.start, List.length, Nat.reduceAdd, Nat.reduceSub, List.reduceReplicate, List.append_eq, List.cons_append, List.nil_append]
  conv => arg 4; simp only [heapOf]
  try conv => arg 5; simp only [List.length, Nat.reduceAdd]
  try conv => arg 6; simp only [List.length, Nat.reduceAdd]
  refine EVgo2 trivial (h38) (h39) trivial trivial ?_
  exact EVret trivial
theorem s33 (m : Tk) (x y : Int) : Sp cf 33 [tkE m, .int .i64 x, .int .i64 y] (.tup [tkE (lay (saneT m) [x, y]).1, .int .i64 (lay (saneT m) [x, y]).2]) := by
  have h55 := s55 hcf m [x, y] (by simp)
  refine sp_of hcf env33 ?_
  conv => arg 2; simp only [ir33]
  conv => arg 3; simp only [ir33, Go.Proofs.YtklanpanmndakaaEv.start, List.length, Nat.reduceAdd, Nat.reduceSub, List.reduceReplicate, List.append_eq, List.cons_append, List.nil_append]
  conv => arg 4; simp only [heapOf]
  try conv => arg 5; simp only [List.length, Nat.reduceAdd]
  try conv => arg 6; simp only [List.length, Nat.reduceAdd]
  refine EVgo2 trivial (h55) trivial trivial trivial ?_
  exact EVret trivial
theorem s21 (m : Tk) (x : Int) : Sp cf 21 [tkE m, .int .i64 x] (.tup [tkE (lay (saneT m) [x]).1, .int .i64 (lay (saneT m) [x]).2]) := by
  have h38 := s38 hcf m
  have hs := sn_sane m
  generalize saneT m = t at *
  have h39 := s39 hcf t [x] hs (by simp)
  refine sp_of hcf env21 ?_
  conv => arg 2; simp only [ir21]
  conv => arg 3; simp only [ir21, Go.Proofs.YtklanpanmndakaaEv.start, List.length, Nat.reduceAdd, Nat.reduceSub, List.reduceReplicate, List.append_eq, List.cons_append, List.nil_append]
  conv => arg 4; simp only [heapOf]
  try conv => arg 5; simp only [List.length, Nat.reduceAdd]
  try conv => arg 6; simp only [List.length, Nat.reduceAdd]
  refine EVgo2 trivial (h38) (h39) trivial trivial ?_
  exact EVret trivial
theorem s58 (m : Tk) (x : Int) : Sp cf 58 [tkE m, .int .i64 x] (.tup [tkE (lay (saneT m) [x]).1, .int .i64 (lay (saneT m) [x]).2]) := by
  have h55 := s55 hcf m [x] (by simp)
  refine sp_of hcf env58 ?_
  conv => arg 2; simp only [ir58]
  conv => arg 3; simp only [ir58, Go.Proofs.YtklanpanmndakaaEv.start, List.length, Nat.reduceAdd, Nat.reduceSub, List.reduceReplicate, List.append_eq, List.cons_append, List.nil_append]
  conv => arg 4; simp only [heapOf]
  try conv => arg 5; simp only [List.length, Nat.reduceAdd]
  try conv => arg 6; simp only [List.length, Nat.reduceAdd]
  refine EVgo2 trivial (h55) trivial trivial trivial ?_
  exact EVret trivial
theorem s24 (m : Tk) : Sp cf 24 [tkE m] (.tup [tkE (tak (saneT m) 2).1, .int .i64 (tak (saneT m) 2).2.2]) := by
  have h38 := s38 hcf m
  have hr := (sn_sane m).r
  generalize saneT m = t at *
  have h40 := s40 hcf t 2 (by omega) (by omega)
  refine sp_of hcf env24 ?_
  conv => arg 2; simp only [ir24]
  conv => arg 3; simp only [ir24, Go.Proofs.YtklanpanmndakaaEv.start, List.length, Nat.reduceAdd, Nat.reduceSub, List.reduceReplicate, List.append_eq, List.cons_append, List.nil_append]
  conv => arg 4; simp only [heapOf]
  try conv => arg 5; simp only [List.length, Nat.reduceAdd]
  try conv => arg 6; simp only [List.length, Nat.reduceAdd]
  refine EVgo2 trivial (h38) (h40) trivial trivial ?_
  exact EVret trivial
theorem s35 (m : Tk) : Sp cf 35 [tkE m] (.tup [tkE (tak (saneT m) 2).1, .int .i64 (tak (saneT m) 2).2.2]) := by
  have h56 := s56 hcf m 2 (by omega)
  refine sp_of hcf env35 ?_
  conv => arg 2; simp only [ir35]
  conv => arg 3; simp only [ir35, Go.Proofs.YtklanpanmndakaaEv.start, List.length, Nat.reduceAdd, Nat.reduceSub, List.reduceReplicate, List.append_eq, List.cons_append, List.nil_append]
  conv => arg 4; simp only [heapOf]
  try conv => arg 5; simp only [List.length, Nat.reduceAdd]
  try conv => arg 6; simp only [List.length, Nat.reduceAdd]
  refine EVgo2 trivial (h56) trivial trivial trivial ?_
  exact EVret trivial
def back (t : Tk) : Tk × Int × Int := if 1 ≤ t.r.length then ((tak t 1).1, t.r.getD (t.r.length - 1) 0, 0) else (t, 0, -6)
theorem s22 (m : Tk) : Sp cf 22 [tkE m] (.tup [tkE (back (saneT m)).1, .int .i64 (back (saneT m)).2.1, .int .i64 (back (saneT m)).2.2]) := by
  have h38 := s38 hcf m
  have hr := (sn_sane m).r
  generalize saneT m = t at *
  have h40 := s40 hcf t 1 (by omega) (by omega)
  by_cases hl : 1 ≤ t.r.length
  · have e7 : (t.r.drop (t.r.length - 1)).length = 1 := by rw [List.length_drop]; omega
    have e8 := pop1 hl
    simp only [tak, if_pos hl] at h40
    refine sp_of hcf env22 ?_
    simp only [back, tak, if_pos hl]
    conv => arg 2; simp only [ir22]
    conv => arg 3; simp only [ir22, Go.Proofs.YtklanpanmndakaaEv.start, List.length, Nat.reduceAdd, Nat.reduceSub, List.reduceReplicate, List.append_eq, List.cons_append, List.nil_append]
    conv => arg 4; simp only [heapOf]
    try conv => arg 5; simp only [List.length, Nat.reduceAdd]
    try conv => arg 6; simp only [List.length, Nat.reduceAdd]
    refine EVgo2 (And.intro (@slI.eq_1) ( And.intro (e7) (e8))) (h38) (h40) trivial trivial ?_
    exact EVret trivial
  · simp only [tak, if_neg hl] at h40
    refine sp_of hcf env22 ?_
    simp only [back, if_neg hl]
    conv => arg 2; simp only [ir22]
    conv => arg 3; simp only [ir22, Go.Proofs.YtklanpanmndakaaEv.start, List.length, Nat.reduceAdd, Nat.reduceSub, List.reduceReplicate, List.append_eq, List.cons_append, List.nil_append]
    conv => arg 4; simp only [heapOf]
    try conv => arg 5; simp only [List.length, Nat.reduceAdd]
    try conv => arg 6; simp only [List.length, Nat.reduceAdd]
    refine EVgo2 trivial (h38) (h40) trivial trivial ?_
    exact EVret trivial
theorem s59 (m : Tk) : Sp cf 59 [tkE m] (.tup [tkE (back (saneT m)).1, .int .i64 (back (saneT m)).2.1, .int .i64 (back (saneT m)).2.2]) := by
  have h56 := s56 hcf m 1 (by omega)
  have hr := (sn_sane m).r
  generalize saneT m = t at *
  by_cases hl : 1 ≤ t.r.length
  · have e7 : (t.r.drop (t.r.length - 1)).length = 1 := by rw [List.length_drop]; omega
    have e8 := pop1 hl
    simp only [tak, if_pos hl] at h56
    refine sp_of hcf env59 ?_
    simp only [back, tak, if_pos hl]
    conv => arg 2; simp only [ir59]
    conv => arg 3; simp only [ir59, Go.Proofs.YtklanpanmndakaaEv.start, List.length, Nat.reduceAdd, Nat.reduceSub, List.reduceReplicate, List.append_eq, List.cons_append, List.nil_append]
    conv => arg 4; simp only [heapOf]
    try conv => arg 5; simp only [List.length, Nat.reduceAdd]
    try conv => arg 6; simp only [List.length, Nat.reduceAdd]
    refine EVgo2 (And.intro (@slI.eq_1) ( And.intro (e7) (e8))) (h56) trivial trivial trivial ?_
    exact EVret trivial
  · simp only [tak, if_neg hl] at h56
    refine sp_of hcf env59 ?_
    simp only [back, if_neg hl]
    conv => arg 2; simp only [ir59]
    conv => arg 3; simp only [ir59, Go.Proofs.YtklanpanmndakaaEv.start, List.length, Nat.reduceAdd, Nat.reduceSub, List.reduceReplicate, List.append_eq, List.cons_append, List.nil_append]
    conv => arg 4; simp only [heapOf]
    try conv => arg 5; simp only [List.length, Nat.reduceAdd]
    try conv => arg 6; simp only [List.length, Nat.reduceAdd]
    refine EVgo2 trivial (h56) trivial trivial trivial ?_
    exact EVret trivial
def index (t : Tk) (k : Int) : Int × Int := if 0 ≤ k ∧ k ≤ 31 then (if (pick t.r (2 * k)).2 = 0 then (pick t.r (2 * k)) else (0, -6)) else (0, -6)
theorem s25 (m : Tk) (k : Int) : Sp cf 25 [tkE m, .int .i64 k] (.tup [.int .i64 (index (saneT m) k).1, .int .i64 (index (saneT m) k).2]) := by
  by_cases h1 : k < 0
  · refine sp_of hcf env25 ?_
    simp only [index, if_neg (show ¬ (0 ≤ k ∧ k ≤ 31) by omega)]
    conv => arg 2; simp only [ir25]
    conv => arg 3; simp only [ir25, Go.Proofs.YtklanpanmndakaaEv.start, List.length, Nat.reduceAdd, Nat.reduceSub, List.reduceReplicate, List.append_eq, List.cons_append, List.nil_append]
    conv => arg 4; simp only [heapOf]
    try conv => arg 5; simp only [List.length, Nat.reduceAdd]
    try conv => arg 6; simp only [List.length, Nat.reduceAdd]
    refine EVgo2 (h1) trivial trivial trivial trivial ?_
    exact EVret trivial
  by_cases h2 : k > 31
  · refine sp_of hcf env25 ?_
    simp only [index, if_neg (show ¬ (0 ≤ k ∧ k ≤ 31) by omega)]
    conv => arg 2; simp only [ir25]
    conv => arg 3; simp only [ir25, Go.Proofs.YtklanpanmndakaaEv.start, List.length, Nat.reduceAdd, Nat.reduceSub, List.reduceReplicate, List.append_eq, List.cons_append, List.nil_append]
    conv => arg 4; simp only [heapOf]
    try conv => arg 5; simp only [List.length, Nat.reduceAdd]
    try conv => arg 6; simp only [List.length, Nat.reduceAdd]
    refine EVgo2 (And.intro (h1) (h2)) trivial trivial trivial trivial ?_
    exact EVret trivial
  have h38 := s38 hcf m
  have hr := (sn_sane m).r
  generalize saneT m = t at *
  have h43 := s43 hcf t.r (2 * k) (by omega)
  have w2 : IntKind.i64.wrap (2 * k) = 2 * k := i64_in _ (by omega)
  refine sp_of hcf env25 ?_
  simp only [index, if_pos (show 0 ≤ k ∧ k ≤ 31 by omega)]
  conv => arg 2; simp only [ir25]
  conv => arg 3; simp only [ir25, Go.Proofs.YtklanpanmndakaaEv.start, List.length, Nat.reduceAdd, Nat.reduceSub, List.reduceReplicate, List.append_eq, List.cons_append, List.nil_append]
  conv => arg 4; simp only [heapOf]
  try conv => arg 5; simp only [List.length, Nat.reduceAdd]
  try conv => arg 6; simp only [List.length, Nat.reduceAdd]
  by_cases h3 : (pick t.r (2 * k)).2 = 0
  · have h3' : ((pick t.r (2 * k)).2 != 0) = false := by simp [h3]
    rw [if_pos h3, h3]
    refine EVgo2 (And.intro (@tkE.eq_1) ( And.intro (h1) ( And.intro (h2) ( And.intro (w2) (h3'))))) (h38) (h43) trivial trivial ?_
    exact EVret (h3)
  · have h3' : ((pick t.r (2 * k)).2 != 0) = true := by simpa using h3
    rw [if_neg h3]
    refine EVgo2 (And.intro (@tkE.eq_1) ( And.intro (h1) ( And.intro (h2) ( And.intro (w2) (h3'))))) (h38) (h43) trivial trivial ?_
    exact EVret trivial
theorem s57 (m : Tk) (k : Int) : Sp cf 57 [tkE m, .int .i64 k] (.tup [.int .i64 (index (saneT m) k).1, .int .i64 (index (saneT m) k).2]) := by
  have h47 := s47 hcf m
  have hr := (sn_sane m).r
  generalize saneT m = t at *
  by_cases h1 : k < 0
  · refine sp_of hcf env57 ?_
    simp only [index, if_neg (show ¬ (0 ≤ k ∧ k ≤ 31) by omega)]
    conv => arg 2; simp only [ir57]
    conv => arg 3; simp only [ir57, Go.Proofs.YtklanpanmndakaaEv.start, List.length, Nat.reduceAdd, Nat.reduceSub, List.reduceReplicate, List.append_eq, List.cons_append, List.nil_append]
    conv => arg 4; simp only [heapOf]
    try conv => arg 5; simp only [List.length, Nat.reduceAdd]
    try conv => arg 6; simp only [List.length, Nat.reduceAdd]
    refine EVgo2 (h1) (h47) trivial trivial trivial ?_
    exact EVret trivial
  by_cases h2 : k > 31
  · refine sp_of hcf env57 ?_
    simp only [index, if_neg (show ¬ (0 ≤ k ∧ k ≤ 31) by omega)]
    conv => arg 2; simp only [ir57]
    conv => arg 3; simp only [ir57, Go.Proofs.YtklanpanmndakaaEv.start, List.length, Nat.reduceAdd, Nat.reduceSub, List.reduceReplicate, List.append_eq, List.cons_append, List.nil_append]
    conv => arg 4; simp only [heapOf]
    try conv => arg 5; simp only [List.length, Nat.reduceAdd]
    try conv => arg 6; simp only [List.length, Nat.reduceAdd]
    refine EVgo2 (And.intro (h1) (h2)) (h47) trivial trivial trivial ?_
    exact EVret trivial
  have h65 := s65 hcf t.r (2 * k) (by omega)
  have w2 : IntKind.i64.wrap (2 * k) = 2 * k := i64_in _ (by omega)
  refine sp_of hcf env57 ?_
  simp only [index, if_pos (show 0 ≤ k ∧ k ≤ 31 by omega)]
  conv => arg 2; simp only [ir57]
  conv => arg 3; simp only [ir57, Go.Proofs.YtklanpanmndakaaEv.start, List.length, Nat.reduceAdd, Nat.reduceSub, List.reduceReplicate, List.append_eq, List.cons_append, List.nil_append]
  conv => arg 4; simp only [heapOf]
  try conv => arg 5; simp only [List.length, Nat.reduceAdd]
  try conv => arg 6; simp only [List.length, Nat.reduceAdd]
  by_cases h3 : (pick t.r (2 * k)).2 = 0
  · have h3' : ((pick t.r (2 * k)).2 != 0) = false := by simp [h3]
    rw [if_pos h3, h3]
    refine EVgo2 (And.intro (@tkE.eq_1) ( And.intro (h1) ( And.intro (h2) ( And.intro (w2) (h3'))))) (h47) (h65) trivial trivial ?_
    exact EVret (h3)
  · have h3' : ((pick t.r (2 * k)).2 != 0) = true := by simpa using h3
    rw [if_neg h3]
    refine EVgo2 (And.intro (@tkE.eq_1) ( And.intro (h1) ( And.intro (h2) ( And.intro (w2) (h3'))))) (h47) (h65) trivial trivial ?_
    exact EVret trivial
end
end Go.Proofs.YtklanpanmndakaaR
