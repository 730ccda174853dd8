/- Evr13C: a part of the proof. -/
import Derived.Test.YtklanpanmndakaaEvr13B
open Go Go.Proofs.YtklanpanmndakaaEv Go.Proofs.YtklanpanmndakaaR Go.IntWalk
set_option maxRecDepth 20000
set_option maxHeartbeats 8000000
set_option linter.unusedVariables false
set_option linter.unusedSimpArgs false
namespace Go.Proofs.YtklanpanmndakaaR
theorem sn_new : Sn new0 := ⟨by simp [new0], by simp [new0], by simp [new0], by simp [new0], by simp [new0]⟩
theorem sn_sane (m : Tk) : Sn (saneT m) := by
  unfold saneT
  split
  · next h => exact (sane_iff m).1 h
  · exact sn_new
theorem sane_sane (m : Tk) : saneT (saneT m) = saneT m := if_pos ((sane_iff _).2 (sn_sane m))
def lay (m : Tk) (x : List Int) : Tk × Int := if m.r.length + x.length ≤ 64 then (⟨m.d, m.r ++ x, m.th, m.pl, m.h⟩, 0) else (m, -5)
def tak (m : Tk) (n : Nat) : Tk × List Int × Int := if n ≤ m.r.length then (⟨m.d, m.r.take (m.r.length - n), m.th, m.pl, cutH m.h (m.r.length - n : Nat)⟩, m.r.drop (m.r.length - n), 0) else (m, [], -6)
section
variable {cf : CF} (hcf : cf = ev env)
include hcf
theorem s39 (m : Tk) (x : List Int) (hs : Sn m) (hx : x.length ≤ 100) : Sp cf 39 [tkE m, slI x] (.tup [tkE (lay m x).1, .int .i64 (lay m x).2]) := by
  have hr := hs.r
  have h62 := s62 hcf m.r x 64 (by omega) (by omega)
  have h45 := s45 hcf m (m.r ++ x)
  have hst : cutH m.h (m.r ++ x).length = m.h := by
    unfold cutH
    rw [if_pos]
    exact (stands_iff _ _).2 (by have := hs.h; rw [List.length_append]; omega)
  rw [hst] at h45
  by_cases hl : m.r.length + x.length ≤ 64
  · simp only [push, if_pos (show (m.r.length : Int) + x.length ≤ 64 by omega)] at h62
    refine sp_of hcf env39 ?_
    simp only [lay, if_pos hl]
    conv => arg 2; simp only [ir39]
    conv => arg 3; simp only [ir39, Go.Proofs.YtklanpanmndakaaEv.start, List.length, Nat.reduceAdd, Nat.reduceSub, List.reduceReplicate, List.append_eq, List.cons_append, List.nil_append]
    conv => arg 4; simp only [heapOf]
    try conv => arg 5; simp only [List.length, Nat.reduceAdd]
    try conv => arg 6; simp only [List.length, Nat.reduceAdd]
    refine EVgo2 trivial (h62) (h45) trivial trivial ?_
    exact EVret trivial
  · simp only [push, if_neg (show ¬ (m.r.length : Int) + x.length ≤ 64 by omega)] at h62
    refine sp_of hcf env39 ?_
    simp only [lay, if_neg hl]
    conv => arg 2; simp only [ir39]
    conv => arg 3; simp only [ir39, Go.Proofs.YtklanpanmndakaaEv.start, List.length, Nat.reduceAdd, Nat.reduceSub, List.reduceReplicate, List.append_eq, List.cons_append, List.nil_append]
    conv => arg 4; simp only [heapOf]
    try conv => arg 5; simp only [List.length, Nat.reduceAdd]
    try conv => arg 6; simp only [List.length, Nat.reduceAdd]
    refine EVgo2 trivial (h62) trivial trivial trivial ?_
    exact EVret trivial
theorem s55 (m : Tk) (x : List Int) (hx : x.length ≤ 100) : Sp cf 55 [tkE m, slI x] (.tup [tkE (lay (saneT m) x).1, .int .i64 (lay (saneT m) x).2]) := by
  have h47 := s47 hcf m
  have hs := sn_sane m
  generalize saneT m = t at *
  have hr := hs.r
  have h49 := s49 hcf t.r x 64 (by omega) (by omega)
  by_cases hl : t.r.length + x.length ≤ 64
  · simp only [push, if_pos (show (t.r.length : Int) + x.length ≤ 64 by omega)] at h49
    refine sp_of hcf env55 ?_
    simp only [lay, if_pos hl]
    conv => arg 2; simp only [ir55]
    conv => arg 3; simp only [ir55, Go.Proofs.YtklanpanmndakaaEv.start, List.length, Nat.reduceAdd, Nat.reduceSub, List.reduceReplicate, List.append_eq, List.cons_append, List.nil_append]
    conv => arg 4; simp only [heapOf]
    try conv => arg 5; simp only [List.length, Nat.reduceAdd]
    try conv => arg 6; simp only [List.length, Nat.reduceAdd]
    refine EVgo2 (@tkE.eq_1) (h47) (h49) trivial trivial ?_
    exact EVret trivial
  · simp only [push, if_neg (show ¬ (t.r.length : Int) + x.length ≤ 64 by omega)] at h49
    refine sp_of hcf env55 ?_
    simp only [lay, if_neg hl]
    conv => arg 2; simp only [ir55]
    conv => arg 3; simp only [ir55, Go.Proofs.YtklanpanmndakaaEv.start, List.length, Nat.reduceAdd, Nat.reduceSub, List.reduceReplicate, List.append_eq, List.cons_append, List.nil_append]
    conv => arg 4; simp only [heapOf]
    try conv => arg 5; simp only [List.length, Nat.reduceAdd]
    try conv => arg 6; simp only [List.length, Nat.reduceAdd]
    refine EVgo2 (@tkE.eq_1) (h47) (h49) trivial trivial ?_
    exact EVret trivial
theorem s40 (m : Tk) (n : Nat) (hs : m.r.length ≤ 500) (hn : n ≤ 100) : Sp cf 40 [tkE m, .int .i64 n] (.tup [tkE (tak m n).1, slI (tak m n).2.1, .int .i64 (tak m n).2.2]) := by
  have h63 := s63 hcf m.r n (by omega) hs
  have h45 := s45 hcf m (m.r.take (m.r.length - n))
  by_cases hl : n ≤ m.r.length
  · simp only [pop, if_pos (show 0 ≤ (n : Int) ∧ (n : Int) ≤ (m.r.length : Int) by omega), Int.toNat_natCast] at h63
    have e6 : (m.r.take (m.r.length - n)).length = m.r.length - n := by rw [List.length_take]; omega
    rw [e6] at h45
    refine sp_of hcf env40 ?_
    simp only [tak, if_pos hl]
    conv => arg 2; simp only [ir40]
    conv => arg 3; simp only [ir40, Go.Proofs.YtklanpanmndakaaEv.start, List.length, Nat.reduceAdd, Nat.reduceSub, List.reduceReplicate, List.append_eq, List.cons_append, List.nil_append]
    conv => arg 4; simp only [heapOf]
    try conv => arg 5; simp only [List.length, Nat.reduceAdd]
    try conv => arg 6; simp only [List.length, Nat.reduceAdd]
    refine EVgo2 trivial (h63) (h45) trivial trivial ?_
    exact EVret trivial
  · simp only [pop, if_neg (show ¬ (0 ≤ (n : Int) ∧ (n : Int) ≤ (m.r.length : Int)) by omega)] at h63
    refine sp_of hcf env40 ?_
    simp only [tak, if_neg hl]
    conv => arg 2; simp only [ir40]
    conv => arg 3; simp only [ir40, Go.Proofs.YtklanpanmndakaaEv.start, List.length, Nat.reduceAdd, Nat.reduceSub, List.reduceReplicate, List.append_eq, List.cons_append, List.nil_append]
    conv => arg 4; simp only [heapOf]
    try conv => arg 5; simp only [List.length, Nat.reduceAdd]
    try conv => arg 6; simp only [List.length, Nat.reduceAdd]
    refine EVgo2 trivial (h63) trivial trivial trivial ?_
    exact EVret trivial
theorem s56 (m : Tk) (n : Nat) (hn : n ≤ 100) : Sp cf 56 [tkE m, .int .i64 n] (.tup [tkE (tak (saneT m) n).1, slI (tak (saneT m) n).2.1, .int .i64 (tak (saneT m) n).2.2]) := by
  have h47 := s47 hcf m
  have hs := sn_sane m
  generalize saneT m = t at *
  have hr := hs.r
  have h52 := s52 hcf t.r n (by omega) (by omega)
  by_cases hl : n ≤ t.r.length
  · simp only [pop, if_pos (show 0 ≤ (n : Int) ∧ (n : Int) ≤ (t.r.length : Int) by omega), Int.toNat_natCast] at h52
    have h53 := s53 hcf t.h (t.r.length - n : Nat)
    have e6 : (t.r.take (t.r.length - n)).length = t.r.length - n := by rw [List.length_take]; omega
    refine sp_of hcf env56 ?_
    simp only [tak, if_pos hl]
    conv => arg 2; simp only [ir56]
    conv => arg 3; simp only [ir56, Go.Proofs.YtklanpanmndakaaEv.start, List.length, Nat.reduceAdd, Nat.reduceSub, List.reduceReplicate, List.append_eq, List.cons_append, List.nil_append]
    conv => arg 4; simp only [heapOf]
    try conv => arg 5; simp only [List.length, Nat.reduceAdd]
    try conv => arg 6; simp only [List.length, Nat.reduceAdd]
    refine EVgo9 (And.intro (@tkE.eq_1) ( And.intro (@slI.eq_1) (e6))) (h47) (h52) (h53) trivial trivial trivial trivial trivial trivial trivial trivial ?_
    exact EVret trivial
  · simp only [pop, if_neg (show ¬ (0 ≤ (n : Int) ∧ (n : Int) ≤ (t.r.length : Int)) by omega)] at h52
    refine sp_of hcf env56 ?_
    simp only [tak, if_neg hl]
    conv => arg 2; simp only [ir56]
    conv => arg 3; simp only [ir56, Go.Proofs.YtklanpanmndakaaEv.start, List.length, Nat.reduceAdd, Nat.reduceSub, List.reduceReplicate, List.append_eq, List.cons_append, List.nil_append]
    conv => arg 4; simp only [heapOf]
    try conv => arg 5; simp only [List.length, Nat.reduceAdd]
    try conv => arg 6; simp only [List.length, Nat.reduceAdd]
    refine EVgo2 (@tkE.eq_1) (h47) (h52) trivial trivial ?_
    exact EVret trivial
def enter (t : Tk) (to : Int) : Tk × Int := if okAt to = true then (if t.r.length ≤ 63 then (⟨t.d, t.r ++ [addr t.th t.pl], thAt to, plAt to, t.h⟩, 0) else (t, -5)) else (t, -9)
theorem s14 (m : Tk) (to : Int) (ht : to ≤ 9223372036854775807) : Sp cf 14 [tkE m, .int .i64 to] (.tup [tkE (enter (saneT m) to).1, .int .i64 (enter (saneT m) to).2]) := by
  have h38 := s38 hcf m
  have hs := sn_sane m
  generalize saneT m = t at *
  have h15 := s15 hcf to ht
  have h20 := s20 hcf t.th t.pl
  have h39 := s39 hcf t [addr t.th t.pl] hs (by simp)
  cases hok : okAt to with
  | false =>
    refine sp_of hcf env14 ?_
    simp only [enter, hok, Bool.false_eq_true, if_false]
    conv => arg 2; simp only [ir14]
    conv => arg 3; simp only [ir14, Go.Proofs.YtklanpanmndakaaEv.start, List.length, Nat.reduceAdd, Nat.reduceSub, List.reduceReplicate, List.append_eq, List.cons_append, List.nil_append]
    conv => arg 4; simp only [heapOf]
    try conv => arg 5; simp only [List.length, Nat.reduceAdd]
    try conv => arg 6; simp only [List.length, Nat.reduceAdd]
    refine EVgo2 (And.intro (@tkE.eq_1) ( And.intro (@atE.eq_1) (hok))) (h38) (h15) trivial trivial ?_
    exact EVret trivial
  | true =>
    by_cases hl : t.r.length ≤ 63
    · simp only [lay, if_pos (show t.r.length + [addr t.th t.pl].length ≤ 64 by simp; omega)] at h39
      refine sp_of hcf env14 ?_
      simp only [enter, hok, if_true, if_pos hl]
      conv => arg 2; simp only [ir14]
      conv => arg 3; simp only [ir14, Go.Proofs.YtklanpanmndakaaEv.start, List.length, Nat.reduceAdd, Nat.reduceSub, List.reduceReplicate, List.append_eq, List.cons_append, List.nil_append]
      conv => arg 4; simp only [heapOf]
      try conv => arg 5; simp only [List.length, Nat.reduceAdd]
      try conv => arg 6; simp only [List.length, Nat.reduceAdd]
      refine EVgo9 (And.intro (@tkE.eq_1) ( And.intro (@atE.eq_1) (hok))) (h38) (h15) (h20) (h39) trivial trivial trivial trivial trivial trivial trivial ?_
      exact EVret trivial
    · simp only [lay, if_neg (show ¬ t.r.length + [addr t.th t.pl].length ≤ 64 by simp; omega)] at h39
      refine sp_of hcf env14 ?_
      simp only [enter, hok, if_true, if_neg hl]
      conv => arg 2; simp only [ir14]
      conv => arg 3; simp only [ir14, Go.Proofs.YtklanpanmndakaaEv.start, List.length, Nat.reduceAdd, Nat.reduceSub, List.reduceReplicate, List.append_eq, List.cons_append, List.nil_append]
      conv => arg 4; simp only [heapOf]
      try conv => arg 5; simp only [List.length, Nat.reduceAdd]
      try conv => arg 6; simp only [List.length, Nat.reduceAdd]
      refine EVgo9 (And.intro (@tkE.eq_1) ( And.intro (@atE.eq_1) (hok))) (h38) (h15) (h20) (h39) trivial trivial trivial trivial trivial trivial trivial ?_
      exact EVret trivial
theorem s30 (m : Tk) (to : Int) (ht : to ≤ 9223372036854775807) : Sp cf 30 [tkE m, .int .i64 to] (.tup [tkE (enter (saneT m) to).1, .int .i64 (enter (saneT m) to).2]) := by
  have h47 := s47 hcf m
  have hs := sn_sane m
  generalize saneT m = t at *
  have hr := hs.r
  have h48 := s48 hcf to ht
  have h50 := s50 hcf t.th t.pl
  have h49 := s49 hcf t.r [addr t.th t.pl] 64 (by omega) (by simp)
  cases hok : okAt to with
  | false =>
    refine sp_of hcf env30 ?_
    simp only [enter, hok, Bool.false_eq_true, if_false]
    conv => arg 2; simp only [ir30]
    conv => arg 3; simp only [ir30, Go.Proofs.YtklanpanmndakaaEv.start, List.length, Nat.reduceAdd, Nat.reduceSub, List.reduceReplicate, List.append_eq, List.cons_append, List.nil_append]
    conv => arg 4; simp only [heapOf]
    try conv => arg 5; simp only [List.length, Nat.reduceAdd]
    try conv => arg 6; simp only [List.length, Nat.reduceAdd]
    refine EVgo2 (And.intro (@tkE.eq_1) ( And.intro (@atE.eq_1) (hok))) (h47) (h48) trivial trivial ?_
    exact EVret trivial
  | true =>
    by_cases hl : t.r.length ≤ 63
    · have hl2 : ¬ (64 ≤ (t.r.length : Int)) := by omega
      simp only [push, if_pos (show (t.r.length : Int) + ([addr t.th t.pl].length : Nat) ≤ 64 by simp; omega)] at h49
      refine sp_of hcf env30 ?_
      simp only [enter, hok, if_true, if_pos hl]
      conv => arg 2; simp only [ir30]
      conv => arg 3; simp only [ir30, Go.Proofs.YtklanpanmndakaaEv.start, List.length, Nat.reduceAdd, Nat.reduceSub, List.reduceReplicate, List.append_eq, List.cons_append, List.nil_append]
      conv => arg 4; simp only [heapOf]
      try conv => arg 5; simp only [List.length, Nat.reduceAdd]
      try conv => arg 6; simp only [List.length, Nat.reduceAdd]
      refine EVgo9 (And.intro (@tkE.eq_1) ( And.intro (@slI.eq_1) ( And.intro (@atE.eq_1) ( And.intro (hok) (hl2))))) (h47) (h48) (h50) (h49) trivial trivial trivial trivial trivial trivial trivial ?_
      exact EVret trivial
    · have hl2 : 64 ≤ (t.r.length : Int) := by omega
      refine sp_of hcf env30 ?_
      simp only [enter, hok, if_true, if_neg hl]
      conv => arg 2; simp only [ir30]
      conv => arg 3; simp only [ir30, Go.Proofs.YtklanpanmndakaaEv.start, List.length, Nat.reduceAdd, Nat.reduceSub, List.reduceReplicate, List.append_eq, List.cons_append, List.nil_append]
      conv => arg 4; simp only [heapOf]
      try conv => arg 5; simp only [List.length, Nat.reduceAdd]
      try conv => arg 6; simp only [List.length, Nat.reduceAdd]
      refine EVgo2 (And.intro (@tkE.eq_1) ( And.intro (@slI.eq_1) ( And.intro (@atE.eq_1) ( And.intro (hok) (hl2))))) (h47) (h48) trivial trivial ?_
      exact EVret trivial
end
end Go.Proofs.YtklanpanmndakaaR
