/- Evr13D: a part of the proof. -/
import Derived.Test.YtklanpanmndakaaEvr13C
open Go Go.Proofs.YtklanpanmndakaaEv Go.Proofs.YtklanpanmndakaaR Go.IntWalk
set_option maxRecDepth 20000
set_option maxHeartbeats 8000000
set_option linter.unusedVariables false
set_option linter.unusedSimpArgs false
namespace Go.Proofs.YtklanpanmndakaaR
/-- behind a catch in which nothing was thrown -/
def unc (t : Tk) (r : List Int) : Tk × Int :=
  if 3 ≤ r.length ∧ t.h = r.length then
    (if okAt (r.getD (r.length - 1) 0) = true ∧ stands (r.getD (r.length - 3) 0) (r.length - 3 : Nat) = true then
      (if t.d.length ≤ 63 then (⟨t.d ++ [0], r.take (r.length - 3), thAt (r.getD (r.length - 1) 0), plAt (r.getD (r.length - 1) 0), r.getD (r.length - 3) 0⟩, 0) else (t, -3))
    else (t, -9))
  else (t, -6)
theorem at_getD {l : List Int} {i : Nat} (hi : i < l.length) : (flat encI l).drop i = .int .i64 (l.getD i 0) :: flat encI (l.drop (i + 1)) := by
  have e0 := flat_at (enc := encI) (es := 1) (fun _ => rfl) hi
  rw [Nat.mul_one] at e0
  rw [e0, List.getD_eq_getElem?_getD, List.getElem?_eq_getElem hi]
  rfl
theorem pop3 {l : List Int} (h : 3 ≤ l.length) : flat encI (l.drop (l.length - 3)) = [.int .i64 (l.getD (l.length - 3) 0), .int .i64 (l.getD (l.length - 2) 0), .int .i64 (l.getD (l.length - 1) 0)] := by
  rw [← dropI, at_getD (by omega), ← dropI, at_getD (by omega), ← dropI, at_getD (by omega), show l.length - 3 + 1 + 1 + 1 = l.length by omega, List.drop_length, show l.length - 3 + 1 = l.length - 2 by omega, show l.length - 2 + 1 = l.length - 1 by omega]
  rfl
section
variable {cf : CF} (hcf : cf = ev env)
include hcf
theorem s41 (t : Tk) (r : List Int) (hd : t.d.length ≤ 64) (hr : r.length ≤ 64) (hv : ∀ x ∈ r, x ≤ 9223372036854775807) : Sp cf 41 [tkE t, slI r] (.tup [tkE (unc t r).1, .int .i64 (unc t r).2]) := by
  have h63 := s63 hcf r 3 (by omega) (by omega)
  by_cases hl : 3 ≤ r.length
  · simp only [pop, if_pos (show 0 ≤ (3 : Int) ∧ (3 : Int) ≤ (r.length : Int) by omega), show Int.toNat 3 = 3 from rfl] at h63
    have e6 : (r.take (r.length - 3)).length = r.length - 3 := by rw [List.length_take]; omega
    have e7 : (r.drop (r.length - 3)).length = 3 := by rw [List.length_drop]; omega
    have e8 := pop3 hl
    by_cases hh : t.h = r.length
    · have hh2 : (t.h != (r.length : Int)) = false := by simp [hh]
      have hle : r.getD (r.length - 1) 0 ≤ 9223372036854775807 := by
        rw [List.getD_eq_getElem?_getD, List.getElem?_eq_getElem (show r.length - 1 < r.length by omega)]
        exact hv _ (List.getElem_mem _)
      generalize hf2 : r.getD (r.length - 1) 0 = f2 at *
      generalize hf1 : r.getD (r.length - 2) 0 = f1 at *
      generalize hf0 : r.getD (r.length - 3) 0 = f0 at *
      have h15 := s15 hcf f2 hle
      have h37 := s37 hcf f0 (r.length - 3 : Nat)
      cases hok : okAt f2 with
      | false =>
        refine sp_of hcf env41 ?_
        simp only [unc, if_pos (And.intro hl hh), hf2, hf0, hok, Bool.false_eq_true, false_and, if_false]
        conv => arg 2; simp only [ir41]
        conv => arg 3; simp only [ir41, Go.Proofs.YtklanpanmndakaaEv.start, List.length, Nat.reduceAdd, Nat.reduceSub, List.reduceReplicate, List.append_eq, List.cons_append, List.nil_append]
        conv => arg 4; simp only [heapOf]
        try conv => arg 5; simp only [List.length, Nat.reduceAdd]
        try conv => arg 6; simp only [List.length, Nat.reduceAdd]
        refine EVgo2 (And.intro (@tkE.eq_1) ( And.intro (@slI.eq_1) ( And.intro (@atE.eq_1) ( And.intro (hok) ( And.intro (hh2) (e8)))))) (h63) (h15) trivial trivial ?_
        exact EVret trivial
      | true =>
        cases hst : stands f0 (r.length - 3 : Nat) with
        | false =>
          refine sp_of hcf env41 ?_
          simp only [unc, if_pos (And.intro hl hh), hf2, hf0, hok, hst, Bool.false_eq_true, and_false, if_false]
          conv => arg 2; simp only [ir41]
          conv => arg 3; simp only [ir41, Go.Proofs.YtklanpanmndakaaEv.start, List.length, Nat.reduceAdd, Nat.reduceSub, List.reduceReplicate, List.append_eq, List.cons_append, List.nil_append]
          conv => arg 4; simp only [heapOf]
          try conv => arg 5; simp only [List.length, Nat.reduceAdd]
          try conv => arg 6; simp only [List.length, Nat.reduceAdd]
          refine EVgo9 (And.intro (@tkE.eq_1) ( And.intro (@slI.eq_1) ( And.intro (@atE.eq_1) ( And.intro (hok) ( And.intro (hst) ( And.intro (hh2) ( And.intro (e8) (e6)))))))) (h63) (h15) (h37) trivial trivial trivial trivial trivial trivial trivial trivial ?_
          exact EVret trivial
        | true =>
          have h62 := s62 hcf t.d [0] 64 (by omega) (by simp)
          by_cases hdl : t.d.length ≤ 63
          · simp only [push, if_pos (show (t.d.length : Int) + (([0] : List Int).length : Nat) ≤ 64 by simp; omega)] at h62
            refine sp_of hcf env41 ?_
            simp only [unc, if_pos (And.intro hl hh), hf2, hf0, hok, hst, and_self, if_true, if_pos hdl]
            conv => arg 2; simp only [ir41]
            conv => arg 3; simp only [ir41, Go.Proofs.YtklanpanmndakaaEv.start, List.length, Nat.reduceAdd, Nat.reduceSub, List.reduceReplicate, List.append_eq, List.cons_append, List.nil_append]
            conv => arg 4; simp only [heapOf]
            try conv => arg 5; simp only [List.length, Nat.reduceAdd]
            try conv => arg 6; simp only [List.length, Nat.reduceAdd]
            refine EVgo9 (And.intro (@tkE.eq_1) ( And.intro (@slI.eq_1) ( And.intro (@atE.eq_1) ( And.intro (hok) ( And.intro (hst) ( And.intro (hh2) ( And.intro (e8) (e6)))))))) (h63) (h15) (h37) (h62) trivial trivial trivial trivial trivial trivial trivial ?_
            exact EVret trivial
          · simp only [push, if_neg (show ¬ (t.d.length : Int) + (([0] : List Int).length : Nat) ≤ 64 by simp; omega)] at h62
            refine sp_of hcf env41 ?_
            simp only [unc, if_pos (And.intro hl hh), hf2, hf0, hok, hst, and_self, if_true, if_neg hdl]
            conv => arg 2; simp only [ir41]
            conv => arg 3; simp only [ir41, Go.Proofs.YtklanpanmndakaaEv.start, List.length, Nat.reduceAdd, Nat.reduceSub, List.reduceReplicate, List.append_eq, List.cons_append, List.nil_append]
            conv => arg 4; simp only [heapOf]
            try conv => arg 5; simp only [List.length, Nat.reduceAdd]
            try conv => arg 6; simp only [List.length, Nat.reduceAdd]
            refine EVgo9 (And.intro (@tkE.eq_1) ( And.intro (@slI.eq_1) ( And.intro (@atE.eq_1) ( And.intro (hok) ( And.intro (hst) ( And.intro (hh2) ( And.intro (e8) (e6)))))))) (h63) (h15) (h37) (h62) trivial trivial trivial trivial trivial trivial trivial ?_
            exact EVret trivial
    · have hh2 : (t.h != (r.length : Int)) = true := by simpa using hh
      refine sp_of hcf env41 ?_
      simp only [unc, if_neg (show ¬ (3 ≤ r.length ∧ t.h = r.length) from fun q => hh q.2)]
      conv => arg 2; simp only [ir41]
      conv => arg 3; simp only [ir41, Go.Proofs.YtklanpanmndakaaEv.start, List.length, Nat.reduceAdd, Nat.reduceSub, List.reduceReplicate, List.append_eq, List.cons_append, List.nil_append]
      conv => arg 4; simp only [heapOf]
      try conv => arg 5; simp only [List.length, Nat.reduceAdd]
      try conv => arg 6; simp only [List.length, Nat.reduceAdd]
      refine EVgo2 (And.intro (@tkE.eq_1) ( And.intro (@slI.eq_1) (hh2))) (h63) trivial trivial trivial ?_
      exact EVret trivial
  · simp only [pop, if_neg (show ¬ (0 ≤ (3 : Int) ∧ (3 : Int) ≤ (r.length : Int)) by omega)] at h63
    refine sp_of hcf env41 ?_
    simp only [unc, if_neg (show ¬ (3 ≤ r.length ∧ t.h = r.length) from fun q => hl q.1)]
    conv => arg 2; simp only [ir41]
    conv => arg 3; simp only [ir41, Go.Proofs.YtklanpanmndakaaEv.start, List.length, Nat.reduceAdd, Nat.reduceSub, List.reduceReplicate, List.append_eq, List.cons_append, List.nil_append]
    conv => arg 4; simp only [heapOf]
    try conv => arg 5; simp only [List.length, Nat.reduceAdd]
    try conv => arg 6; simp only [List.length, Nat.reduceAdd]
    refine EVgo2 (@tkE.eq_1) (h63) trivial trivial trivial ?_
    exact EVret trivial
theorem s54 (t : Tk) (r : List Int) (hd : t.d.length ≤ 64) (hr : r.length ≤ 64) (hv : ∀ x ∈ r, x ≤ 9223372036854775807) : Sp cf 54 [tkE t, slI r] (.tup [tkE (unc t r).1, .bool false, .int .i64 (unc t r).2]) := by
  by_cases hl : 3 ≤ r.length
  · have hl2 : ¬ ((r.length : Int) < 3) := by omega
    have w1 : IntKind.i64.wrap ((r.length : Int) - 1) = ((r.length - 1 : Nat) : Int) := by rw [i64_in _ (by omega)]; omega
    have w3 : IntKind.i64.wrap ((r.length : Int) - 3) = ((r.length - 3 : Nat) : Int) := by rw [i64_in _ (by omega)]; omega
    have e1 := at_getD (l := r) (i := r.length - 1) (by omega)
    have e3 := at_getD (l := r) (i := r.length - 3) (by omega)
    have e6 : (r.take (r.length - 3)).length = r.length - 3 := by rw [List.length_take]; omega
    by_cases hh : t.h = r.length
    · have hh2 : (t.h != (r.length : Int)) = false := by simp [hh]
      have hle : r.getD (r.length - 1) 0 ≤ 9223372036854775807 := by
        rw [List.getD_eq_getElem?_getD, List.getElem?_eq_getElem (show r.length - 1 < r.length by omega)]
        exact hv _ (List.getElem_mem _)
      generalize hf2 : r.getD (r.length - 1) 0 = f2 at *
      generalize hf0 : r.getD (r.length - 3) 0 = f0 at *
      have h48 := s48 hcf f2 hle
      have h51 := s51 hcf f0 (r.length - 3 : Nat)
      cases hok : okAt f2 with
      | false =>
        refine sp_of hcf env54 ?_
        simp only [unc, if_pos (And.intro hl hh), hf2, hf0, hok, Bool.false_eq_true, false_and, if_false]
        conv => arg 2; simp only [ir54]
        conv => arg 3; simp only [ir54, Go.Proofs.YtklanpanmndakaaEv.start, List.length, Nat.reduceAdd, Nat.reduceSub, List.reduceReplicate, List.append_eq, List.cons_append, List.nil_append]
        conv => arg 4; simp only [heapOf]
        try conv => arg 5; simp only [List.length, Nat.reduceAdd]
        try conv => arg 6; simp only [List.length, Nat.reduceAdd]
        refine EVgo2 (And.intro (@tkE.eq_1) ( And.intro (@slI.eq_1) ( And.intro (@atE.eq_1) ( And.intro (hok) ( And.intro (hh2) ( And.intro (hl2) ( And.intro (w1) (e1)))))))) (h48) trivial trivial trivial ?_
        exact EVret trivial
      | true =>
        cases hst : stands f0 (r.length - 3 : Nat) with
        | false =>
          refine sp_of hcf env54 ?_
          simp only [unc, if_pos (And.intro hl hh), hf2, hf0, hok, hst, Bool.false_eq_true, and_false, if_false]
          conv => arg 2; simp only [ir54]
          conv => arg 3; simp only [ir54, Go.Proofs.YtklanpanmndakaaEv.start, List.length, Nat.reduceAdd, Nat.reduceSub, List.reduceReplicate, List.append_eq, List.cons_append, List.nil_append]
          conv => arg 4; simp only [heapOf]
          try conv => arg 5; simp only [List.length, Nat.reduceAdd]
          try conv => arg 6; simp only [List.length, Nat.reduceAdd]
          refine EVgo2 (And.intro (@tkE.eq_1) ( And.intro (@slI.eq_1) ( And.intro (@atE.eq_1) ( And.intro (hok) ( And.intro (hst) ( And.intro (hh2) ( And.intro (hl2) ( And.intro (w1) ( And.intro (e1) ( And.intro (w3) (e3))))))))))) (h48) (h51) trivial trivial ?_
          exact EVret trivial
        | true =>
          have h49 := s49 hcf t.d [0] 64 (by omega) (by simp)
          by_cases hdl : t.d.length ≤ 63
          · simp only [push, if_pos (show (t.d.length : Int) + (([0] : List Int).length : Nat) ≤ 64 by simp; omega)] at h49
            refine sp_of hcf env54 ?_
            simp only [unc, if_pos (And.intro hl hh), hf2, hf0, hok, hst, and_self, if_true, if_pos hdl]
            conv => arg 2; simp only [ir54]
            conv => arg 3; simp only [ir54, Go.Proofs.YtklanpanmndakaaEv.start, List.length, Nat.reduceAdd, Nat.reduceSub, List.reduceReplicate, List.append_eq, List.cons_append, List.nil_append]
            conv => arg 4; simp only [heapOf]
            try conv => arg 5; simp only [List.length, Nat.reduceAdd]
            try conv => arg 6; simp only [List.length, Nat.reduceAdd]
            refine EVgo9 (And.intro (@tkE.eq_1) ( And.intro (@slI.eq_1) ( And.intro (@atE.eq_1) ( And.intro (hok) ( And.intro (hst) ( And.intro (hh2) ( And.intro (hl2) ( And.intro (w1) ( And.intro (e1) ( And.intro (w3) ( And.intro (e3) ( And.intro (takeI) ( And.intro (e6) (lenI)))))))))))))) (h48) (h51) (h49) trivial trivial trivial trivial trivial trivial trivial trivial ?_
            exact EVret (e6)
          · simp only [push, if_neg (show ¬ (t.d.length : Int) + (([0] : List Int).length : Nat) ≤ 64 by simp; omega)] at h49
            refine sp_of hcf env54 ?_
            simp only [unc, if_pos (And.intro hl hh), hf2, hf0, hok, hst, and_self, if_true, if_neg hdl]
            conv => arg 2; simp only [ir54]
            conv => arg 3; simp only [ir54, Go.Proofs.YtklanpanmndakaaEv.start, List.length, Nat.reduceAdd, Nat.reduceSub, List.reduceReplicate, List.append_eq, List.cons_append, List.nil_append]
            conv => arg 4; simp only [heapOf]
            try conv => arg 5; simp only [List.length, Nat.reduceAdd]
            try conv => arg 6; simp only [List.length, Nat.reduceAdd]
            refine EVgo9 (And.intro (@tkE.eq_1) ( And.intro (@slI.eq_1) ( And.intro (@atE.eq_1) ( And.intro (hok) ( And.intro (hst) ( And.intro (hh2) ( And.intro (hl2) ( And.intro (w1) ( And.intro (e1) ( And.intro (w3) ( And.intro (e3) (e6)))))))))))) (h48) (h51) (h49) trivial trivial trivial trivial trivial trivial trivial trivial ?_
            exact EVret trivial
    · have hh2 : (t.h != (r.length : Int)) = true := by simpa using hh
      refine sp_of hcf env54 ?_
      simp only [unc, if_neg (show ¬ (3 ≤ r.length ∧ t.h = r.length) from fun q => hh q.2)]
      conv => arg 2; simp only [ir54]
      conv => arg 3; simp only [ir54, Go.Proofs.YtklanpanmndakaaEv.start, List.length, Nat.reduceAdd, Nat.reduceSub, List.reduceReplicate, List.append_eq, List.cons_append, List.nil_append]
      conv => arg 4; simp only [heapOf]
      try conv => arg 5; simp only [List.length, Nat.reduceAdd]
      try conv => arg 6; simp only [List.length, Nat.reduceAdd]
      refine EVgo2 (And.intro (@tkE.eq_1) ( And.intro (@slI.eq_1) ( And.intro (hh2) (hl2)))) trivial trivial trivial trivial ?_
      exact EVret trivial
  · have hl2 : (r.length : Int) < 3 := by omega
    refine sp_of hcf env54 ?_
    simp only [unc, if_neg (show ¬ (3 ≤ r.length ∧ t.h = r.length) from fun q => hl q.1)]
    conv => arg 2; simp only [ir54]
    conv => arg 3; simp only [ir54, Go.Proofs.YtklanpanmndakaaEv.start, List.length, Nat.reduceAdd, Nat.reduceSub, List.reduceReplicate, List.append_eq, List.cons_append, List.nil_append]
    conv => arg 4; simp only [heapOf]
    try conv => arg 5; simp only [List.length, Nat.reduceAdd]
    try conv => arg 6; simp only [List.length, Nat.reduceAdd]
    refine EVgo2 (And.intro (@tkE.eq_1) ( And.intro (@slI.eq_1) (hl2))) trivial trivial trivial trivial ?_
    exact EVret trivial
end
end Go.Proofs.YtklanpanmndakaaR
