/- Evs13Q: a part of the proof. -/
import Derived.Test.YtklanpanmndakaaEvs13P
open Go Go.Proofs.YtklanpanmndakaaEv Go.Proofs.YtklanpanmndakaaR Go.IntWalk
set_option maxRecDepth 20000
set_option maxHeartbeats 8000000
set_option linter.unusedVariables false
set_option linter.unusedSimpArgs false
namespace Go.Proofs.YtklanpanmndakaaR
section
variable {cf : CF} (hcf : cf = ev env)
include hcf
theorem s29o (a b : Bool) (m : Tk) (to : Int) (hs : saneB m = true) (ht : 0 ≤ to ∧ to ≤ 4096004095) (hx : ¬ m.r.length ≤ 60) : cf 29 [tk a b m, .int .i64 to] [] = some (.tup [tk a b m, .int .i64 (-5)], []) := by
  have h38 := s38 hcf a b m hs
  have h15 := s15 hcf to ht
  have h20 := s20 hcf m.th m.pl
  have h39 := s39n hcf a b false m [m.h, (m.d.length : Int), addr m.th m.pl, -1] ((sane_iff m).1 hs) (by simp) (by simp only [List.length_cons, List.length_nil]; omega)
  rw [ownI_in] at h39
  obtain ⟨d, r, th, pl, h⟩ := m
  refine ev_ofC' hcf env29 ?_
  simp only [tk] at h38 h39 ⊢
  conv => arg 2; simp only [ir29]
  conv => arg 3; simp only [ir29, Go.Proofs.YtklanpanmndakaaEv.start, List.length, Nat.reduceAdd, Nat.reduceSub, List.reduceReplicate, List.append_eq, List.cons_append, List.nil_append]
  conv => arg 4; simp only [heapOf]
  try conv => arg 5; simp only [List.length, Nat.reduceAdd]
  try conv => arg 6; simp only [List.length, Nat.reduceAdd]
  refine EVgo9 trivial (h38) (h15) (h20) (h39) trivial trivial trivial trivial trivial trivial trivial ?_
  refine WQ.ret ?_
  rfl
theorem s29a (a b : Bool) (m : Tk) (to : Int) (hs : saneB m = true) (hr : -9223372036854775808 ≤ to ∧ to ≤ 9223372036854775807) (ht : ¬ (0 ≤ to ∧ to ≤ 4096004095)) : cf 29 [tk a b m, .int .i64 to] [] = some (.tup [tk a b m, .int .i64 (-9)], []) := by
  have h38 := s38 hcf a b m hs
  have h15 := s15n hcf to hr ht
  obtain ⟨d, r, th, pl, h⟩ := m
  refine ev_ofC' hcf env29 ?_
  simp only [tk] at h38 ⊢
  conv => arg 2; simp only [ir29]
  conv => arg 3; simp only [ir29, Go.Proofs.YtklanpanmndakaaEv.start, List.length, Nat.reduceAdd, Nat.reduceSub, List.reduceReplicate, List.append_eq, List.cons_append, List.nil_append]
  conv => arg 4; simp only [heapOf]
  try conv => arg 5; simp only [List.length, Nat.reduceAdd]
  try conv => arg 6; simp only [List.length, Nat.reduceAdd]
  refine EVgo2 trivial (h38) (h15) trivial trivial ?_
  refine WQ.ret ?_
  rfl
theorem s8 (m : Tk) (to : Int) (l : List Int) (n : Int) (hto : -9223372036854775808 ≤ to ∧ to ≤ 9223372036854775807) : cf 8 [tk false false m, .int .i64 to, .sl l.length false (flat encI l), .int .i64 n] [] = some (.bool true, []) := by
  have h11 := s11 hcf false false m
  have h13 := s13 hcf false false m
  have h12 := s12 hcf false false m
  refine ev_ofC' hcf env8 ?_
  cases hf : (decide ((m.d.length : Int) ≤ 100) && decide ((m.r.length : Int) ≤ 100)) with
  | false =>
    rw [hf] at h11
    simp only [tk] at h11 ⊢
    conv => arg 2; simp only [ir8]
    conv => arg 3; simp only [ir8, Go.Proofs.YtklanpanmndakaaEv.start, List.length, Nat.reduceAdd, Nat.reduceSub, List.reduceReplicate, List.append_eq, List.cons_append, List.nil_append]
    conv => arg 4; simp only [heapOf]
    try conv => arg 5; simp only [List.length, Nat.reduceAdd]
    try conv => arg 6; simp only [List.length, Nat.reduceAdd]
    refine EVgo2 trivial (s10 hcf) (h11) trivial trivial ?_
    exact WQ.ret rfl
  | true =>
    rw [hf] at h11
    cases hs : saneB m with
    | false =>
      rw [hs] at h12
      simp only [tk] at h11 h12 h13 ⊢
      conv => arg 2; simp only [ir8]
      conv => arg 3; simp only [ir8, Go.Proofs.YtklanpanmndakaaEv.start, List.length, Nat.reduceAdd, Nat.reduceSub, List.reduceReplicate, List.append_eq, List.cons_append, List.nil_append]
      conv => arg 4; simp only [heapOf]
      try conv => arg 5; simp only [List.length, Nat.reduceAdd]
      try conv => arg 6; simp only [List.length, Nat.reduceAdd]
      refine EVgo9 trivial (s10 hcf) (h11) (h13) (h12) trivial trivial trivial trivial trivial trivial trivial ?_
      exact WQ.ret rfl
    | true =>
      rw [hs] at h12
      have hS := (sane_iff m).1 hs
      by_cases hl20 : (l.length : Int) > 20
      · obtain ⟨d, r, th, pl, h⟩ := m
        simp only [tk] at h11 h12 h13 ⊢
        conv => arg 2; simp only [ir8]
        conv => arg 3; simp only [ir8, Go.Proofs.YtklanpanmndakaaEv.start, List.length, Nat.reduceAdd, Nat.reduceSub, List.reduceReplicate, List.append_eq, List.cons_append, List.nil_append]
        conv => arg 4; simp only [heapOf]
        try conv => arg 5; simp only [List.length, Nat.reduceAdd]
        try conv => arg 6; simp only [List.length, Nat.reduceAdd]
        refine EVgo9 (hl20) (s10 hcf) (h11) (h13) (h12) trivial trivial trivial trivial trivial trivial trivial ?_
        exact WQ.ret rfl
      by_cases hd63 : (m.d.length : Int) > 63
      · obtain ⟨d, r, th, pl, h⟩ := m
        simp only at hd63
        simp only [tk] at h11 h12 h13 ⊢
        conv => arg 2; simp only [ir8]
        conv => arg 3; simp only [ir8, Go.Proofs.YtklanpanmndakaaEv.start, List.length, Nat.reduceAdd, Nat.reduceSub, List.reduceReplicate, List.append_eq, List.cons_append, List.nil_append]
        conv => arg 4; simp only [heapOf]
        try conv => arg 5; simp only [List.length, Nat.reduceAdd]
        try conv => arg 6; simp only [List.length, Nat.reduceAdd]
        refine EVgo9 (And.intro (hl20) (hd63)) (s10 hcf) (h11) (h13) (h12) trivial trivial trivial trivial trivial trivial trivial ?_
        exact WQ.ret rfl
      by_cases hv : 0 ≤ to ∧ to ≤ 4096004095
      · by_cases hr60 : m.r.length ≤ 60
        · have h29 := s29 hcf false false m to hs hv hr60
          obtain ⟨hd, hr, hth, hpl, hh⟩ := id hS
          obtain ⟨q1, q2, q3, q4⟩ := addr_at hth hpl
          have hcutm := cut_le hS
          have hst : stands m.h m.r.length = true := (stands_iff _ _).2 (by omega)
          obtain ⟨d, r, th, pl, h⟩ := m
          simp only at hd hr hth hpl hh hd63 hr60 q1 q2 q3 q4 hst h29 hcutm
          generalize hA : addr th pl = A at *
          have hsx : saneB ⟨d, r ++ [h, (d.length : Int), A, -1], to / 4096, to % 4096, (r.length : Int) + 3⟩ = true := (sane_iff _).2 ⟨by simp only; omega, by simp only [List.length_append, List.length_cons, List.length_nil]; omega, by simp only; omega, by simp only; omega, by simp only [List.length_append, List.length_cons, List.length_nil]; omega⟩
          obtain ⟨c, h17⟩ := s17c hcf false false d r (to / 4096) (to % 4096) ((r.length : Int) + 3) h (d.length : Int) A hsx (by omega) rfl ⟨q3, q4⟩ hst
          rw [q1, q2] at h17
          have h16 := s16 hcf c false r (by omega)
          have h16d := s16 hcf false false d (by omega)
          have hraw : (List.drop 0 (flat encI (d ++ [0]))).take (d.length * 1) = flat encI d := by
            rw [List.drop_zero, Nat.mul_one, flat_append, List.take_append, List.take_of_length_le (by rw [lenI]; omega), lenI, Nat.sub_self]
            simp
          have h16r : cf 16 [.sl d.length false ((List.drop 0 (flat encI (d ++ [0]))).take (d.length * 1)), .sl d.length false (flat encI d)] [] = some (.bool true, []) := by rw [hraw]; exact h16d
          have hb : ∀ x : Int, (x == x) = true := fun x => by simp
          have hbn : ∀ x : Int, (x != x) = false := fun x => by simp
          have hw1 : IntKind.i64.wrap ((d.length : Int) + 1) = ((d.length + 1 : Nat) : Int) := by rw [i64_in _ (by omega)]; simp
          have hlt : (d.length : Int) < ((d.length + 1 : Nat) : Int) := by omega
          have hat : List.take 1 (List.drop d.length (flat encI (d ++ [0]))) = [.int .i64 0] := by rw [at_end]; rfl
          simp only [tk] at h11 h12 h13 h29 ⊢
          conv => arg 2; simp only [ir8]
          conv => arg 3; simp only [ir8, Go.Proofs.YtklanpanmndakaaEv.start, List.length, Nat.reduceAdd, Nat.reduceSub, List.reduceReplicate, List.append_eq, List.cons_append, List.nil_append]
          conv => arg 4; simp only [heapOf]
          try conv => arg 5; simp only [List.length, Nat.reduceAdd]
          try conv => arg 6; simp only [List.length, Nat.reduceAdd]
          refine EVgo9 (And.intro (hl20) ( And.intro (hd63) ( And.intro (hb) ( And.intro (hbn) ( And.intro (hw1) (hlt)))))) (s10 hcf) (h11) (h13) (h12) (h29) (h17) (h16) trivial trivial trivial trivial ?_
          first | refine WO.step (k_load1 rfl rfl hat) ?_ | refine WOc.step (k_load1 rfl rfl hat) ?_
          conv => arg 2; simp only [setOpt, List.set, Nat.reduceLT, Int.reduceToNat, List.drop_drop, valT, List.getD_cons_zero, List.getD_cons_succ, Int.reduceLT, Int.reduceLE, Int.reduceAdd, Int.reduceSub, Int.reduceMul, Int.reduceNeg, Int.reduceEq, Int.reduceNe, Int.cast_ofNat_Int, Int.natCast_zero, Int.natCast_one, ge_iff_le, gt_iff_lt, decide_true, decide_false, Bool.not_true, Bool.not_false, Int.toNat_natCast, Nat.sub_zero, Nat.mul_one, Option.isSome_some, Option.isSome_none, Bool.false_eq_true, Bool.and_true, Bool.true_and, Bool.and_false, Bool.false_and, Nat.zero_add, Nat.zero_mul, List.drop_zero, reduceIte, setRange, PV.cells, fillB, List.take, List.drop, List.append_eq, List.cons_append, List.nil_append, List.length, List.map, List.zip, List.zipWith, List.replicate, List.flatten, Nat.reduceAdd, Nat.reduceMul, Nat.reduceSub, PV.mapId, mapIds, Option.map, Blk.mapId, sigN, sigS, hb]
          try conv => arg 3; simp only [Nat.reduceLT, List.reduceReplicate, List.flatten_cons, List.flatten_nil, List.append_nil, Nat.reduceMul, Nat.mul_one, Nat.one_mul, Nat.zero_mul, Nat.zero_add, List.drop_zero, List.drop_succ_cons, List.drop_nil, List.take_succ_cons, List.take_zero, List.take_nil, List.drop_drop, setRange, PV.cells, valT, List.getD_cons_zero, List.getD_cons_succ, List.take, List.length, Nat.reduceAdd, List.nil_append, applyU, hset, hdel, Nat.reduceEqDiff, reduceIte, List.append_eq, List.cons_append, List.nil_append, frz, rowsOf, updsNew, updsAt, sigN, sigS, PV.mapId, mapIds, Option.map, Blk.mapId, List.drop, heapOf, hb]
          conv => arg 5; simp only [stride, Nat.reduceAdd]
          refine EVgo2 (And.intro (hb) ( And.intro (hbn) ( And.intro (hw1) (hlt)))) (h16r) trivial trivial trivial ?_
          have hS2 := (sane_iff _).1 hsx
          generalize hP1 : to / 4096 = p1 at *
          generalize hP2 : to % 4096 = p2 at *
          refine WC.loop (T' := _) (H' := _) (n' := _) rfl ((?_ : ∀ (m i : Nat) (tl : List Int), i + m = l.length → saneB ⟨d, r ++ h :: (d.length : Int) :: A :: tl, p1, p2, (r.length : Int) + 3⟩ = true →
            WC cf _ (mkT 216 [(2, .sl l.length false (flat encI l)), (3, .int .i64 n), (4, .ptr 0 0), (9, .bool true), (10, .ptr 1 0), (15, .int .i64 (i : Nat))])
              [(0, .box [.sl d.length false (flat encI d), .sl r.length false (flat encI r), .int .i64 th, .int .i64 pl, .int .i64 h]),
               (1, .box [.sl d.length false (flat encI d), .sl (r ++ h :: (d.length : Int) :: A :: tl).length false (flat encI (r ++ h :: (d.length : Int) :: A :: tl)), .int .i64 p1, .int .i64 p2, .int .i64 ((r.length : Int) + 3)])] 0 2 _) l.length 0 [-1] (by omega) hsx)
          intro m
          induction m with
          | zero =>
            intro i tl hi hst2
            obtain rfl : i = l.length := by omega
            have hS3 := (sane_iff _).1 hst2
            have hsl : saneB ⟨l, r ++ h :: (d.length : Int) :: A :: tl, p1, p2, (r.length : Int) + 3⟩ = true := (sane_iff _).2 ⟨by simp only; omega, hS3.r, hS3.th, hS3.pl, hS3.h⟩
            obtain ⟨c3, h26⟩ := s26 hcf false false l r h (d.length : Int) A tl p1 p2 ((r.length : Int) + 3) n hsl rfl ⟨q3, q4⟩
            rw [cnt_nat _ (by omega), q1, q2, hcutm] at h26
            have hDl : (deepL l d.length ++ [n]).length = d.length + 1 := by rw [List.length_append, deepL_len]; rfl
            have hlast : List.drop d.length (flat encI (deepL l d.length ++ [n])) = [.int .i64 n] := by
              have := at_end (deepL l d.length) n
              rw [deepL_len] at this
              exact this
            have hk1 : List.take (min l.length d.length) (flat encI (deepL l d.length ++ [n])) = flat encI (l.take (min l.length d.length)) := by
              have := flat_take (enc := encI) (es := 1) (fun _ => rfl) (deepL l d.length ++ [n]) (min l.length d.length)
              rw [Nat.mul_one] at this
              rw [this, List.take_append_of_le_length (by rw [deepL_len]; omega)]
              unfold deepL
              rw [List.take_append_of_le_length (by rw [List.length_take]; omega), List.take_take]
              congr 2
              omega
            have hk2 : List.take (min l.length d.length) (flat encI l) = flat encI (l.take (min l.length d.length)) := by
              have := flat_take (enc := encI) (es := 1) (fun _ => rfl) l (min l.length d.length)
              rw [Nat.mul_one] at this
              exact this
            have hkl : (l.take (min l.length d.length)).length = min l.length d.length := by rw [List.length_take]; omega
            have h16k := s16 hcf false false (l.take (min l.length d.length)) (by omega)
            rw [hkl] at h16k
            have h16c := s16 hcf c3 false r (by omega)
            have hla : (flat encI l).length = l.length := lenI l
            have e5 : ∀ x : List PV, ([] : List PV).take (0 * 1) ++ x = x := fun x => by simp
            generalize hDD : deepL l d.length ++ [n] = D at *
            simp only [tk] at h26
            rw [ownI_in l] at h26
            unfold ownI at h26
            rw [hDl] at h26
            have hirr : ((l.length : Int) < (l.length : Int)) = False := by simp
            conv => arg 3; simp only [mkT, putT, List.reduceReplicate, List.set]
            refine EVgo2 (hirr) trivial trivial trivial trivial ?_
            refine EVgo2 (And.intro (hb) ( And.intro (hbn) ( And.intro (hw1) ( And.intro (hlt) (hlast))))) (h26) (h16c) trivial trivial ?_
            refine EVgo2 (And.intro (hb) ( And.intro (hbn) ( And.intro (hw1) ( And.intro (hlt) ( And.intro (hlast) ( And.intro (hk1) (hk2))))))) (h16k) trivial trivial trivial ?_
            refine WQ.ret ?_
            rfl
          | succ m ih =>
            intro i tl hi hst2
            have hS3 := (sane_iff _).1 hst2
            have hlti : (i : Int) < (l.length : Int) := by omega
            have hlti' : i < l.length := by omega
            have hwi : IntKind.i64.wrap ((i : Int) + 1) = ((i + 1 : Nat) : Int) := by rw [i64_in _ (by omega)]; simp
            have e0 := flat_at (enc := encI) (es := 1) (fun _ => rfl) hlti'
            rw [Nat.mul_one] at e0
            simp only [encI, List.cons_append, List.nil_append] at e0
            generalize l[i] = x at e0
            by_cases hfull : (r ++ h :: (d.length : Int) :: A :: tl).length ≤ 63
            · have h21 := s21 hcf false false ⟨d, r ++ h :: (d.length : Int) :: A :: tl, p1, p2, (r.length : Int) + 3⟩ x hst2 hfull
              have hn : r ++ h :: (d.length : Int) :: A :: tl ++ [x] = r ++ h :: (d.length : Int) :: A :: (tl ++ [x]) := by simp
              have hsn := (sane_iff _).2 (sn_push hS3 [x] (by simp only [List.length_cons, List.length_nil]; omega) hS3.th hS3.pl)
              simp only [hn] at h21 hsn
              have hih := ih (i + 1) (tl ++ [x]) (by omega) hsn
              simp only [tk] at h21
              conv => arg 3; simp only [mkT, putT, List.reduceReplicate, List.set]
              refine EVgo2 (And.intro (hlti) ( And.intro (hwi) (e0))) (h21) trivial trivial trivial ?_
              exact WC.loop rfl hih
            · have h21 := s21o hcf false false ⟨d, r ++ h :: (d.length : Int) :: A :: tl, p1, p2, (r.length : Int) + 3⟩ x hst2 hfull
              have hih := ih (i + 1) tl (by omega) hst2
              simp only [tk] at h21
              conv => arg 3; simp only [mkT, putT, List.reduceReplicate, List.set]
              refine EVgo2 (And.intro (hlti) ( And.intro (hwi) (e0))) (h21) trivial trivial trivial ?_
              exact WC.loop rfl hih
        · have h29 := s29o hcf false false m to hs hv hr60
          obtain ⟨d, r, th, pl, h⟩ := m
          simp only at hd63
          simp only [tk] at h11 h12 h13 h29 ⊢
          conv => arg 2; simp only [ir8]
          conv => arg 3; simp only [ir8, Go.Proofs.YtklanpanmndakaaEv.start, List.length, Nat.reduceAdd, Nat.reduceSub, List.reduceReplicate, List.append_eq, List.cons_append, List.nil_append]
          conv => arg 4; simp only [heapOf]
          try conv => arg 5; simp only [List.length, Nat.reduceAdd]
          try conv => arg 6; simp only [List.length, Nat.reduceAdd]
          refine EVgo9 (And.intro (hl20) (hd63)) (s10 hcf) (h11) (h13) (h12) (h29) trivial trivial trivial trivial trivial trivial ?_
          refine WQ.ret ?_
          rfl
      · have h29 := s29a hcf false false m to hs hto hv
        obtain ⟨d, r, th, pl, h⟩ := m
        simp only at hd63
        simp only [tk] at h11 h12 h13 h29 ⊢
        conv => arg 2; simp only [ir8]
        conv => arg 3; simp only [ir8, Go.Proofs.YtklanpanmndakaaEv.start, List.length, Nat.reduceAdd, Nat.reduceSub, List.reduceReplicate, List.append_eq, List.cons_append, List.nil_append]
        conv => arg 4; simp only [heapOf]
        try conv => arg 5; simp only [List.length, Nat.reduceAdd]
        try conv => arg 6; simp only [List.length, Nat.reduceAdd]
        refine EVgo9 (And.intro (hl20) (hd63)) (s10 hcf) (h11) (h13) (h12) (h29) trivial trivial trivial trivial trivial trivial ?_
        refine WQ.ret ?_
        rfl
end
end Go.Proofs.YtklanpanmndakaaR
