/- Evs13K: a part of the proof. -/
import Derived.Test.YtklanpanmndakaaEvs13E
open Go Go.Proofs.YtklanpanmndakaaEv Go.Proofs.YtklanpanmndakaaR Go.IntWalk
set_option maxRecDepth 20000
set_option maxHeartbeats 8000000
set_option linter.unusedVariables false
set_option linter.unusedSimpArgs false
namespace Go.Proofs.YtklanpanmndakaaR
def low (n : Int) : Int := IntKind.i64.wrap (((BitVec.ofInt IntKind.i64.bits n &&& BitVec.ofInt IntKind.i64.bits 16777215).toNat : Nat) : Int)
theorem low_at (n : Int) : 0 ≤ low n ∧ low n ≤ 4096004095 := by
  unfold low
  have h : (BitVec.ofInt IntKind.i64.bits n &&& BitVec.ofInt IntKind.i64.bits 16777215).toNat ≤ 16777215 := by
    rw [BitVec.toNat_and]
    have : (BitVec.ofInt IntKind.i64.bits 16777215).toNat = 16777215 := by decide
    rw [this]
    exact Nat.and_le_right
  rw [i64_in _ (by omega)]
  omega
theorem low_def (n : Int) : IntKind.i64.wrap (((BitVec.ofInt IntKind.i64.bits n &&& BitVec.ofInt IntKind.i64.bits 16777215).toNat : Nat) : Int) = low n := rfl
def encP (p : Int × Int) : List PV := [.int .i64 p.1, .int .i64 p.2]
theorem lenP (l : List (Int × Int)) : (flat encP l).length = l.length * 2 := flat_length (enc := encP) (es := 2) (fun _ => rfl) l
/-- the task behind so many entries -/
def mi (m : Tk) (l : List Int) : Nat → Tk
  | 0 => m
  | i + 1 => ⟨(mi m l i).d, (mi m l i).r ++ [addr (mi m l i).th (mi m l i).pl], low (l.getD i 0) / 4096, low (l.getD i 0) % 4096, (mi m l i).h⟩
/-- the places that were left -/
def ps (m : Tk) (l : List Int) : Nat → List (Int × Int)
  | 0 => []
  | i + 1 => ps m l i ++ [((mi m l i).th, (mi m l i).pl)]
theorem ps_len (m : Tk) (l : List Int) : ∀ i, (ps m l i).length = i
  | 0 => rfl
  | i + 1 => by simp [ps, ps_len m l i]
theorem ps_at (m : Tk) (l : List Int) : ∀ (n k : Nat), k < n → ∃ rest, List.drop (k * 2) (flat encP (ps m l n)) = .int .i64 (mi m l k).th :: .int .i64 (mi m l k).pl :: rest
  | 0, k, h => by omega
  | n + 1, k, h => by
    by_cases hk : k < n
    · obtain ⟨rest, hr⟩ := ps_at m l n k hk
      refine ⟨rest ++ flat encP [((mi m l n).th, (mi m l n).pl)], ?_⟩
      rw [ps, flat_append, List.drop_append_of_le_length (by rw [lenP, ps_len]; omega), hr]
      rfl
    · obtain rfl : k = n := by omega
      refine ⟨[], ?_⟩
      rw [ps, flat_append, List.drop_append, List.drop_of_length_le (by rw [lenP, ps_len]; omega), lenP, ps_len, Nat.sub_self]
      rfl
theorem mi_is (m : Tk) (l : List Int) (hs : Sn m) : ∀ i, m.r.length + i ≤ 64 → Sn (mi m l i) ∧ (mi m l i).d = m.d ∧ (mi m l i).h = m.h ∧ (mi m l i).r.length = m.r.length + i
  | 0, _ => ⟨hs, rfl, rfl, rfl⟩
  | i + 1, h => by
    obtain ⟨h1, h2, h3, h4⟩ := mi_is m l hs i (by omega)
    have := low_at (l.getD i 0)
    refine ⟨sn_push h1 _ (by simp only [List.length_cons, List.length_nil]; omega) (by omega) (by omega), h2, h3, ?_⟩
    simp only [mi, List.length_append, List.length_cons, List.length_nil, h4]
    omega
section
variable {cf : CF} (hcf : cf = ev env)
include hcf
theorem s3 (m : Tk) (l : List Int) (hl0 : l.length < 9223372036854775808) : cf 3 [tk false false m, .sl l.length false (flat encI l)] [] = some (.bool true, []) := by
  have h11 := s11 hcf false false m
  have h13 := s13 hcf false false m
  have h12 := s12 hcf false false m
  refine ev_ofC' hcf env3 ?_
  cases hf : (decide ((m.d.length : Int) ≤ 100) && decide ((m.r.length : Int) ≤ 100)) with
  | false =>
    rw [hf] at h11
    simp only [tk] at h11 ⊢
    conv => arg 2; simp only [ir3]
    conv => arg 3; simp only [ir3, Go.Proofs.YtklanpanmndakaaEv.start, List.length, Nat.reduceAdd, Nat.reduceSub, List.reduceReplicate, List.append_eq, List.cons_append, List.nil_append]
    conv => arg 4; simp only [heapOf]
    try conv => arg 5; simp only [List.length, Nat.reduceAdd]
    try conv => arg 6; simp only [List.length, Nat.reduceAdd]
    refine EVgo2 trivial (s10 hcf) (h11) trivial trivial ?_
    exact WQ.ret rfl
  | true =>
    rw [hf] at h11
    cases hs : saneB m with
    | false =>
      rw [hs] at h12
      simp only [tk] at h11 h12 h13 ⊢
      conv => arg 2; simp only [ir3]
      conv => arg 3; simp only [ir3, Go.Proofs.YtklanpanmndakaaEv.start, List.length, Nat.reduceAdd, Nat.reduceSub, List.reduceReplicate, List.append_eq, List.cons_append, List.nil_append]
      conv => arg 4; simp only [heapOf]
      try conv => arg 5; simp only [List.length, Nat.reduceAdd]
      try conv => arg 6; simp only [List.length, Nat.reduceAdd]
      refine EVgo9 trivial (s10 hcf) (h11) (h13) (h12) trivial trivial trivial trivial trivial trivial trivial ?_
      exact WQ.ret rfl
    | true =>
      rw [hs] at h12
      have hS := (sane_iff m).1 hs
      have hcut := cut_le hS
      obtain ⟨hd, hr, hth, hpl, hh⟩ := id hS
      obtain ⟨d, r, th, pl, h⟩ := m
      simp only at hd hr hth hpl hh hcut
      simp only [tk] at h11 h12 h13 ⊢
      conv => arg 2; simp only [ir3]
      conv => arg 3; simp only [ir3, Go.Proofs.YtklanpanmndakaaEv.start, List.length, Nat.reduceAdd, Nat.reduceSub, List.reduceReplicate, List.append_eq, List.cons_append, List.nil_append]
      conv => arg 4; simp only [heapOf]
      try conv => arg 5; simp only [List.length, Nat.reduceAdd]
      try conv => arg 6; simp only [List.length, Nat.reduceAdd]
      by_cases hsum : IntKind.i64.wrap ((l.length : Int) + (r.length : Int)) > 64
      · refine EVgo9 (hsum) (s10 hcf) (h11) (h13) (h12) trivial trivial trivial trivial trivial trivial trivial ?_
        exact WQ.ret rfl
      by_cases hl : (l.length : Int) > 64
      · refine EVgo9 (And.intro (hsum) (hl)) (s10 hcf) (h11) (h13) (h12) trivial trivial trivial trivial trivial trivial trivial ?_
        exact WQ.ret rfl
      rw [i64_in _ (by omega)] at hsum
      have hw := i64_in ((l.length : Int) + (r.length : Int)) (by omega)
      refine EVgo9 (And.intro (hw) ( And.intro (hsum) (hl))) (s10 hcf) (h11) (h13) (h12) trivial trivial trivial trivial trivial trivial trivial ?_
      have hmi := mi_is ⟨d, r, th, pl, h⟩ l hS
      simp only at hmi
      refine WC.loop (T' := _) (H' := _) (n' := _) rfl ((?_ : ∀ (m i : Nat), i + m = l.length →
        WC cf _ (mkT 130 [(1, .sl l.length false (flat encI l)), (2, .ptr 0 0), (5, .bool true), (6, .ptr 1 0), (7, .own 2 2 0 (ps (Tk.mk d r th pl h) l i).length), (8, .int .i64 (i : Nat))])
          [(0, .box [.sl d.length false (flat encI d), .sl r.length false (flat encI r), .int .i64 th, .int .i64 pl, .int .i64 h]),
           (1, .box [.sl (mi (Tk.mk d r th pl h) l i).d.length false (flat encI (mi (Tk.mk d r th pl h) l i).d), .sl (mi (Tk.mk d r th pl h) l i).r.length false (flat encI (mi (Tk.mk d r th pl h) l i).r), .int .i64 (mi (Tk.mk d r th pl h) l i).th, .int .i64 (mi (Tk.mk d r th pl h) l i).pl, .int .i64 (mi (Tk.mk d r th pl h) l i).h]), (2, .row (flat encP (ps (Tk.mk d r th pl h) l i)))] 0 3 _) l.length 0 (by omega))
      intro m
      induction m with
      | zero =>
        intro i hi
        obtain rfl : i = l.length := by omega
        conv => arg 3; simp only [mkT, putT, List.reduceReplicate, List.set]
        refine EVgl2 trivial trivial trivial trivial trivial ?_
        have hfin := hmi l.length (by omega)
        have hj : IntKind.i64.wrap ((l.length : Int) - 1) = (l.length : Int) - 1 := by rw [i64_in _ (by omega)]
        rw [hj, ps_len]
        refine WC.loop (T' := _) (H' := _) (n' := _) rfl ((?_ : ∀ (k : Nat) (j : Int) (c : Bool), k ≤ l.length → j + 1 = (k : Int) →
          WC cf _ (mkT 130 [(2, .ptr 0 0), (5, .bool true), (6, .ptr 1 0), (7, .own 2 2 0 l.length), (13, .int .i64 j)])
            [(0, .box [.sl d.length false (flat encI d), .sl r.length false (flat encI r), .int .i64 th, .int .i64 pl, .int .i64 h]),
             (1, .box [.sl (mi (Tk.mk d r th pl h) l k).d.length false (flat encI (mi (Tk.mk d r th pl h) l k).d), .sl (mi (Tk.mk d r th pl h) l k).r.length c (flat encI (mi (Tk.mk d r th pl h) l k).r), .int .i64 (mi (Tk.mk d r th pl h) l k).th, .int .i64 (mi (Tk.mk d r th pl h) l k).pl, .int .i64 (mi (Tk.mk d r th pl h) l k).h]), (2, .row (flat encP (ps (Tk.mk d r th pl h) l l.length)))] 0 3 _) l.length ((l.length : Int) - 1) false (Nat.le_refl _) (by omega))
        intro k
        induction k with
        | zero =>
          intro j c hk hj
          obtain rfl : j = -1 := by omega
          have h18 := s18 hcf false c false false (Tk.mk d r th pl h) (by simp only; omega) (by simp only; omega)
          have h19 := s19 hcf false c (Tk.mk d r th pl h)
          simp only [tk] at h18 h19
          conv => arg 3; simp only [mkT, putT, List.reduceReplicate, List.set]
          refine EVgo2 trivial (h19) (h18) trivial trivial ?_
          refine WQ.ret ?_
          rfl
        | succ k ih =>
          intro j c hk hj
          obtain rfl : j = (k : Int) := by omega
          obtain ⟨g1, g2, g3, g4⟩ := hmi k (by omega)
          obtain ⟨f1, f2, f3, f4⟩ := hmi (k + 1) (by omega)
          obtain ⟨rest, hrow⟩ := ps_at (Tk.mk d r th pl h) l l.length k (by omega)
          have hge : (0 : Int) ≤ (k : Int) := by omega
          have hw' : IntKind.i64.wrap ((k : Int) - 1) = (k : Int) - 1 := by rw [i64_in _ (by omega)]
          have hih := fun c => ih ((k : Int) - 1) c (by omega) (by omega)
          rw [mi] at f1 f2 f3 f4 ⊢
          generalize low (l.getD k 0) = n at f1 f2 f3 f4 ⊢
          have hcl : k < l.length := by omega
          have hkl : (k : Int) < (l.length : Int) := by omega
          have hcut' := cut_le g1
          have haddr := addr_at g1.th g1.pl
          generalize mi (Tk.mk d r th pl h) l k = M at f1 f2 f3 f4 g1 g2 g3 g4 hih hrow hcut' haddr ⊢
          obtain ⟨d', r', th', pl', h'⟩ := M
          simp only at f1 f2 f3 f4 g1 g2 g3 g4 hih hrow hcut' haddr ⊢
          obtain ⟨q1, q2, q3, q4⟩ := haddr
          obtain ⟨c', h17⟩ := s17 hcf false c d' r' (n / 4096) (n % 4096) h' (addr th' pl') ((sane_iff _).2 f1) ⟨q3, q4⟩
          rw [q1, q2, hcut'] at h17
          simp only [tk] at h17
          have hb : ∀ x : Int, (x == x) = true := fun x => by simp
          have hrow' : List.take 2 (List.drop (k * 2) (flat encP (ps (Tk.mk d r th pl h) l l.length))) = [.int .i64 th', .int .i64 pl'] := by rw [hrow]; rfl
          conv => arg 3; simp only [mkT, putT, List.reduceReplicate, List.set]
          refine EVgo2 (And.intro (hge) ( And.intro (hw') ( And.intro (hkl) (hb)))) (h17) trivial trivial trivial ?_
          first | refine WO.step (k_loadn rfl rfl hrow' rfl) ?_ | refine WOc.step (k_loadn rfl rfl hrow' rfl) ?_
          conv => arg 2; simp only [setOpt, List.set, Nat.reduceLT, Int.reduceToNat, List.drop_drop, valT, List.getD_cons_zero, List.getD_cons_succ, Int.reduceLT, Int.reduceLE, Int.reduceAdd, Int.reduceSub, Int.reduceMul, Int.reduceNeg, Int.reduceEq, Int.reduceNe, Int.cast_ofNat_Int, Int.natCast_zero, Int.natCast_one, ge_iff_le, gt_iff_lt, decide_true, decide_false, Bool.not_true, Bool.not_false, Int.toNat_natCast, Nat.sub_zero, Nat.mul_one, Option.isSome_some, Option.isSome_none, Bool.false_eq_true, Bool.and_true, Bool.true_and, Bool.and_false, Bool.false_and, Nat.zero_add, Nat.zero_mul, List.drop_zero, reduceIte, setRange, PV.cells, fillB, List.take, List.drop, List.append_eq, List.cons_append, List.nil_append, List.length, List.map, List.zip, List.zipWith, List.replicate, List.flatten, Nat.reduceAdd, Nat.reduceMul, Nat.reduceSub, PV.mapId, mapIds, Option.map, Blk.mapId, sigN, sigS, hb]
          try conv => arg 3; simp only [Nat.reduceLT, List.reduceReplicate, List.flatten_cons, List.flatten_nil, List.append_nil, Nat.reduceMul, Nat.mul_one, Nat.one_mul, Nat.zero_mul, Nat.zero_add, List.drop_zero, List.drop_succ_cons, List.drop_nil, List.take_succ_cons, List.take_zero, List.take_nil, List.drop_drop, setRange, PV.cells, valT, List.getD_cons_zero, List.getD_cons_succ, List.take, List.length, Nat.reduceAdd, List.nil_append, applyU, hset, hdel, Nat.reduceEqDiff, reduceIte, List.append_eq, List.cons_append, List.nil_append, frz, rowsOf, updsNew, updsAt, sigN, sigS, PV.mapId, mapIds, Option.map, Blk.mapId, List.drop, heapOf, hb]
          conv => arg 5; simp only [stride, Nat.reduceAdd]
          refine EVgo2 (And.intro (hge) ( And.intro (hw') ( And.intro (hkl) (hb)))) trivial trivial trivial trivial ?_
          exact WC.loop rfl (hih c')
      | succ m ih =>
        intro i hi
        have hlt : (i : Int) < (l.length : Int) := by omega
        have hlt' : i < l.length := by omega
        have hw : IntKind.i64.wrap ((i : Int) + 1) = ((i + 1 : Nat) : Int) := by rw [i64_in _ (by omega)]; simp
        have e0 := flat_at (enc := encI) (es := 1) (fun _ => rfl) hlt'
        rw [Nat.mul_one] at e0
        simp only [encI, List.cons_append, List.nil_append] at e0
        have hnext : mi (Tk.mk d r th pl h) l (i + 1) = ⟨(mi (Tk.mk d r th pl h) l i).d, (mi (Tk.mk d r th pl h) l i).r ++ [addr (mi (Tk.mk d r th pl h) l i).th (mi (Tk.mk d r th pl h) l i).pl], low l[i] / 4096, low l[i] % 4096, (mi (Tk.mk d r th pl h) l i).h⟩ := by
          rw [mi, List.getD_eq_getElem?_getD, List.getElem?_eq_getElem hlt', Option.getD_some]
        have hpsn : ps (Tk.mk d r th pl h) l (i + 1) = ps (Tk.mk d r th pl h) l i ++ [((mi (Tk.mk d r th pl h) l i).th, (mi (Tk.mk d r th pl h) l i).pl)] := rfl
        have hih := ih (i + 1) (by omega)
        rw [hpsn, hnext] at hih
        obtain ⟨g1, g2, g3, g4⟩ := hmi i (by omega)
        have hPl : (ps (Tk.mk d r th pl h) l i).length ≤ 70 := by rw [ps_len]; omega
        generalize ps (Tk.mk d r th pl h) l i = P at hih hPl ⊢
        generalize mi (Tk.mk d r th pl h) l i = M at hih g1 g2 g3 g4 ⊢
        generalize l[i] = n at e0 hih
        have hlow := low_at n
        have h14 := s14 hcf false false M (low n) ((sane_iff M).2 g1) hlow (by omega)
        have h15 := s15 hcf (low n) hlow
        have h16 := s16 hcf false false M.d (by rw [g2]; omega)
        obtain ⟨d', r', th', pl', h'⟩ := M
        simp only at g2 g3 g4 hih
        subst g2
        have e1 : (flat encP P).take (P.length * 2) = flat encP P := List.take_of_length_le (by rw [lenP]; omega)
        have hb : ∀ x : Int, (x == x) = true := fun x => by simp
        simp only [tk] at h14 h16
        conv => arg 3; simp only [mkT, putT, List.reduceReplicate, List.set]
        refine EVgo9 (And.intro (hlt) ( And.intro (hw) ( And.intro (e0) ( And.intro (e1) ( And.intro (lenP) ( And.intro (low_def) (hb))))))) (h14) (h15) (h16) trivial trivial trivial trivial trivial trivial trivial trivial ?_
        have e2 : ∀ x y : Int, flat encP P ++ [.int .i64 x, .int .i64 y] = flat encP (P ++ [(x, y)]) := fun x y => by rw [flat_append]; rfl
        have e3 : ∀ o, P.length + 1 = (P ++ [o]).length := fun o => by simp
        rw [e2, e3]
        exact WC.loop rfl hih
end
end Go.Proofs.YtklanpanmndakaaR
