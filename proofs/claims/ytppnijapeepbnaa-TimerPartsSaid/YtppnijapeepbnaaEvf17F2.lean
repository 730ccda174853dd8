/- slices.DeleteFunc; timer.Drop, timer.Next. -/
import Derived.Test.YtppnijapeepbnaaEvf17F1
open Go Go.Proofs.YtppnijapeepbnaaEv Go.Proofs.YtppnijapeepbnaaR Go.IntWalk Go.Proofs
set_option maxRecDepth 20000
set_option maxHeartbeats 8000000
set_option linter.unusedVariables false
set_option linter.unusedSimpArgs false
namespace Go.Proofs.YtppnijapeepbnaaR
theorem k_clear {cf : CF} {new : Nat} {T : List PV} {H : Heap} {es : Nat} {zero : List PV} {a : X} {id k off len : Nat} {cs cs' : List PV} (ha : valT T a = .own id k off len) (hc : hget H id = some (.row cs)) (hle : off + len * es ≤ cs.length) (hr : setRange cs off ((List.replicate len zero).flatten) = cs') : EK cf (.clear es zero a) new T H .undef [(id, some (.row cs'))] := ⟨by
  simp only [evalK, ha, hc]
  rw [if_pos hle, hr]⟩
theorem ix_first (i : Int) : ∀ (l : List Np) (k : Nat), (ixN i l k = -1 ∧ hasN l i = false) ∨ ∃ p x r, l = p ++ x :: r ∧ hasN p i = false ∧ x.1 = i ∧ ixN i l k = ((k + p.length : Nat) : Int)
  | [], k => .inl ⟨rfl, rfl⟩
  | x :: l, k => by
    by_cases h : i = x.1
    · exact .inr ⟨[], x, l, rfl, rfl, h.symm, if_pos h⟩
    · have e : ixN i (x :: l) k = ixN i l (k + 1) := if_neg h
      have hh : (i == x.1) = false := beq_eq_false_iff_ne.2 h
      rcases ix_first i l (k + 1) with ⟨h1, h2⟩ | ⟨p, y, r, h1, h2, h3, h4⟩
      · refine .inl ⟨e.trans h1, ?_⟩
        show ((i == x.1) || hasN l i) = false
        rw [hh, h2]; rfl
      · refine .inr ⟨x :: p, y, r, by rw [h1]; rfl, ?_, h3, ?_⟩
        · show ((i == x.1) || hasN p i) = false
          rw [hh, h2]; rfl
        · rw [e, h4, List.length_cons]; congr 1; omega
theorem keepN_snoc (d : Int) (o : List Np) (m : Np) : keepN d (o ++ [m]) = keepN d o ++ (if m.1 = d then [] else [m]) := by
  unfold keepN
  rw [List.filter_append]
  by_cases h : m.1 = d
  · have h1 : (m.1 == d) = true := beq_iff_eq.2 h
    simp only [if_pos h, List.filter, h1, Bool.not_true]
  · have h1 : (m.1 == d) = false := beq_eq_false_iff_ne.2 h
    simp only [if_neg h, List.filter, h1, Bool.not_false]
theorem zerosN (n : Nat) : (List.replicate n [PV.int .i64 0, .int .i64 0]).flatten = flat encN (List.replicate n ((0, 0) : Np)) := by
  unfold flat
  rw [List.map_replicate]
  rfl
theorem takeN (l : List Np) (i : Nat) : (flat encN l).take (i * 2) = flat encN (l.take i) := flat_take (enc := encN) (es := 2) (fun _ => rfl) l i
theorem dropN (l : List Np) (i : Nat) : (flat encN l).drop (i * 2) = flat encN (l.drop i) := flat_drop (enc := encN) (es := 2) (fun _ => rfl) l i
theorem prefN (l t : List Np) : (flat encN (l ++ t)).take (l.length * 2) = flat encN l := by rw [takeN, List.take_left]
section
variable {cf : CF} (hcf : cf = ev env)
include hcf
theorem s33 (l : List Np) (i : Int) (hl : l.length ≤ 1000000) : cf 33 [.own 0 2 0 l.length, .fn 36 [] [.ptr 1 0]] [some (.row (flat encN l)), some (.box [.int .i64 i])] = some (.own 0 2 0 (keepN i l).length, [some (.row (flat encN (keepN i l ++ List.replicate (l.length - (keepN i l).length) (0, 0)))), some (.box [.int .i64 i])]) := by
  have h35 := s35 hcf l i hl
  simp only [slN] at h35
  have ow : ((flat encN l).drop 0).take (l.length * 2) = flat encN l := own_flat (enc := encN) (es := 2) (fun _ => rfl) l
  conv at h35 => lhs; rw [← ow]
  refine ev_ofC' hcf env33 ?_
  rcases ix_first i l 0 with ⟨h1, h2⟩ | ⟨p0, x0, r0, hl0, hp0, hx0, h1⟩
  · rw [h1] at h35
    rw [keepN_none h2, Nat.sub_self, List.replicate_zero, List.append_nil]
    conv => arg 2; simp only [ir33]
    conv => arg 3; simp only [ir33, Go.Proofs.YtppnijapeepbnaaEv.start, List.length, Nat.reduceAdd, Nat.reduceSub, List.reduceReplicate, List.append_eq, List.cons_append, List.nil_append]
    conv => arg 4; simp only [heapOf]
    try conv => arg 5; simp only [List.length, Nat.reduceAdd]
    try conv => arg 6; simp only [List.length, Nat.reduceAdd]
    refine EVgo9 (allN) (h35) trivial trivial trivial trivial trivial trivial trivial trivial trivial trivial ?_
    exact WQ.ret rfl
  · rw [h1, Nat.zero_add] at h35
    obtain ⟨n, hn⟩ : ∃ n, l.length = n := ⟨_, rfl⟩
    have hln : p0.length + (r0.length + 1) = n := by rw [← hn, hl0]; simp
    rw [hn] at hl h35 ⊢
    have w0 : IntKind.i64.wrap ((p0.length : Int) + 1) = ((p0.length + 1 : Nat) : Int) := by rw [i64_in _ (by omega)]; simp
    have ne : ((p0.length : Int) == -1) = false := beq_eq_false_iff_ne.2 (by omega)
    have hal : List.take (n * 2) (flat encN l) = flat encN l := by rw [← hn]; exact allN l
    have k0 : keepN i (p0 ++ [x0]) = p0 := by rw [keepN_snoc, if_pos hx0, List.append_nil, keepN_none hp0]
    conv => arg 2; simp only [ir33]
    conv => arg 3; simp only [ir33, Go.Proofs.YtppnijapeepbnaaEv.start, List.length, Nat.reduceAdd, Nat.reduceSub, List.reduceReplicate, List.append_eq, List.cons_append, List.nil_append]
    conv => arg 4; simp only [heapOf]
    try conv => arg 5; simp only [List.length, Nat.reduceAdd]
    try conv => arg 6; simp only [List.length, Nat.reduceAdd]
    refine EVgo9 (And.intro (ne) ( And.intro (w0) (hal))) (h35) trivial trivial trivial trivial trivial trivial trivial trivial trivial trivial ?_
    refine WC.loop (T' := _) (H' := _) (n' := _) rfl ((?_ : ∀ (r p s : List Np) (y0 : Np) (j w : Nat) (row : List Np), p ++ r = l → j = p.length → w = (keepN i p).length → p.length = w + (s.length + 1) → row = keepN i p ++ y0 :: (s ++ r) →
      WC cf _ (mkT 42 [(0, .own 0 2 0 n), (1, .fn 36 [] [.ptr 1 0]), (5, .int .i64 (w : Nat)), (6, .int .i64 (j : Nat))]) [(0, .row (flat encN row)), (1, .box [.int .i64 i])] 2 2 _) r0 (p0 ++ [x0]) [] x0 (p0.length + 1) p0.length l (by rw [hl0]; simp) (by simp) (by rw [k0]) (by simp) (by rw [k0, hl0]; rfl))
    intro r
    induction r with
    | nil =>
      intro p s y0 j w row hp hj hw hpl hrow
      rw [List.append_nil] at hp
      subst hp
      have hjn : j = n := by rw [hj, hn]
      rw [hjn]
      have hz : setRange (flat encN row) (w * 2) ((List.replicate (n - w) [PV.int .i64 0, .int .i64 0]).flatten) = flat encN (keepN i p ++ List.replicate (n - (keepN i p).length) (0, 0)) := by
        unfold setRange
        rw [hrow, hw, prefN, zerosN, lenN, List.length_replicate, List.drop_eq_nil_of_le (by rw [lenN]; simp; omega), List.append_nil, ← appN]
      conv => arg 3; simp only [mkT, putT, List.reduceReplicate, List.set]
      refine EVgl9 trivial trivial trivial trivial trivial trivial trivial trivial trivial trivial trivial trivial ?_
      first | refine WO.step (k_clear rfl rfl (by rw [lenN, hrow]; simp; omega) hz) ?_ | refine WOc.step (k_clear rfl rfl (by rw [lenN, hrow]; simp; omega) hz) ?_
      conv => arg 2; simp only [setOpt, List.set, Nat.reduceLT, Int.reduceToNat, List.drop_drop, valT, List.getD_cons_zero, List.getD_cons_succ, Int.reduceLT, Int.reduceLE, Int.reduceAdd, Int.reduceSub, Int.reduceMul, Int.reduceNeg, Int.reduceEq, Int.reduceNe, Int.cast_ofNat_Int, Int.natCast_zero, Int.natCast_one, ge_iff_le, gt_iff_lt, decide_true, decide_false, Bool.not_true, Bool.not_false, Int.toNat_natCast, Nat.sub_zero, Nat.mul_one, Option.isSome_some, Option.isSome_none, Bool.false_eq_true, Bool.and_true, Bool.true_and, Bool.and_false, Bool.false_and, Nat.zero_add, Nat.zero_mul, List.drop_zero, reduceIte, setRange, PV.cells, fillB, List.take, List.drop, List.append_eq, List.cons_append, List.nil_append, List.length, List.map, List.zip, List.zipWith, List.replicate, List.flatten, Nat.reduceAdd, Nat.reduceMul, Nat.reduceSub, PV.mapId, mapIds, Option.map, Blk.mapId, sigN, sigS, Int.lt_irrefl]
      try conv => arg 3; simp only [Nat.reduceLT, List.reduceReplicate, List.flatten_cons, List.flatten_nil, List.append_nil, Nat.reduceMul, Nat.mul_one, Nat.one_mul, Nat.zero_mul, Nat.zero_add, List.drop_zero, List.drop_succ_cons, List.drop_nil, List.take_succ_cons, List.take_zero, List.take_nil, List.drop_drop, setRange, PV.cells, valT, List.getD_cons_zero, List.getD_cons_succ, List.take, List.length, Nat.reduceAdd, List.nil_append, applyU, hset, hdel, Nat.reduceEqDiff, reduceIte, List.append_eq, List.cons_append, List.nil_append, frz, rowsOf, updsNew, updsAt, sigN, sigS, PV.mapId, mapIds, Option.map, Blk.mapId, List.drop, heapOf, Int.lt_irrefl]
      conv => arg 5; simp only [stride, Nat.reduceAdd]
      refine EVgo9 trivial trivial trivial trivial trivial trivial trivial trivial trivial trivial trivial trivial ?_
      rw [← hw]
      exact WQ.ret rfl
    | cons x r ih =>
      intro p s y0 j w row hp hj hw hpl hrow
      obtain ⟨x1, x2⟩ := x
      have hlen : n = p.length + (r.length + 1) := by rw [← hn, ← hp]; simp
      have hlt : ((j : Nat) : Int) < (n : Int) := by omega
      have hwl : ((w : Nat) : Int) < (n : Int) := by omega
      have hw1 : IntKind.i64.wrap ((j : Int) + 1) = ((j + 1 : Nat) : Int) := by rw [i64_in _ (by omega)]; simp
      have hw2 : IntKind.i64.wrap ((w : Int) + 1) = ((w + 1 : Nat) : Int) := by rw [i64_in _ (by omega)]; simp
      have hrow2 : row = (keepN i p ++ y0 :: s) ++ (x1, x2) :: r := by rw [hrow]; simp
      have e1 : ((flat encN row).drop (j * 2)).take 2 = [.int .i64 x1, .int .i64 x2] := by rw [hrow2]; exact ld_N (by simp; omega)
      have h36 := s36 hcf (x1, x2) i
      have h36c := s36c hcf (x1, x2) i
      simp only [encN] at h36 h36c
      by_cases hd : x1 = i
      · have hb : (i == x1) = true := beq_iff_eq.2 hd.symm
        rw [hb] at h36 h36c
        have ks : keepN i (p ++ [(x1, x2)]) = keepN i p := by rw [keepN_snoc, if_pos hd, List.append_nil]
        have hih := ih (p ++ [(x1, x2)]) (s ++ [(x1, x2)]) y0 (j + 1) w row (by rw [List.append_assoc]; exact hp) (by rw [snoc_len]; omega) (by rw [ks]; exact hw) (by rw [snoc_len, snoc_len]; omega) (by rw [ks, hrow]; simp)
        conv => arg 3; simp only [mkT, putT, List.reduceReplicate, List.set]
        refine EVgo9 (hlt) trivial trivial trivial trivial trivial trivial trivial trivial trivial trivial trivial ?_
        first | refine WO.step (k_loadn rfl rfl e1 rfl) ?_ | refine WOc.step (k_loadn rfl rfl e1 rfl) ?_
        conv => arg 2; simp only [setOpt, List.set, Nat.reduceLT, Int.reduceToNat, List.drop_drop, valT, List.getD_cons_zero, List.getD_cons_succ, Int.reduceLT, Int.reduceLE, Int.reduceAdd, Int.reduceSub, Int.reduceMul, Int.reduceNeg, Int.reduceEq, Int.reduceNe, Int.cast_ofNat_Int, Int.natCast_zero, Int.natCast_one, ge_iff_le, gt_iff_lt, decide_true, decide_false, Bool.not_true, Bool.not_false, Int.toNat_natCast, Nat.sub_zero, Nat.mul_one, Option.isSome_some, Option.isSome_none, Bool.false_eq_true, Bool.and_true, Bool.true_and, Bool.and_false, Bool.false_and, Nat.zero_add, Nat.zero_mul, List.drop_zero, reduceIte, setRange, PV.cells, fillB, List.take, List.drop, List.append_eq, List.cons_append, List.nil_append, List.length, List.map, List.zip, List.zipWith, List.replicate, List.flatten, Nat.reduceAdd, Nat.reduceMul, Nat.reduceSub, PV.mapId, mapIds, Option.map, Blk.mapId, sigN, sigS, hlt]
        try conv => arg 3; simp only [Nat.reduceLT, List.reduceReplicate, List.flatten_cons, List.flatten_nil, List.append_nil, Nat.reduceMul, Nat.mul_one, Nat.one_mul, Nat.zero_mul, Nat.zero_add, List.drop_zero, List.drop_succ_cons, List.drop_nil, List.take_succ_cons, List.take_zero, List.take_nil, List.drop_drop, setRange, PV.cells, valT, List.getD_cons_zero, List.getD_cons_succ, List.take, List.length, Nat.reduceAdd, List.nil_append, applyU, hset, hdel, Nat.reduceEqDiff, reduceIte, List.append_eq, List.cons_append, List.nil_append, frz, rowsOf, updsNew, updsAt, sigN, sigS, PV.mapId, mapIds, Option.map, Blk.mapId, List.drop, heapOf, hlt]
        conv => arg 5; simp only [stride, Nat.reduceAdd]
        refine EVgo9 (hw1) (h36) (h36c) trivial trivial trivial trivial trivial trivial trivial trivial trivial ?_
        exact WC.loop rfl hih
      · have hb : (i == x1) = false := beq_eq_false_iff_ne.2 fun e => hd e.symm
        rw [hb] at h36 h36c
        have ks : keepN i (p ++ [(x1, x2)]) = keepN i p ++ [(x1, x2)] := by rw [keepN_snoc, if_neg hd]
        obtain ⟨row1, hr1⟩ : ∃ row1, row1 = keepN i p ++ (x1, x2) :: (s ++ (x1, x2) :: r) := ⟨_, rfl⟩
        have hst : (flat encN row).take (w * 2) ++ [PV.int .i64 x1, .int .i64 x2] ++ (flat encN row).drop (w * 2 + 2) = flat encN row1 := by
          rw [hrow, hr1]; exact st_N hw.symm
        have hrl : (flat encN row).length = n * 2 := by rw [lenN, hrow]; simp; omega
        have hih : ∃ y1 s1, s ++ [(x1, x2)] = y1 :: s1 := by cases s with | nil => exact ⟨_, _, rfl⟩ | cons a b => exact ⟨_, _, rfl⟩
        obtain ⟨y1, s1, hs1⟩ := hih
        have hs1l : s1.length = s.length := by have := congrArg List.length hs1; rw [snoc_len, List.length_cons] at this; omega
        have hih := ih (p ++ [(x1, x2)]) s1 y1 (j + 1) (w + 1) row1 (by rw [List.append_assoc]; exact hp) (by rw [snoc_len]; omega) (by rw [ks, snoc_len]; omega) (by rw [snoc_len]; omega) (by
          rw [ks, hr1, show y1 :: (s1 ++ r) = (y1 :: s1) ++ r from rfl, ← hs1]
          simp)
        conv => arg 3; simp only [mkT, putT, List.reduceReplicate, List.set]
        refine EVgo9 (hlt) trivial trivial trivial trivial trivial trivial trivial trivial trivial trivial trivial ?_
        first | refine WO.step (k_loadn rfl rfl e1 rfl) ?_ | refine WOc.step (k_loadn rfl rfl e1 rfl) ?_
        conv => arg 2; simp only [setOpt, List.set, Nat.reduceLT, Int.reduceToNat, List.drop_drop, valT, List.getD_cons_zero, List.getD_cons_succ, Int.reduceLT, Int.reduceLE, Int.reduceAdd, Int.reduceSub, Int.reduceMul, Int.reduceNeg, Int.reduceEq, Int.reduceNe, Int.cast_ofNat_Int, Int.natCast_zero, Int.natCast_one, ge_iff_le, gt_iff_lt, decide_true, decide_false, Bool.not_true, Bool.not_false, Int.toNat_natCast, Nat.sub_zero, Nat.mul_one, Option.isSome_some, Option.isSome_none, Bool.false_eq_true, Bool.and_true, Bool.true_and, Bool.and_false, Bool.false_and, Nat.zero_add, Nat.zero_mul, List.drop_zero, reduceIte, setRange, PV.cells, fillB, List.take, List.drop, List.append_eq, List.cons_append, List.nil_append, List.length, List.map, List.zip, List.zipWith, List.replicate, List.flatten, Nat.reduceAdd, Nat.reduceMul, Nat.reduceSub, PV.mapId, mapIds, Option.map, Blk.mapId, sigN, sigS, hlt]
        try conv => arg 3; simp only [Nat.reduceLT, List.reduceReplicate, List.flatten_cons, List.flatten_nil, List.append_nil, Nat.reduceMul, Nat.mul_one, Nat.one_mul, Nat.zero_mul, Nat.zero_add, List.drop_zero, List.drop_succ_cons, List.drop_nil, List.take_succ_cons, List.take_zero, List.take_nil, List.drop_drop, setRange, PV.cells, valT, List.getD_cons_zero, List.getD_cons_succ, List.take, List.length, Nat.reduceAdd, List.nil_append, applyU, hset, hdel, Nat.reduceEqDiff, reduceIte, List.append_eq, List.cons_append, List.nil_append, frz, rowsOf, updsNew, updsAt, sigN, sigS, PV.mapId, mapIds, Option.map, Blk.mapId, List.drop, heapOf, hlt]
        conv => arg 5; simp only [stride, Nat.reduceAdd]
        refine EVgo9 (And.intro (hw1) (hwl)) (h36) (h36c) trivial trivial trivial trivial trivial trivial trivial trivial trivial ?_
        first | refine WO.step (k_store_row rfl rfl rfl rfl (by rw [hrl]; omega) rfl) ?_ | refine WOc.step (k_store_row rfl rfl rfl rfl (by rw [hrl]; omega) rfl) ?_
        conv => arg 2; simp only [setOpt, List.set, Nat.reduceLT, Int.reduceToNat, List.drop_drop, valT, List.getD_cons_zero, List.getD_cons_succ, Int.reduceLT, Int.reduceLE, Int.reduceAdd, Int.reduceSub, Int.reduceMul, Int.reduceNeg, Int.reduceEq, Int.reduceNe, Int.cast_ofNat_Int, Int.natCast_zero, Int.natCast_one, ge_iff_le, gt_iff_lt, decide_true, decide_false, Bool.not_true, Bool.not_false, Int.toNat_natCast, Nat.sub_zero, Nat.mul_one, Option.isSome_some, Option.isSome_none, Bool.false_eq_true, Bool.and_true, Bool.true_and, Bool.and_false, Bool.false_and, Nat.zero_add, Nat.zero_mul, List.drop_zero, reduceIte, setRange, PV.cells, fillB, List.take, List.drop, List.append_eq, List.cons_append, List.nil_append, List.length, List.map, List.zip, List.zipWith, List.replicate, List.flatten, Nat.reduceAdd, Nat.reduceMul, Nat.reduceSub, PV.mapId, mapIds, Option.map, Blk.mapId, sigN, sigS, hst]
        try conv => arg 3; simp only [Nat.reduceLT, List.reduceReplicate, List.flatten_cons, List.flatten_nil, List.append_nil, Nat.reduceMul, Nat.mul_one, Nat.one_mul, Nat.zero_mul, Nat.zero_add, List.drop_zero, List.drop_succ_cons, List.drop_nil, List.take_succ_cons, List.take_zero, List.take_nil, List.drop_drop, setRange, PV.cells, valT, List.getD_cons_zero, List.getD_cons_succ, List.take, List.length, Nat.reduceAdd, List.nil_append, applyU, hset, hdel, Nat.reduceEqDiff, reduceIte, List.append_eq, List.cons_append, List.nil_append, frz, rowsOf, updsNew, updsAt, sigN, sigS, PV.mapId, mapIds, Option.map, Blk.mapId, List.drop, heapOf, hst]
        conv => arg 5; simp only [stride, Nat.reduceAdd]
        refine EVgo9 (And.intro (hw1) (hw2)) trivial trivial trivial trivial trivial trivial trivial trivial trivial trivial trivial ?_
        exact WC.loop rfl hih
end
end Go.Proofs.YtppnijapeepbnaaR
