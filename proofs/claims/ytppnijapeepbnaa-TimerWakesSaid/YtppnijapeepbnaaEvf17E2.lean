/- slices.SortStableFunc of few: insertion. -/
import Derived.Test.YtppnijapeepbnaaEvf17E1
open Go Go.Proofs.YtppnijapeepbnaaEv Go.Proofs.YtppnijapeepbnaaR Go.IntWalk Go.Proofs
set_option maxRecDepth 20000
set_option maxHeartbeats 8000000
set_option linter.unusedVariables false
set_option linter.unusedSimpArgs false
namespace Go.Proofs.YtppnijapeepbnaaR
/-- x goes down the (turned) row before it -/
def insR (x : Np) : List Np → List Np → List Np
  | [], s => x :: s
  | y :: q, s => if x.2 < y.2 then insR x q (y :: s) else q.reverse ++ y :: x :: s
theorem insR_app (x : Np) : ∀ (q s t : List Np), insR x q (s ++ t) = insR x q s ++ t
  | [], s, t => rfl
  | y :: q, s, t => by
    unfold insR
    split
    · exact insR_app x q (y :: s) t
    · simp
theorem insR_len (x : Np) : ∀ (q s : List Np), (insR x q s).length = q.length + s.length + 1
  | [], s => by simp [insR]
  | y :: q, s => by
    unfold insR
    split
    · rw [insR_len x q (y :: s)]; simp; omega
    · simp; omega
def sortR : List Np → List Np → List Np
  | p, [] => p
  | p, x :: r => sortR (insR x p.reverse []) r
theorem sortR_len : ∀ (p r : List Np), (sortR p r).length = p.length + r.length
  | p, [] => rfl
  | p, x :: r => by
    rw [sortR, sortR_len, insR_len]
    simp; omega
theorem appN (a b : List Np) : flat encN (a ++ b) = flat encN a ++ flat encN b := flat_append a b
theorem st_N {p s : List Np} {y : Np} {v1 v2 : Int} {k : Nat} (hk : p.length = k) : List.take (k * 2) (flat encN (p ++ y :: s)) ++ [PV.int .i64 v1, .int .i64 v2] ++ List.drop (k * 2 + 2) (flat encN (p ++ y :: s)) = flat encN (p ++ (v1, v2) :: s) := by
  subst hk
  have e1 : flat encN (p ++ y :: s) = flat encN p ++ (.int .i64 y.1 :: .int .i64 y.2 :: flat encN s) := appN p (y :: s)
  have e2 : flat encN (p ++ (v1, v2) :: s) = flat encN p ++ (.int .i64 v1 :: .int .i64 v2 :: flat encN s) := appN p ((v1, v2) :: s)
  rw [e1, e2, List.take_left' (lenN p), List.drop_append, List.drop_eq_nil_of_le (by rw [lenN]; omega), lenN, show p.length * 2 + 2 - p.length * 2 = 2 by omega]
  simp
theorem ld_N {p s : List Np} {y : Np} {k : Nat} (hk : p.length = k) : List.take 2 (List.drop (k * 2) (flat encN (p ++ y :: s))) = [PV.int .i64 y.1, .int .i64 y.2] := by
  subst hk
  have e1 : flat encN (p ++ y :: s) = flat encN p ++ (.int .i64 y.1 :: .int .i64 y.2 :: flat encN s) := appN p (y :: s)
  rw [e1, List.drop_left' (lenN p)]
  rfl
section
variable {cf : CF} (hcf : cf = ev env)
include hcf
theorem s40 (l : List Np) (hl : l.length ≤ 1000) : cf 40 [.own 0 2 0 l.length, .int .i64 0, .int .i64 (l.length : Nat), .fn 28 [] []] [some (.row (flat encN l))] = some (.tup [], [some (.row (flat encN (sortR [] l)))]) := by
  refine ev_ofC' hcf env40 ?_
  cases l with
  | nil =>
    conv => arg 2; simp only [ir40]
    conv => arg 3; simp only [ir40, Go.Proofs.YtppnijapeepbnaaEv.start, List.length, Nat.reduceAdd, Nat.reduceSub, List.reduceReplicate, List.append_eq, List.cons_append, List.nil_append]
    conv => arg 4; simp only [heapOf]
    try conv => arg 5; simp only [List.length, Nat.reduceAdd]
    try conv => arg 6; simp only [List.length, Nat.reduceAdd]
    refine EVgo9 trivial trivial trivial trivial trivial trivial trivial trivial trivial trivial trivial trivial ?_
    refine WC.loop rfl ?_
    conv => arg 3; simp only [mkT, putT, List.reduceReplicate, List.set]
    refine EVgo9 trivial trivial trivial trivial trivial trivial trivial trivial trivial trivial trivial trivial ?_
    exact WQ.fin rfl
  | cons x l =>
    obtain ⟨n, hn⟩ : ∃ n, (x :: l).length = n := ⟨_, rfl⟩
    have hn' : l.length + 1 = n := hn
    rw [hn] at hl ⊢
    conv => arg 2; simp only [ir40]
    conv => arg 3; simp only [ir40, Go.Proofs.YtppnijapeepbnaaEv.start, List.length, Nat.reduceAdd, Nat.reduceSub, List.reduceReplicate, List.append_eq, List.cons_append, List.nil_append]
    conv => arg 4; simp only [heapOf]
    try conv => arg 5; simp only [List.length, Nat.reduceAdd]
    try conv => arg 6; simp only [List.length, Nat.reduceAdd]
    refine EVgo9 trivial trivial trivial trivial trivial trivial trivial trivial trivial trivial trivial trivial ?_
    refine WC.loop (T' := _) (H' := _) (n' := _) rfl ((?_ : ∀ (r p : List Np), p.length + r.length = n → sortR [] (x :: l) = sortR p r →
      WC cf _ (mkT 53 [(0, .own 0 2 0 n), (1, .int .i64 0), (2, .int .i64 (n : Nat)), (3, .fn 28 [] []), (8, .int .i64 (p.length : Nat))]) [(0, .row (flat encN (p ++ r)))] 1 1 _) l [x] (by simp; omega) rfl)
    intro r
    induction r with
    | nil =>
      intro p hp hok
      rw [hok]
      have hp' : p.length = n := hp
      rw [hp', List.append_nil]
      conv => arg 3; simp only [mkT, putT, List.reduceReplicate, List.set]
      refine EVgl9 trivial trivial trivial trivial trivial trivial trivial trivial trivial trivial trivial trivial ?_
      exact WQ.fin rfl
    | cons z r ih =>
      intro p hp hok
      obtain ⟨z1, z2⟩ := z
      have hp' : p.length + r.length + 1 = n := by rw [List.length_cons] at hp; omega
      have hlt : ((p.length : Nat) : Int) < (n : Int) := by omega
      have hw : IntKind.i64.wrap ((p.length : Int) + 1) = ((p.length + 1 : Nat) : Int) := by rw [i64_in _ (by omega)]; simp
      have hil : (insR (z1, z2) p.reverse []).length = p.length + 1 := by rw [insR_len]; simp
      have hih := ih (insR (z1, z2) p.reverse []) (by rw [hil]; omega) hok
      rw [hil] at hih
      conv => arg 3; simp only [mkT, putT, List.reduceReplicate, List.set]
      refine EVgo9 (hlt) trivial trivial trivial trivial trivial trivial trivial trivial trivial trivial trivial ?_
      refine WC.loop (T' := _) (H' := _) (n' := _) rfl ((?_ : ∀ (q s : List Np) (j : Nat) (row : List Np), j = q.length → row = q.reverse ++ (z1, z2) :: s → q.length + s.length + 1 = n → insR (z1, z2) q s = insR (z1, z2) p.reverse [] ++ r →
        WC cf _ (mkT 53 [(0, .own 0 2 0 n), (1, .int .i64 0), (2, .int .i64 (n : Nat)), (3, .fn 28 [] []), (8, .int .i64 (p.length : Nat)), (9, .int .i64 (j : Nat))]) [(0, .row (flat encN row))] 1 1 _) p.reverse r p.length (p ++ (z1, z2) :: r) (by simp) (by simp) (by simp; omega) (insR_app _ _ [] r))
      intro q
      induction q with
      | nil =>
        intro s j row hj hr hq hi
        have hj0 : j = 0 := hj
        subst hj0
        have hr' : row = insR (z1, z2) p.reverse [] ++ r := by rw [hr, ← hi]; rfl
        rw [hr']
        conv => arg 3; simp only [mkT, putT, List.reduceReplicate, List.set]
        refine EVgo9 (hw) trivial trivial trivial trivial trivial trivial trivial trivial trivial trivial trivial ?_
        exact WC.loop rfl hih
      | cons y q ihq =>
        intro s j row hj hr hq hi
        obtain ⟨y1, y2⟩ := y
        obtain ⟨k, hk⟩ : ∃ k, q.length = k := ⟨_, rfl⟩
        have hjk : j = k + 1 := by rw [hj, List.length_cons, hk]
        subst hjk
        have hrow : row = q.reverse ++ (y1, y2) :: (z1, z2) :: s := by rw [hr]; simp
        have hrow2 : row = (q.reverse ++ [(y1, y2)]) ++ (z1, z2) :: s := by rw [hr]; simp
        have hqr : q.reverse.length = k := by simp [hk]
        have hqr2 : (q.reverse ++ [(y1, y2)]).length = k + 1 := by simp [hk]
        have hkn : k + 1 < n := by rw [List.length_cons, hk] at hq; omega
        have hgt : (((k + 1 : Nat) : Int) > 0) := by omega
        have w1 : IntKind.i64.wrap (((k + 1 : Nat) : Int) - 1) = ((k : Nat) : Int) := by rw [i64_in _ (by omega)]; omega
        have hlt1 : (((k + 1 : Nat) : Int) < (n : Int)) := by omega
        have hlt0 : ((k : Int) < (n : Int)) := by omega
        have e1 : List.take 2 (List.drop ((k + 1) * 2) (flat encN row)) = [PV.int .i64 z1, .int .i64 z2] := by rw [hrow2]; exact ld_N hqr2
        have e0 : List.take 2 (List.drop (k * 2) (flat encN row)) = [PV.int .i64 y1, .int .i64 y2] := by rw [hrow]; exact ld_N hqr
        have hlen : (flat encN row).length = n * 2 := by rw [lenN, hr]; simp; rw [List.length_cons] at hq; omega
        have h28 := (s28 hcf env_but (z1, z2) (y1, y2)).ok [.agg (encN (z1, z2)), .agg (encN (y1, y2))] rfl rfl
        simp only [encN] at h28
        by_cases hxy : z2 < y2
        · have hc : cmpI z2 y2 = -1 := if_pos hxy
          rw [hc] at h28
          have hi' : insR (z1, z2) q ((y1, y2) :: s) = insR (z1, z2) p.reverse [] ++ r := by rw [← hi]; show _ = if z2 < y2 then _ else _; rw [if_pos hxy]
          obtain ⟨row1, hr1⟩ : ∃ row1, row1 = q.reverse ++ (y1, y2) :: (y1, y2) :: s := ⟨_, rfl⟩
          obtain ⟨row2, hr2⟩ : ∃ row2, row2 = q.reverse ++ (z1, z2) :: (y1, y2) :: s := ⟨_, rfl⟩
          have t1 : List.take ((k + 1) * 2) (flat encN row) ++ [PV.int .i64 y1, .int .i64 y2] ++ List.drop ((k + 1) * 2 + 2) (flat encN row) = flat encN row1 := by
            rw [hrow2, hr1, st_N hqr2, List.append_assoc]; rfl
          have t2 : List.take (k * 2) (flat encN row1) ++ [PV.int .i64 z1, .int .i64 z2] ++ List.drop (k * 2 + 2) (flat encN row1) = flat encN row2 := by
            rw [hr1, hr2, st_N hqr]
          have hlen1 : (flat encN row1).length = n * 2 := by rw [lenN, hr1]; simp; rw [List.length_cons] at hq; omega
          have hih2 := ihq ((y1, y2) :: s) k row2 hk.symm hr2 (by rw [List.length_cons] at hq ⊢; omega) hi'
          conv => arg 3; simp only [mkT, putT, List.reduceReplicate, List.set]
          refine EVgo9 (And.intro (hgt) (hlt1)) trivial trivial trivial trivial trivial trivial trivial trivial trivial trivial trivial ?_
          first | refine WO.step ((k_loadn rfl rfl e1 rfl)) ?_ | refine WOc.step ((k_loadn rfl rfl e1 rfl)) ?_
          conv => arg 2; simp only [setOpt, List.set, Nat.reduceLT, Int.reduceToNat, List.drop_drop, valT, List.getD_cons_zero, List.getD_cons_succ, Int.reduceLT, Int.reduceLE, Int.reduceAdd, Int.reduceSub, Int.reduceMul, Int.reduceNeg, Int.reduceEq, Int.reduceNe, Int.cast_ofNat_Int, Int.natCast_zero, Int.natCast_one, ge_iff_le, gt_iff_lt, decide_true, decide_false, Bool.not_true, Bool.not_false, Int.toNat_natCast, Nat.sub_zero, Nat.mul_one, Option.isSome_some, Option.isSome_none, Bool.false_eq_true, Bool.and_true, Bool.true_and, Bool.and_false, Bool.false_and, Nat.zero_add, Nat.zero_mul, List.drop_zero, reduceIte, setRange, PV.cells, fillB, List.take, List.drop, List.append_eq, List.cons_append, List.nil_append, List.length, List.map, List.zip, List.zipWith, List.replicate, List.flatten, Nat.reduceAdd, Nat.reduceMul, Nat.reduceSub, PV.mapId, mapIds, Option.map, Blk.mapId, sigN, sigS]
          try conv => arg 3; simp only [Nat.reduceLT, List.reduceReplicate, List.flatten_cons, List.flatten_nil, List.append_nil, Nat.reduceMul, Nat.mul_one, Nat.one_mul, Nat.zero_mul, Nat.zero_add, List.drop_zero, List.drop_succ_cons, List.drop_nil, List.take_succ_cons, List.take_zero, List.take_nil, List.drop_drop, setRange, PV.cells, valT, List.getD_cons_zero, List.getD_cons_succ, List.take, List.length, Nat.reduceAdd, List.nil_append, applyU, hset, hdel, Nat.reduceEqDiff, reduceIte, List.append_eq, List.cons_append, List.nil_append, frz, rowsOf, updsNew, updsAt, sigN, sigS, PV.mapId, mapIds, Option.map, Blk.mapId, List.drop, heapOf]
          conv => arg 5; simp only [stride, Nat.reduceAdd]
          refine EVgo9 (And.intro (w1) (hlt0)) trivial trivial trivial trivial trivial trivial trivial trivial trivial trivial trivial ?_
          first | refine WO.step ((k_loadn rfl rfl e0 rfl)) ?_ | refine WOc.step ((k_loadn rfl rfl e0 rfl)) ?_
          conv => arg 2; simp only [setOpt, List.set, Nat.reduceLT, Int.reduceToNat, List.drop_drop, valT, List.getD_cons_zero, List.getD_cons_succ, Int.reduceLT, Int.reduceLE, Int.reduceAdd, Int.reduceSub, Int.reduceMul, Int.reduceNeg, Int.reduceEq, Int.reduceNe, Int.cast_ofNat_Int, Int.natCast_zero, Int.natCast_one, ge_iff_le, gt_iff_lt, decide_true, decide_false, Bool.not_true, Bool.not_false, Int.toNat_natCast, Nat.sub_zero, Nat.mul_one, Option.isSome_some, Option.isSome_none, Bool.false_eq_true, Bool.and_true, Bool.true_and, Bool.and_false, Bool.false_and, Nat.zero_add, Nat.zero_mul, List.drop_zero, reduceIte, setRange, PV.cells, fillB, List.take, List.drop, List.append_eq, List.cons_append, List.nil_append, List.length, List.map, List.zip, List.zipWith, List.replicate, List.flatten, Nat.reduceAdd, Nat.reduceMul, Nat.reduceSub, PV.mapId, mapIds, Option.map, Blk.mapId, sigN, sigS]
          try conv => arg 3; simp only [Nat.reduceLT, List.reduceReplicate, List.flatten_cons, List.flatten_nil, List.append_nil, Nat.reduceMul, Nat.mul_one, Nat.one_mul, Nat.zero_mul, Nat.zero_add, List.drop_zero, List.drop_succ_cons, List.drop_nil, List.take_succ_cons, List.take_zero, List.take_nil, List.drop_drop, setRange, PV.cells, valT, List.getD_cons_zero, List.getD_cons_succ, List.take, List.length, Nat.reduceAdd, List.nil_append, applyU, hset, hdel, Nat.reduceEqDiff, reduceIte, List.append_eq, List.cons_append, List.nil_append, frz, rowsOf, updsNew, updsAt, sigN, sigS, PV.mapId, mapIds, Option.map, Blk.mapId, List.drop, heapOf]
          conv => arg 5; simp only [stride, Nat.reduceAdd]
          refine EVgo9 (And.intro (w1) ( And.intro (hlt0) (hlt1))) (h28) trivial trivial trivial trivial trivial trivial trivial trivial trivial trivial ?_
          first | refine WO.step ((k_loadn rfl rfl e0 rfl)) ?_ | refine WOc.step ((k_loadn rfl rfl e0 rfl)) ?_
          conv => arg 2; simp only [setOpt, List.set, Nat.reduceLT, Int.reduceToNat, List.drop_drop, valT, List.getD_cons_zero, List.getD_cons_succ, Int.reduceLT, Int.reduceLE, Int.reduceAdd, Int.reduceSub, Int.reduceMul, Int.reduceNeg, Int.reduceEq, Int.reduceNe, Int.cast_ofNat_Int, Int.natCast_zero, Int.natCast_one, ge_iff_le, gt_iff_lt, decide_true, decide_false, Bool.not_true, Bool.not_false, Int.toNat_natCast, Nat.sub_zero, Nat.mul_one, Option.isSome_some, Option.isSome_none, Bool.false_eq_true, Bool.and_true, Bool.true_and, Bool.and_false, Bool.false_and, Nat.zero_add, Nat.zero_mul, List.drop_zero, reduceIte, setRange, PV.cells, fillB, List.take, List.drop, List.append_eq, List.cons_append, List.nil_append, List.length, List.map, List.zip, List.zipWith, List.replicate, List.flatten, Nat.reduceAdd, Nat.reduceMul, Nat.reduceSub, PV.mapId, mapIds, Option.map, Blk.mapId, sigN, sigS]
          try conv => arg 3; simp only [Nat.reduceLT, List.reduceReplicate, List.flatten_cons, List.flatten_nil, List.append_nil, Nat.reduceMul, Nat.mul_one, Nat.one_mul, Nat.zero_mul, Nat.zero_add, List.drop_zero, List.drop_succ_cons, List.drop_nil, List.take_succ_cons, List.take_zero, List.take_nil, List.drop_drop, setRange, PV.cells, valT, List.getD_cons_zero, List.getD_cons_succ, List.take, List.length, Nat.reduceAdd, List.nil_append, applyU, hset, hdel, Nat.reduceEqDiff, reduceIte, List.append_eq, List.cons_append, List.nil_append, frz, rowsOf, updsNew, updsAt, sigN, sigS, PV.mapId, mapIds, Option.map, Blk.mapId, List.drop, heapOf]
          conv => arg 5; simp only [stride, Nat.reduceAdd]
          refine EVgo9 (And.intro (w1) ( And.intro (hlt0) (hlt1))) trivial trivial trivial trivial trivial trivial trivial trivial trivial trivial trivial ?_
          first | refine WO.step ((k_loadn rfl rfl e1 rfl)) ?_ | refine WOc.step ((k_loadn rfl rfl e1 rfl)) ?_
          conv => arg 2; simp only [setOpt, List.set, Nat.reduceLT, Int.reduceToNat, List.drop_drop, valT, List.getD_cons_zero, List.getD_cons_succ, Int.reduceLT, Int.reduceLE, Int.reduceAdd, Int.reduceSub, Int.reduceMul, Int.reduceNeg, Int.reduceEq, Int.reduceNe, Int.cast_ofNat_Int, Int.natCast_zero, Int.natCast_one, ge_iff_le, gt_iff_lt, decide_true, decide_false, Bool.not_true, Bool.not_false, Int.toNat_natCast, Nat.sub_zero, Nat.mul_one, Option.isSome_some, Option.isSome_none, Bool.false_eq_true, Bool.and_true, Bool.true_and, Bool.and_false, Bool.false_and, Nat.zero_add, Nat.zero_mul, List.drop_zero, reduceIte, setRange, PV.cells, fillB, List.take, List.drop, List.append_eq, List.cons_append, List.nil_append, List.length, List.map, List.zip, List.zipWith, List.replicate, List.flatten, Nat.reduceAdd, Nat.reduceMul, Nat.reduceSub, PV.mapId, mapIds, Option.map, Blk.mapId, sigN, sigS]
          try conv => arg 3; simp only [Nat.reduceLT, List.reduceReplicate, List.flatten_cons, List.flatten_nil, List.append_nil, Nat.reduceMul, Nat.mul_one, Nat.one_mul, Nat.zero_mul, Nat.zero_add, List.drop_zero, List.drop_succ_cons, List.drop_nil, List.take_succ_cons, List.take_zero, List.take_nil, List.drop_drop, setRange, PV.cells, valT, List.getD_cons_zero, List.getD_cons_succ, List.take, List.length, Nat.reduceAdd, List.nil_append, applyU, hset, hdel, Nat.reduceEqDiff, reduceIte, List.append_eq, List.cons_append, List.nil_append, frz, rowsOf, updsNew, updsAt, sigN, sigS, PV.mapId, mapIds, Option.map, Blk.mapId, List.drop, heapOf]
          conv => arg 5; simp only [stride, Nat.reduceAdd]
          refine EVgo9 (And.intro (w1) ( And.intro (hlt0) (hlt1))) trivial trivial trivial trivial trivial trivial trivial trivial trivial trivial trivial ?_
          first | refine WO.step (k_store_row rfl rfl rfl rfl (by rw [hlen]; omega) rfl) ?_ | refine WOc.step (k_store_row rfl rfl rfl rfl (by rw [hlen]; omega) rfl) ?_
          conv => arg 2; simp only [setOpt, List.set, Nat.reduceLT, Int.reduceToNat, List.drop_drop, valT, List.getD_cons_zero, List.getD_cons_succ, Int.reduceLT, Int.reduceLE, Int.reduceAdd, Int.reduceSub, Int.reduceMul, Int.reduceNeg, Int.reduceEq, Int.reduceNe, Int.cast_ofNat_Int, Int.natCast_zero, Int.natCast_one, ge_iff_le, gt_iff_lt, decide_true, decide_false, Bool.not_true, Bool.not_false, Int.toNat_natCast, Nat.sub_zero, Nat.mul_one, Option.isSome_some, Option.isSome_none, Bool.false_eq_true, Bool.and_true, Bool.true_and, Bool.and_false, Bool.false_and, Nat.zero_add, Nat.zero_mul, List.drop_zero, reduceIte, setRange, PV.cells, fillB, List.take, List.drop, List.append_eq, List.cons_append, List.nil_append, List.length, List.map, List.zip, List.zipWith, List.replicate, List.flatten, Nat.reduceAdd, Nat.reduceMul, Nat.reduceSub, PV.mapId, mapIds, Option.map, Blk.mapId, sigN, sigS, t1]
          try conv => arg 3; simp only [Nat.reduceLT, List.reduceReplicate, List.flatten_cons, List.flatten_nil, List.append_nil, Nat.reduceMul, Nat.mul_one, Nat.one_mul, Nat.zero_mul, Nat.zero_add, List.drop_zero, List.drop_succ_cons, List.drop_nil, List.take_succ_cons, List.take_zero, List.take_nil, List.drop_drop, setRange, PV.cells, valT, List.getD_cons_zero, List.getD_cons_succ, List.take, List.length, Nat.reduceAdd, List.nil_append, applyU, hset, hdel, Nat.reduceEqDiff, reduceIte, List.append_eq, List.cons_append, List.nil_append, frz, rowsOf, updsNew, updsAt, sigN, sigS, PV.mapId, mapIds, Option.map, Blk.mapId, List.drop, heapOf, t1]
          conv => arg 5; simp only [stride, Nat.reduceAdd]
          refine EVgo9 (And.intro (w1) ( And.intro (hlt0) (hlt1))) trivial trivial trivial trivial trivial trivial trivial trivial trivial trivial trivial ?_
          first | refine WO.step (k_store_row rfl rfl rfl rfl (by rw [hlen1]; omega) rfl) ?_ | refine WOc.step (k_store_row rfl rfl rfl rfl (by rw [hlen1]; omega) rfl) ?_
          conv => arg 2; simp only [setOpt, List.set, Nat.reduceLT, Int.reduceToNat, List.drop_drop, valT, List.getD_cons_zero, List.getD_cons_succ, Int.reduceLT, Int.reduceLE, Int.reduceAdd, Int.reduceSub, Int.reduceMul, Int.reduceNeg, Int.reduceEq, Int.reduceNe, Int.cast_ofNat_Int, Int.natCast_zero, Int.natCast_one, ge_iff_le, gt_iff_lt, decide_true, decide_false, Bool.not_true, Bool.not_false, Int.toNat_natCast, Nat.sub_zero, Nat.mul_one, Option.isSome_some, Option.isSome_none, Bool.false_eq_true, Bool.and_true, Bool.true_and, Bool.and_false, Bool.false_and, Nat.zero_add, Nat.zero_mul, List.drop_zero, reduceIte, setRange, PV.cells, fillB, List.take, List.drop, List.append_eq, List.cons_append, List.nil_append, List.length, List.map, List.zip, List.zipWith, List.replicate, List.flatten, Nat.reduceAdd, Nat.reduceMul, Nat.reduceSub, PV.mapId, mapIds, Option.map, Blk.mapId, sigN, sigS, t2]
          try conv => arg 3; simp only [Nat.reduceLT, List.reduceReplicate, List.flatten_cons, List.flatten_nil, List.append_nil, Nat.reduceMul, Nat.mul_one, Nat.one_mul, Nat.zero_mul, Nat.zero_add, List.drop_zero, List.drop_succ_cons, List.drop_nil, List.take_succ_cons, List.take_zero, List.take_nil, List.drop_drop, setRange, PV.cells, valT, List.getD_cons_zero, List.getD_cons_succ, List.take, List.length, Nat.reduceAdd, List.nil_append, applyU, hset, hdel, Nat.reduceEqDiff, reduceIte, List.append_eq, List.cons_append, List.nil_append, frz, rowsOf, updsNew, updsAt, sigN, sigS, PV.mapId, mapIds, Option.map, Blk.mapId, List.drop, heapOf, t2]
          conv => arg 5; simp only [stride, Nat.reduceAdd]
          refine EVgo9 (w1) trivial trivial trivial trivial trivial trivial trivial trivial trivial trivial trivial ?_
          exact WC.loop rfl hih2
        · have hc : ¬ cmpI z2 y2 < 0 := by unfold cmpI; rw [if_neg hxy]; split <;> omega
          have hi' : insR (z1, z2) ((y1, y2) :: q) s = row := by rw [hrow]; unfold insR; rw [if_neg hxy]
          have hr' : row = insR (z1, z2) p.reverse [] ++ r := by rw [← hi', hi]
          rw [← hr'] at hih
          conv => arg 3; simp only [mkT, putT, List.reduceReplicate, List.set]
          refine EVgo9 (And.intro (hgt) (hlt1)) trivial trivial trivial trivial trivial trivial trivial trivial trivial trivial trivial ?_
          first | refine WO.step ((k_loadn rfl rfl e1 rfl)) ?_ | refine WOc.step ((k_loadn rfl rfl e1 rfl)) ?_
          conv => arg 2; simp only [setOpt, List.set, Nat.reduceLT, Int.reduceToNat, List.drop_drop, valT, List.getD_cons_zero, List.getD_cons_succ, Int.reduceLT, Int.reduceLE, Int.reduceAdd, Int.reduceSub, Int.reduceMul, Int.reduceNeg, Int.reduceEq, Int.reduceNe, Int.cast_ofNat_Int, Int.natCast_zero, Int.natCast_one, ge_iff_le, gt_iff_lt, decide_true, decide_false, Bool.not_true, Bool.not_false, Int.toNat_natCast, Nat.sub_zero, Nat.mul_one, Option.isSome_some, Option.isSome_none, Bool.false_eq_true, Bool.and_true, Bool.true_and, Bool.and_false, Bool.false_and, Nat.zero_add, Nat.zero_mul, List.drop_zero, reduceIte, setRange, PV.cells, fillB, List.take, List.drop, List.append_eq, List.cons_append, List.nil_append, List.length, List.map, List.zip, List.zipWith, List.replicate, List.flatten, Nat.reduceAdd, Nat.reduceMul, Nat.reduceSub, PV.mapId, mapIds, Option.map, Blk.mapId, sigN, sigS]
          try conv => arg 3; simp only [Nat.reduceLT, List.reduceReplicate, List.flatten_cons, List.flatten_nil, List.append_nil, Nat.reduceMul, Nat.mul_one, Nat.one_mul, Nat.zero_mul, Nat.zero_add, List.drop_zero, List.drop_succ_cons, List.drop_nil, List.take_succ_cons, List.take_zero, List.take_nil, List.drop_drop, setRange, PV.cells, valT, List.getD_cons_zero, List.getD_cons_succ, List.take, List.length, Nat.reduceAdd, List.nil_append, applyU, hset, hdel, Nat.reduceEqDiff, reduceIte, List.append_eq, List.cons_append, List.nil_append, frz, rowsOf, updsNew, updsAt, sigN, sigS, PV.mapId, mapIds, Option.map, Blk.mapId, List.drop, heapOf]
          conv => arg 5; simp only [stride, Nat.reduceAdd]
          refine EVgo9 (And.intro (w1) (hlt0)) trivial trivial trivial trivial trivial trivial trivial trivial trivial trivial trivial ?_
          first | refine WO.step ((k_loadn rfl rfl e0 rfl)) ?_ | refine WOc.step ((k_loadn rfl rfl e0 rfl)) ?_
          conv => arg 2; simp only [setOpt, List.set, Nat.reduceLT, Int.reduceToNat, List.drop_drop, valT, List.getD_cons_zero, List.getD_cons_succ, Int.reduceLT, Int.reduceLE, Int.reduceAdd, Int.reduceSub, Int.reduceMul, Int.reduceNeg, Int.reduceEq, Int.reduceNe, Int.cast_ofNat_Int, Int.natCast_zero, Int.natCast_one, ge_iff_le, gt_iff_lt, decide_true, decide_false, Bool.not_true, Bool.not_false, Int.toNat_natCast, Nat.sub_zero, Nat.mul_one, Option.isSome_some, Option.isSome_none, Bool.false_eq_true, Bool.and_true, Bool.true_and, Bool.and_false, Bool.false_and, Nat.zero_add, Nat.zero_mul, List.drop_zero, reduceIte, setRange, PV.cells, fillB, List.take, List.drop, List.append_eq, List.cons_append, List.nil_append, List.length, List.map, List.zip, List.zipWith, List.replicate, List.flatten, Nat.reduceAdd, Nat.reduceMul, Nat.reduceSub, PV.mapId, mapIds, Option.map, Blk.mapId, sigN, sigS]
          try conv => arg 3; simp only [Nat.reduceLT, List.reduceReplicate, List.flatten_cons, List.flatten_nil, List.append_nil, Nat.reduceMul, Nat.mul_one, Nat.one_mul, Nat.zero_mul, Nat.zero_add, List.drop_zero, List.drop_succ_cons, List.drop_nil, List.take_succ_cons, List.take_zero, List.take_nil, List.drop_drop, setRange, PV.cells, valT, List.getD_cons_zero, List.getD_cons_succ, List.take, List.length, Nat.reduceAdd, List.nil_append, applyU, hset, hdel, Nat.reduceEqDiff, reduceIte, List.append_eq, List.cons_append, List.nil_append, frz, rowsOf, updsNew, updsAt, sigN, sigS, PV.mapId, mapIds, Option.map, Blk.mapId, List.drop, heapOf]
          conv => arg 5; simp only [stride, Nat.reduceAdd]
          refine EVgo9 (And.intro (hc) (hw)) (h28) trivial trivial trivial trivial trivial trivial trivial trivial trivial trivial ?_
          exact WC.loop rfl hih
end
end Go.Proofs.YtppnijapeepbnaaR
