/- Evr13B: a part of the proof. -/
import Derived.Test.YtklanpanmndakaaEvr13A
open Go Go.Proofs.YtklanpanmndakaaEv Go.Proofs.YtklanpanmndakaaR Go.IntWalk
set_option maxRecDepth 20000
set_option maxHeartbeats 8000000
set_option linter.unusedVariables false
set_option linter.unusedSimpArgs false
namespace Go.Proofs.YtklanpanmndakaaR
def push (l : List Int) (m : Int) (x : List Int) : List Int × Int := if (l.length : Int) + x.length ≤ m then (l ++ x, 0) else (l, -3)
def pop (l : List Int) (n : Int) : List Int × List Int × Int := if 0 ≤ n ∧ n ≤ l.length then (l.take (l.length - n.toNat), l.drop (l.length - n.toNat), 0) else (l, [], -4)
def pick (l : List Int) (n : Int) : Int × Int := if 0 ≤ n ∧ n < l.length then (l.getD (l.length - 1 - n.toNat) 0, 0) else (0, -4)
section
variable {cf : CF} (hcf : cf = ev env)
include hcf
theorem s68 (n : Nat) (h : n ≤ 1000) : ∃ cs, cf 68 [.nil, .int .i64 n] [] = some (if n = 0 then (.nil, []) else (.own 0 1 0 0, [some (.row cs)])) := by
  refine ⟨(List.replicate n [PV.int .i64 0]).flatten, ?_⟩
  refine ev_ofC' hcf env68 ?_
  conv => arg 2; simp only [ir68]
  conv => arg 3; simp only [ir68, Go.Proofs.YtklanpanmndakaaEv.start, List.length, Nat.reduceAdd, Nat.reduceSub, List.reduceReplicate, List.append_eq, List.cons_append, List.nil_append]
  conv => arg 4; simp only [heapOf]
  try conv => arg 5; simp only [List.length, Nat.reduceAdd]
  try conv => arg 6; simp only [List.length, Nat.reduceAdd]
  have h1 : ¬ ((n : Int) < 0) := by omega
  have w0 : IntKind.i64.wrap 0 = 0 := by decide
  have hw : IntKind.i64.wrap ((n : Int) - 0) = n := by rw [i64_in _ (by omega)]; omega
  by_cases h0 : n = 0
  · subst h0
    refine EVgo2 trivial trivial trivial trivial trivial ?_
    exact WQ.ret rfl
  · have h2 : (n : Int) > 0 := by omega
    refine EVgo2 (And.intro (h1) ( And.intro (h2) ( And.intro (w0) (hw)))) trivial trivial trivial trivial ?_
    first | refine WO.step (k_appmk rfl rfl (by omega) (by omega) (by omega)) ?_ | refine WOc.step (k_appmk rfl rfl (by omega) (by omega) (by omega)) ?_
    conv => arg 2; simp only [setOpt, List.set, Nat.reduceLT, Int.reduceToNat, List.drop_drop, valT, List.getD_cons_zero, List.getD_cons_succ, Int.reduceLT, Int.reduceLE, Int.reduceAdd, Int.reduceSub, Int.reduceMul, Int.reduceNeg, Int.reduceEq, Int.reduceNe, Int.cast_ofNat_Int, Int.natCast_zero, Int.natCast_one, ge_iff_le, gt_iff_lt, decide_true, decide_false, Bool.not_true, Bool.not_false, Int.toNat_natCast, Nat.sub_zero, Nat.mul_one, Option.isSome_some, Option.isSome_none, Bool.false_eq_true, Bool.and_true, Bool.true_and, Bool.and_false, Bool.false_and, Nat.zero_add, Nat.zero_mul, List.drop_zero, reduceIte, setRange, PV.cells, fillB, List.take, List.drop, List.append_eq, List.cons_append, List.nil_append, List.length, List.map, List.zip, List.zipWith, List.replicate, List.flatten, Nat.reduceAdd, Nat.reduceMul, Nat.reduceSub, PV.mapId, mapIds, Option.map, Blk.mapId, sigN, sigS]
    try conv => arg 3; simp only [Nat.reduceLT, List.reduceReplicate, List.flatten_cons, List.flatten_nil, List.append_nil, Nat.reduceMul, Nat.mul_one, Nat.one_mul, Nat.zero_mul, Nat.zero_add, List.drop_zero, List.drop_succ_cons, List.drop_nil, List.take_succ_cons, List.take_zero, List.take_nil, List.drop_drop, setRange, PV.cells, valT, List.getD_cons_zero, List.getD_cons_succ, List.take, List.length, Nat.reduceAdd, List.nil_append, applyU, hset, hdel, Nat.reduceEqDiff, reduceIte, List.append_eq, List.cons_append, List.nil_append, frz, rowsOf, updsNew, updsAt, sigN, sigS, PV.mapId, mapIds, Option.map, Blk.mapId, List.drop, heapOf]
    conv => arg 5; simp only [stride, Nat.reduceAdd]
    refine EVgo2 (And.intro (h1) ( And.intro (h2) ( And.intro (w0) (hw)))) trivial trivial trivial trivial ?_
    rw [if_neg h0]
    exact WQ.ret rfl
theorem s67 (t ta tb : Bool) (la lb : List Int) (h : la.length + lb.length ≤ 1000) : cf 67 [.sl 2 t [.sl la.length ta (flat encI la), .sl lb.length tb (flat encI lb)]] [] = some (.own 0 1 0 (la ++ lb).length, [some (.row (flat encI (la ++ lb)))]) := by
  refine ev_ofC' hcf env67 ?_
  conv => arg 2; simp only [ir67]
  conv => arg 3; simp only [ir67, Go.Proofs.YtklanpanmndakaaEv.start, List.length, Nat.reduceAdd, Nat.reduceSub, List.reduceReplicate, List.append_eq, List.cons_append, List.nil_append]
  conv => arg 4; simp only [heapOf]
  try conv => arg 5; simp only [List.length, Nat.reduceAdd]
  try conv => arg 6; simp only [List.length, Nat.reduceAdd]
  have w1 : IntKind.i64.wrap (0 + (la.length : Int)) = (la.length : Int) := by rw [i64_in _ (by omega)]; omega
  have w2 : IntKind.i64.wrap ((la.length : Int) + (lb.length : Int)) = ((la.length + lb.length : Nat) : Int) := by rw [i64_in _ (by omega)]; omega
  have wa : IntKind.i64.wrap 1 = 1 := by decide
  have wb : IntKind.i64.wrap 2 = 2 := by decide
  have n1 : ¬ ((la.length : Int) < 0) := by omega
  have n2 : ¬ (((la.length + lb.length : Nat) : Int) < 0) := by omega
  refine EVgo2 trivial trivial trivial trivial trivial ?_
  refine WC.loop (T' := mkT 36 [(0, .sl 2 t [.sl la.length ta (flat encI la), .sl lb.length tb (flat encI lb)]), (3, .int .i64 0), (9, .sl 2 t [.sl la.length ta (flat encI la), .sl lb.length tb (flat encI lb)]), (10, .int .i64 2), (11, .int .i64 0)]) (H' := []) (n' := 0) rfl ?_
  conv => arg 3; simp only [mkT, putT, List.reduceReplicate, List.set]
  refine EVgo2 (And.intro (w1) ( And.intro (wa) (n1))) trivial trivial trivial trivial ?_
  refine WC.loop (T' := mkT 36 [(0, .sl 2 t [.sl la.length ta (flat encI la), .sl lb.length tb (flat encI lb)]), (3, .int .i64 la.length), (9, .sl 2 t [.sl la.length ta (flat encI la), .sl lb.length tb (flat encI lb)]), (10, .int .i64 2), (11, .int .i64 1)]) (H' := []) (n' := 0) rfl ?_
  conv => arg 3; simp only [mkT, putT, List.reduceReplicate, List.set]
  refine EVgo2 (And.intro (w2) ( And.intro (wb) (n2))) trivial trivial trivial trivial ?_
  refine WC.loop (T' := mkT 36 [(0, .sl 2 t [.sl la.length ta (flat encI la), .sl lb.length tb (flat encI lb)]), (3, .int .i64 ((la.length + lb.length : Nat) : Int)), (9, .sl 2 t [.sl la.length ta (flat encI la), .sl lb.length tb (flat encI lb)]), (10, .int .i64 2), (11, .int .i64 2)]) (H' := []) (n' := 0) rfl ?_
  conv => arg 3; simp only [mkT, putT, List.reduceReplicate, List.set]
  obtain ⟨cs, h68⟩ := s68 hcf (la.length + lb.length) h
  have ht : (flat encI la).take la.length = flat encI la := List.take_of_length_le (by rw [lenI]; omega)
  have hn : ∀ x : List PV, [] ++ x = x := fun _ => rfl
  by_cases h0 : la.length + lb.length = 0
  · rw [if_pos h0] at h68
    refine EVgo2 trivial (h68) trivial trivial trivial ?_
    refine WC.loop (T' := mkT 36 [(6, .own 0 1 0 0), (25, .sl 2 t [.sl la.length ta (flat encI la), .sl lb.length tb (flat encI lb)]), (26, .int .i64 2), (27, .int .i64 0)]) (H' := [(0, .row [])]) (n' := 1) rfl ?_
    conv => arg 3; simp only [mkT, putT, List.reduceReplicate, List.set]
    refine EVgl2 (And.intro (wa) ( And.intro (lenI) (hn))) trivial trivial trivial trivial ?_
    refine WC.loop (T' := mkT 36 [(6, .own 0 1 0 la.length), (25, .sl 2 t [.sl la.length ta (flat encI la), .sl lb.length tb (flat encI lb)]), (26, .int .i64 2), (27, .int .i64 1)]) (H' := [(0, .row (flat encI la))]) (n' := 1) rfl ?_
    conv => arg 3; simp only [mkT, putT, List.reduceReplicate, List.set]
    refine EVgl2 (And.intro (wb) ( And.intro (lenI) (ht))) trivial trivial trivial trivial ?_
    rw [appI]
    refine WC.loop (T' := mkT 36 [(6, .own 0 1 0 (la.length + lb.length)), (25, .sl 2 t [.sl la.length ta (flat encI la), .sl lb.length tb (flat encI lb)]), (26, .int .i64 2), (27, .int .i64 2)]) (H' := [(0, .row (flat encI (la ++ lb)))]) (n' := 1) rfl ?_
    conv => arg 3; simp only [mkT, putT, List.reduceReplicate, List.set]
    refine EVgo2 trivial trivial trivial trivial trivial ?_
    rw [List.length_append]
    exact WQ.ret rfl
  · rw [if_neg h0] at h68
    refine EVgo2 trivial (h68) trivial trivial trivial ?_
    refine WC.loop (T' := mkT 36 [(6, .own 0 1 0 0), (25, .sl 2 t [.sl la.length ta (flat encI la), .sl lb.length tb (flat encI lb)]), (26, .int .i64 2), (27, .int .i64 0)]) (H' := [(0, .row cs)]) (n' := 1) rfl ?_
    conv => arg 3; simp only [mkT, putT, List.reduceReplicate, List.set]
    refine EVgl2 (And.intro (wa) ( And.intro (lenI) (hn))) trivial trivial trivial trivial ?_
    refine WC.loop (T' := mkT 36 [(6, .own 0 1 0 la.length), (25, .sl 2 t [.sl la.length ta (flat encI la), .sl lb.length tb (flat encI lb)]), (26, .int .i64 2), (27, .int .i64 1)]) (H' := [(0, .row (flat encI la))]) (n' := 1) rfl ?_
    conv => arg 3; simp only [mkT, putT, List.reduceReplicate, List.set]
    refine EVgl2 (And.intro (wb) ( And.intro (lenI) (ht))) trivial trivial trivial trivial ?_
    rw [appI]
    refine WC.loop (T' := mkT 36 [(6, .own 0 1 0 (la.length + lb.length)), (25, .sl 2 t [.sl la.length ta (flat encI la), .sl lb.length tb (flat encI lb)]), (26, .int .i64 2), (27, .int .i64 2)]) (H' := [(0, .row (flat encI (la ++ lb)))]) (n' := 1) rfl ?_
    conv => arg 3; simp only [mkT, putT, List.reduceReplicate, List.set]
    refine EVgo2 trivial trivial trivial trivial trivial ?_
    rw [List.length_append]
    exact WQ.ret rfl
theorem s62 (la lb : List Int) (m : Int) (h : la.length ≤ 500) (k : lb.length ≤ 500) : Sp cf 62 [slI la, .int .i64 m, slI lb] (.tup [slI (push la m lb).1, .int .i64 (push la m lb).2]) := by
  have h67 := s67 hcf false false false la lb (by omega)
  refine sp_of hcf env62 ?_
  simp only [slI]
  conv => arg 2; simp only [ir62]
  conv => arg 3; simp only [ir62, Go.Proofs.YtklanpanmndakaaEv.start, List.length, Nat.reduceAdd, Nat.reduceSub, List.reduceReplicate, List.append_eq, List.cons_append, List.nil_append]
  conv => arg 4; simp only [heapOf]
  try conv => arg 5; simp only [List.length, Nat.reduceAdd]
  try conv => arg 6; simp only [List.length, Nat.reduceAdd]
  have w2 : IntKind.i64.wrap ((la.length : Int) + (lb.length : Int)) = (la.length : Int) + lb.length := by rw [i64_in _ (by omega)]
  by_cases hm : (la.length : Int) + lb.length ≤ m
  · have h1 : ¬ ((la.length : Int) + lb.length > m) := by omega
    simp only [push, if_pos hm]
    refine EVgo2 (And.intro (w2) (h1)) (h67) trivial trivial trivial ?_
    exact EVret trivial
  · have h1 : (la.length : Int) + lb.length > m := by omega
    simp only [push, if_neg hm]
    refine EVgo2 (And.intro (w2) (h1)) trivial trivial trivial trivial ?_
    exact EVret trivial
theorem s49 (la lb : List Int) (m : Int) (h : la.length ≤ 500) (k : lb.length ≤ 500) : Sp cf 49 [slI la, .int .i64 m, slI lb] (.tup [slI (push la m lb).1, .int .i64 (push la m lb).2]) := by
  refine sp_of hcf env49 ?_
  simp only [slI]
  conv => arg 2; simp only [ir49]
  conv => arg 3; simp only [ir49, Go.Proofs.YtklanpanmndakaaEv.start, List.length, Nat.reduceAdd, Nat.reduceSub, List.reduceReplicate, List.append_eq, List.cons_append, List.nil_append]
  conv => arg 4; simp only [heapOf]
  try conv => arg 5; simp only [List.length, Nat.reduceAdd]
  try conv => arg 6; simp only [List.length, Nat.reduceAdd]
  have w2 : IntKind.i64.wrap ((la.length : Int) + (lb.length : Int)) = (la.length : Int) + lb.length := by rw [i64_in _ (by omega)]
  by_cases hm : (la.length : Int) + lb.length ≤ m
  · have h1 : ¬ ((la.length : Int) + lb.length > m) := by omega
    simp only [push, if_pos hm]
    refine EVgo2 (And.intro (w2) ( And.intro (h1) ( And.intro (lenI) ( And.intro (allI) (appI))))) trivial trivial trivial trivial ?_
    exact EVret trivial
  · have h1 : (la.length : Int) + lb.length > m := by omega
    simp only [push, if_neg hm]
    refine EVgo2 (And.intro (w2) (h1)) trivial trivial trivial trivial ?_
    exact EVret trivial
theorem s63 (l : List Int) (n : Int) (hn : n ≤ 10000) (k : l.length ≤ 500) : Sp cf 63 [slI l, .int .i64 n] (.tup [slI (pop l n).1, slI (pop l n).2.1, .int .i64 (pop l n).2.2]) := by
  refine sp_of hcf env63 ?_
  simp only [slI]
  conv => arg 2; simp only [ir63]
  conv => arg 3; simp only [ir63, Go.Proofs.YtklanpanmndakaaEv.start, List.length, Nat.reduceAdd, Nat.reduceSub, List.reduceReplicate, List.append_eq, List.cons_append, List.nil_append]
  conv => arg 4; simp only [heapOf]
  try conv => arg 5; simp only [List.length, Nat.reduceAdd]
  try conv => arg 6; simp only [List.length, Nat.reduceAdd]
  by_cases h1 : n < 0
  · simp only [pop, if_neg (show ¬ (0 ≤ n ∧ n ≤ (l.length : Int)) by omega)]
    refine EVgo2 (h1) trivial trivial trivial trivial ?_
    exact EVret trivial
  have w2 : IntKind.i64.wrap ((l.length : Int) - n) = (l.length : Int) - n := by rw [i64_in _ (by omega)]
  by_cases h2 : (l.length : Int) - n < 0
  · simp only [pop, if_neg (show ¬ (0 ≤ n ∧ n ≤ (l.length : Int)) by omega)]
    refine EVgo2 (And.intro (w2) ( And.intro (h1) (h2))) trivial trivial trivial trivial ?_
    exact EVret trivial
  obtain ⟨k, rfl⟩ : ∃ k : Nat, n = k := ⟨n.toNat, by omega⟩
  simp only [pop, if_pos (show 0 ≤ (k : Int) ∧ (k : Int) ≤ (l.length : Int) by omega), Int.toNat_natCast]
  have w3 : (l.length : Int) - (k : Int) = ((l.length - k : Nat) : Int) := by omega
  rw [w3] at h2
  replace w2 := w2.trans w3
  have e3 : l.length - (l.length - k) = k := by omega
  have e4 : (l.drop (l.length - k)).take k = l.drop (l.length - k) := List.take_of_length_le (by rw [List.length_drop]; omega)
  have e5 : (l.drop (l.length - k)).length = k := by rw [List.length_drop]; omega
  have e6 : (l.take (l.length - k)).length = l.length - k := by rw [List.length_take]; omega
  refine EVgo2 (And.intro (w2) ( And.intro (h1) ( And.intro (h2) ( And.intro (takeI) ( And.intro (dropI) ( And.intro (e3) (e4))))))) trivial trivial trivial trivial ?_
  exact EVret (And.intro (e5) (e6))
theorem s52 (l : List Int) (n : Int) (hn : n ≤ 10000) (k : l.length ≤ 500) : Sp cf 52 [slI l, .int .i64 n] (.tup [slI (pop l n).1, slI (pop l n).2.1, .int .i64 (pop l n).2.2]) := by
  refine sp_of hcf env52 ?_
  simp only [slI]
  conv => arg 2; simp only [ir52]
  conv => arg 3; simp only [ir52, Go.Proofs.YtklanpanmndakaaEv.start, List.length, Nat.reduceAdd, Nat.reduceSub, List.reduceReplicate, List.append_eq, List.cons_append, List.nil_append]
  conv => arg 4; simp only [heapOf]
  try conv => arg 5; simp only [List.length, Nat.reduceAdd]
  try conv => arg 6; simp only [List.length, Nat.reduceAdd]
  by_cases h1 : n < 0
  · simp only [pop, if_neg (show ¬ (0 ≤ n ∧ n ≤ (l.length : Int)) by omega)]
    refine EVgo2 (h1) trivial trivial trivial trivial ?_
    exact EVret trivial
  by_cases h2 : n > (l.length : Int)
  · simp only [pop, if_neg (show ¬ (0 ≤ n ∧ n ≤ (l.length : Int)) by omega)]
    refine EVgo2 (And.intro (h1) (h2)) trivial trivial trivial trivial ?_
    exact EVret trivial
  obtain ⟨k, rfl⟩ : ∃ k : Nat, n = k := ⟨n.toNat, by omega⟩
  simp only [pop, if_pos (show 0 ≤ (k : Int) ∧ (k : Int) ≤ (l.length : Int) by omega), Int.toNat_natCast]
  have w2 : IntKind.i64.wrap ((l.length : Int) - (k : Int)) = ((l.length - k : Nat) : Int) := by rw [i64_in _ (by omega)]; omega
  have e3 : l.length - (l.length - k) = k := by omega
  have e4 : (l.drop (l.length - k)).take k = l.drop (l.length - k) := List.take_of_length_le (by rw [List.length_drop]; omega)
  have e5 : (l.drop (l.length - k)).length = k := by rw [List.length_drop]; omega
  have e6 : (l.take (l.length - k)).length = l.length - k := by rw [List.length_take]; omega
  refine EVgo2 (And.intro (w2) ( And.intro (h1) ( And.intro (h2) ( And.intro (takeI) ( And.intro (dropI) ( And.intro (e3) ( And.intro (e4) (lenI)))))))) trivial trivial trivial trivial ?_
  exact EVret (And.intro (e5) (e6))
theorem s43 (l : List Int) (n : Int) (k : l.length ≤ 500) : Sp cf 43 [slI l, .int .i64 n] (.tup [.int .i64 (pick l n).1, .int .i64 (pick l n).2]) := by
  refine sp_of hcf env43 ?_
  simp only [slI]
  conv => arg 2; simp only [ir43]
  conv => arg 3; simp only [ir43, Go.Proofs.YtklanpanmndakaaEv.start, List.length, Nat.reduceAdd, Nat.reduceSub, List.reduceReplicate, List.append_eq, List.cons_append, List.nil_append]
  conv => arg 4; simp only [heapOf]
  try conv => arg 5; simp only [List.length, Nat.reduceAdd]
  try conv => arg 6; simp only [List.length, Nat.reduceAdd]
  by_cases h1 : n < 0
  · simp only [pick, if_neg (show ¬ (0 ≤ n ∧ n < (l.length : Int)) by omega)]
    refine EVgo2 (h1) trivial trivial trivial trivial ?_
    exact EVret trivial
  by_cases h2 : (l.length : Int) ≤ n
  · simp only [pick, if_neg (show ¬ (0 ≤ n ∧ n < (l.length : Int)) by omega)]
    refine EVgo2 (And.intro (h1) (h2)) trivial trivial trivial trivial ?_
    exact EVret trivial
  obtain ⟨k, rfl⟩ : ∃ k : Nat, n = k := ⟨n.toNat, by omega⟩
  simp only [pick, if_pos (show 0 ≤ (k : Int) ∧ (k : Int) < (l.length : Int) by omega), Int.toNat_natCast]
  have w1 : IntKind.i64.wrap ((l.length : Int) - 1) = (l.length : Int) - 1 := by rw [i64_in _ (by omega)]
  have w2 : IntKind.i64.wrap ((l.length : Int) - 1 - (k : Int)) = ((l.length - 1 - k : Nat) : Int) := by rw [i64_in _ (by omega)]; omega
  have hlt : l.length - 1 - k < l.length := by omega
  have e0 := flat_at (enc := encI) (es := 1) (fun _ => rfl) hlt
  rw [Nat.mul_one] at e0
  simp only [encI, List.cons_append, List.nil_append] at e0
  rw [List.getD_eq_getElem?_getD, List.getElem?_eq_getElem hlt, Option.getD_some]
  refine EVgo2 (And.intro (h1) ( And.intro (h2) ( And.intro (w1) ( And.intro (w2) (e0))))) trivial trivial trivial trivial ?_
  exact EVret trivial
theorem s65 (l : List Int) (n : Int) (k : l.length ≤ 500) : Sp cf 65 [slI l, .int .i64 n] (.tup [.int .i64 (pick l n).1, .int .i64 (pick l n).2]) := by
  refine sp_of hcf env65 ?_
  simp only [slI]
  conv => arg 2; simp only [ir65]
  conv => arg 3; simp only [ir65, Go.Proofs.YtklanpanmndakaaEv.start, List.length, Nat.reduceAdd, Nat.reduceSub, List.reduceReplicate, List.append_eq, List.cons_append, List.nil_append]
  conv => arg 4; simp only [heapOf]
  try conv => arg 5; simp only [List.length, Nat.reduceAdd]
  try conv => arg 6; simp only [List.length, Nat.reduceAdd]
  by_cases h1 : n < 0
  · simp only [pick, if_neg (show ¬ (0 ≤ n ∧ n < (l.length : Int)) by omega)]
    refine EVgo2 (h1) trivial trivial trivial trivial ?_
    exact EVret trivial
  by_cases h2 : (l.length : Int) ≤ n
  · simp only [pick, if_neg (show ¬ (0 ≤ n ∧ n < (l.length : Int)) by omega)]
    refine EVgo2 (And.intro (h1) (h2)) trivial trivial trivial trivial ?_
    exact EVret trivial
  obtain ⟨k, rfl⟩ : ∃ k : Nat, n = k := ⟨n.toNat, by omega⟩
  simp only [pick, if_pos (show 0 ≤ (k : Int) ∧ (k : Int) < (l.length : Int) by omega), Int.toNat_natCast]
  have w1 : IntKind.i64.wrap ((l.length : Int) - 1) = (l.length : Int) - 1 := by rw [i64_in _ (by omega)]
  have w2 : IntKind.i64.wrap ((l.length : Int) - 1 - (k : Int)) = ((l.length - 1 - k : Nat) : Int) := by rw [i64_in _ (by omega)]; omega
  have hlt : l.length - 1 - k < l.length := by omega
  have e0 := flat_at (enc := encI) (es := 1) (fun _ => rfl) hlt
  rw [Nat.mul_one] at e0
  simp only [encI, List.cons_append, List.nil_append] at e0
  rw [List.getD_eq_getElem?_getD, List.getElem?_eq_getElem hlt, Option.getD_some]
  refine EVgo2 (And.intro (h1) ( And.intro (h2) ( And.intro (w1) ( And.intro (w2) (e0))))) trivial trivial trivial trivial ?_
  exact EVret trivial
def cutH (h n : Int) : Int := if stands h n = true then h else 0
theorem s45 (m : Tk) (l : List Int) : Sp cf 45 [tkE m, slI l] (tkE ⟨m.d, l, m.th, m.pl, cutH m.h l.length⟩) := by
  have h37 := s37 hcf m.h l.length
  refine sp_of hcf env45 ?_
  simp only [tkE, slI]
  conv => arg 2; simp only [ir45]
  conv => arg 3; simp only [ir45, Go.Proofs.YtklanpanmndakaaEv.start, List.length, Nat.reduceAdd, Nat.reduceSub, List.reduceReplicate, List.append_eq, List.cons_append, List.nil_append]
  conv => arg 4; simp only [heapOf]
  try conv => arg 5; simp only [List.length, Nat.reduceAdd]
  try conv => arg 6; simp only [List.length, Nat.reduceAdd]
  unfold cutH
  cases hs : stands m.h l.length with
  | true =>
    refine EVgo2 (hs) (h37) trivial trivial trivial ?_
    exact EVret trivial
  | false =>
    refine EVgo2 (hs) (h37) trivial trivial trivial ?_
    exact EVret trivial
theorem s53 (h n : Int) : Sp cf 53 [.int .i64 h, .int .i64 n] (.int .i64 (cutH h n)) := by
  have h51 := s51 hcf h n
  refine sp_of hcf env53 ?_
  conv => arg 2; simp only [ir53]
  conv => arg 3; simp only [ir53, Go.Proofs.YtklanpanmndakaaEv.start, List.length, Nat.reduceAdd, Nat.reduceSub, List.reduceReplicate, List.append_eq, List.cons_append, List.nil_append]
  conv => arg 4; simp only [heapOf]
  try conv => arg 5; simp only [List.length, Nat.reduceAdd]
  try conv => arg 6; simp only [List.length, Nat.reduceAdd]
  unfold cutH
  cases hs : stands h n with
  | true =>
    refine EVgo2 (hs) (h51) trivial trivial trivial ?_
    exact EVret trivial
  | false =>
    refine EVgo2 (hs) (h51) trivial trivial trivial ?_
    exact EVret trivial
end
end Go.Proofs.YtklanpanmndakaaR
