/- Evf06F1: a part of the proof. -/
import Derived.Test.YtgiapbmeaobjiaaEvf06E1
open Go Go.Proofs.YtgiapbmeaobjiaaEv Go.Proofs.YtgiapbmeaobjiaaR Go.IntWalk
set_option maxRecDepth 20000
set_option maxHeartbeats 8000000
set_option linter.unusedVariables false
set_option linter.unusedSimpArgs false
namespace Go.Proofs.YtgiapbmeaobjiaaR
theorem cutP_hit {p : UInt8 → Bool} {L q r : Bs} {b : UInt8} {a : Nat} (h : q ++ b :: r = L.drop a) (hq : ∀ c ∈ q, p c = false) (hb : p b = true) : cutP p L a = (q, a + q.length + 1) := by
  unfold cutP
  rw [← h, upto_at hq hb, if_pos (by simp)]
theorem cutP_miss {p : UInt8 → Bool} {L : Bs} {a : Nat} (hq : ∀ c ∈ L.drop a, p c = false) : cutP p L a = (L.drop a, L.length) := by
  unfold cutP
  rw [upto_all hq, if_neg (Nat.lt_irrefl _)]
theorem all_snoc {p : UInt8 → Bool} {q : Bs} {b : UInt8} (h : ∀ c ∈ q, p c = false) (hb : p b = false) : ∀ c ∈ q ++ [b], p c = false := fun c hc => by
  rcases List.mem_append.1 hc with w | w
  · exact h c w
  · rw [List.mem_singleton.1 w]; exact hb
theorem at_B {m q r : Bs} {b : UInt8} (h : q ++ b :: r = m) : (⟨m.toArray⟩ : ByteArray)[((q.length : Nat) : Int).toNat]? = some b := by
  subst h
  rw [Int.toNat_natCast, idxB _ _ (by simp)]
  simp
theorem pre_B {m q r : Bs} (h : q ++ r = m) : (⟨m.toArray⟩ : ByteArray).extract 0 q.length = ⟨q.toArray⟩ := by
  rw [exB, ← h, List.take_left, List.drop_zero]
theorem snoc_lenB (q : Bs) (b : UInt8) : (q ++ [b]).length = q.length + 1 := by simp
section
variable {cf : CF} (hcf : cf = ev env)
include hcf
theorem s24a (L : Bs) (i : Int) (hL : L.length ≤ 1000000) (g : Nat) (p : UInt8 → Bool) (hg' : ∀ b : UInt8, Sp cf g [.int .u8 (b.toNat : Nat)] (.bool (p b))) : Sp cf 24 [srcE L i, .fn g [] []] (encC L (cutP p L (inN L.length i))) := by
  have hg : ∀ b : UInt8, cf g [.int .u8 (b.toNat : Nat)] [] = some (.bool (p b), []) := fun b => (hg' b).ok _ rfl rfl
  have h13 := s13 hcf L i hL
  have h29 := s29 hcf L i
  have hle := inN_le L.length i
  generalize inN L.length i = a at *
  have hdl : (L.drop a).length = L.length - a := List.length_drop
  have hz : (((L.drop a).length : Nat) : Int) ≤ 1000000 := by omega
  refine sp_of hcf env24 ?_
  simp only [srcE, sB] at h13 h29 ⊢
  conv => arg 2; simp only [ir24]
  conv => arg 3; simp only [ir24, Go.Proofs.YtgiapbmeaobjiaaEv.start, List.length, Nat.reduceAdd, Nat.reduceSub, List.reduceReplicate, List.append_eq, List.cons_append, List.nil_append]
  conv => arg 4; simp only [heapOf]
  try conv => arg 5; simp only [List.length, Nat.reduceAdd]
  try conv => arg 6; simp only [List.length, Nat.reduceAdd]
  refine EVgo9 (szB) (h13) trivial trivial trivial trivial trivial trivial trivial trivial trivial trivial ?_
  refine WC.loop (T' := _) (H' := _) (n' := _) rfl ((?_ : ∀ (r q : Bs), q ++ r = L.drop a → (∀ c ∈ q, p c = false) →
    WC cf _ (mkT 39 [(1, .fn g [] []), (2, .ptr 0 0), (5, .ptr 1 0), (6, .str ⟨(L.drop a).toArray⟩), (11, .int .i64 ((L.drop a).length : Nat)), (12, .int .i64 (q.length : Nat))]) [(0, .box [.str ⟨L.toArray⟩, .int .i64 i]), (1, .box [.str ⟨#[]⟩, .int .i64 0])] 0 2 _) (L.drop a) [] rfl (fun c hc => absurd hc List.not_mem_nil))
  intro r
  induction r with
  | nil =>
    intro q hq hp
    rw [List.append_nil] at hq
    rw [cutP_miss (by rw [← hq]; exact hp), ← hq]
    simp only [encC, srcE, sB]
    conv => arg 3; simp only [mkT, putT, List.reduceReplicate, List.set]
    refine EVgl9 trivial trivial trivial trivial trivial trivial trivial trivial trivial trivial trivial trivial ?_
    refine EVgo9 (szB) trivial trivial trivial trivial trivial trivial trivial trivial trivial trivial trivial ?_
    exact EVret trivial
  | cons b r ih =>
    intro q hq hp
    have hlen : (L.drop a).length = q.length + (r.length + 1) := by rw [← hq]; simp
    have hlt : (q.length : Int) < ((L.drop a).length : Int) := by omega
    have h0 : (0 : Int) ≤ (q.length : Int) := Int.natCast_nonneg _
    have hb := at_B hq
    cases hpb : p b with
    | true =>
      have hgb := hg b
      rw [hpb] at hgb
      rw [cutP_hit hq hp hpb]
      have e1 := pre_B hq
      have w1 : IntKind.i64.wrap ((a : Int) + (q.length : Int)) = (a : Int) + (q.length : Int) := i64_in _ (by omega)
      have w2 : IntKind.i64.wrap ((a : Int) + (q.length : Int) + 1) = ((a + q.length + 1 : Nat) : Int) := by rw [i64_in _ (by omega)]; simp
      simp only [encC, srcE, sB]
      conv => arg 3; simp only [mkT, putT, List.reduceReplicate, List.set]
      refine EVgo9 (hlt) trivial trivial trivial trivial trivial trivial trivial trivial trivial trivial trivial ?_
      first | refine WO.step (k_index rfl rfl h0 hb) ?_ | refine WOc.step (k_index rfl rfl h0 hb) ?_
      conv => arg 2; simp only [setOpt, List.set, Nat.reduceLT, Int.reduceToNat, List.drop_drop, valT, List.getD_cons_zero, List.getD_cons_succ, Int.reduceLT, Int.reduceLE, Int.reduceAdd, Int.reduceSub, Int.reduceMul, Int.reduceNeg, Int.reduceEq, Int.reduceNe, Int.cast_ofNat_Int, Int.natCast_zero, Int.natCast_one, ge_iff_le, gt_iff_lt, decide_true, decide_false, Bool.not_true, Bool.not_false, Int.toNat_natCast, Nat.sub_zero, Nat.mul_one, Option.isSome_some, Option.isSome_none, Bool.false_eq_true, Bool.and_true, Bool.true_and, Bool.and_false, Bool.false_and, Nat.zero_add, Nat.zero_mul, List.drop_zero, reduceIte, setRange, PV.cells, fillB, List.take, List.drop, List.append_eq, List.cons_append, List.nil_append, List.length, List.map, List.zip, List.zipWith, List.replicate, List.flatten, Nat.reduceAdd, Nat.reduceMul, Nat.reduceSub, PV.mapId, mapIds, Option.map, Blk.mapId, sigN, sigS, hlt]
      try conv => arg 3; simp only [Nat.reduceLT, List.reduceReplicate, List.flatten_cons, List.flatten_nil, List.append_nil, Nat.reduceMul, Nat.mul_one, Nat.one_mul, Nat.zero_mul, Nat.zero_add, List.drop_zero, List.drop_succ_cons, List.drop_nil, List.take_succ_cons, List.take_zero, List.take_nil, List.drop_drop, setRange, PV.cells, valT, List.getD_cons_zero, List.getD_cons_succ, List.take, List.length, Nat.reduceAdd, List.nil_append, applyU, hset, hdel, Nat.reduceEqDiff, reduceIte, List.append_eq, List.cons_append, List.nil_append, frz, rowsOf, updsNew, updsAt, sigN, sigS, PV.mapId, mapIds, Option.map, Blk.mapId, List.drop, heapOf, hlt]
      conv => arg 5; simp only [stride, Nat.reduceAdd]
      refine EVgo9 (And.intro (szB) ( And.intro (e1) ( And.intro (w1) (w2)))) (hgb) (h29) trivial trivial trivial trivial trivial trivial trivial trivial trivial ?_
      exact EVret trivial
    | false =>
      have hgb := hg b
      rw [hpb] at hgb
      have hw : IntKind.i64.wrap ((q.length : Int) + 1) = ((q.length + 1 : Nat) : Int) := by rw [i64_in _ (by omega)]; simp
      have hih := ih (q ++ [b]) (by rw [List.append_assoc]; exact hq) (all_snoc hp hpb)
      rw [snoc_lenB] at hih
      conv => arg 3; simp only [mkT, putT, List.reduceReplicate, List.set]
      refine EVgo9 (hlt) trivial trivial trivial trivial trivial trivial trivial trivial trivial trivial trivial ?_
      first | refine WO.step (k_index rfl rfl h0 hb) ?_ | refine WOc.step (k_index rfl rfl h0 hb) ?_
      conv => arg 2; simp only [setOpt, List.set, Nat.reduceLT, Int.reduceToNat, List.drop_drop, valT, List.getD_cons_zero, List.getD_cons_succ, Int.reduceLT, Int.reduceLE, Int.reduceAdd, Int.reduceSub, Int.reduceMul, Int.reduceNeg, Int.reduceEq, Int.reduceNe, Int.cast_ofNat_Int, Int.natCast_zero, Int.natCast_one, ge_iff_le, gt_iff_lt, decide_true, decide_false, Bool.not_true, Bool.not_false, Int.toNat_natCast, Nat.sub_zero, Nat.mul_one, Option.isSome_some, Option.isSome_none, Bool.false_eq_true, Bool.and_true, Bool.true_and, Bool.and_false, Bool.false_and, Nat.zero_add, Nat.zero_mul, List.drop_zero, reduceIte, setRange, PV.cells, fillB, List.take, List.drop, List.append_eq, List.cons_append, List.nil_append, List.length, List.map, List.zip, List.zipWith, List.replicate, List.flatten, Nat.reduceAdd, Nat.reduceMul, Nat.reduceSub, PV.mapId, mapIds, Option.map, Blk.mapId, sigN, sigS, hlt]
      try conv => arg 3; simp only [Nat.reduceLT, List.reduceReplicate, List.flatten_cons, List.flatten_nil, List.append_nil, Nat.reduceMul, Nat.mul_one, Nat.one_mul, Nat.zero_mul, Nat.zero_add, List.drop_zero, List.drop_succ_cons, List.drop_nil, List.take_succ_cons, List.take_zero, List.take_nil, List.drop_drop, setRange, PV.cells, valT, List.getD_cons_zero, List.getD_cons_succ, List.take, List.length, Nat.reduceAdd, List.nil_append, applyU, hset, hdel, Nat.reduceEqDiff, reduceIte, List.append_eq, List.cons_append, List.nil_append, frz, rowsOf, updsNew, updsAt, sigN, sigS, PV.mapId, mapIds, Option.map, Blk.mapId, List.drop, heapOf, hlt]
      conv => arg 5; simp only [stride, Nat.reduceAdd]
      refine EVgo9 (hw) (hgb) trivial trivial trivial trivial trivial trivial trivial trivial trivial trivial ?_
      exact WC.loop rfl hih
theorem s24b (L : Bs) (i : Int) (hL : L.length ≤ 1000000) (g : Nat) (d : Int) (p : UInt8 → Bool) (hg : ∀ b : UInt8, cf g [.int .u8 (b.toNat : Nat), .rop [.int .i64 d]] [] = some (.bool (p b), [])) : Sp cf 24 [srcE L i, .fn g [] [.rop [.int .i64 d]]] (encC L (cutP p L (inN L.length i))) := by
  have h13 := s13 hcf L i hL
  have h29 := s29 hcf L i
  have hle := inN_le L.length i
  generalize inN L.length i = a at *
  have hdl : (L.drop a).length = L.length - a := List.length_drop
  have hz : (((L.drop a).length : Nat) : Int) ≤ 1000000 := by omega
  refine sp_of hcf env24 ?_
  simp only [srcE, sB] at h13 h29 ⊢
  conv => arg 2; simp only [ir24]
  conv => arg 3; simp only [ir24, Go.Proofs.YtgiapbmeaobjiaaEv.start, List.length, Nat.reduceAdd, Nat.reduceSub, List.reduceReplicate, List.append_eq, List.cons_append, List.nil_append]
  conv => arg 4; simp only [heapOf]
  try conv => arg 5; simp only [List.length, Nat.reduceAdd]
  try conv => arg 6; simp only [List.length, Nat.reduceAdd]
  refine EVgo9 (szB) (h13) trivial trivial trivial trivial trivial trivial trivial trivial trivial trivial ?_
  refine WC.loop (T' := _) (H' := _) (n' := _) rfl ((?_ : ∀ (r q : Bs), q ++ r = L.drop a → (∀ c ∈ q, p c = false) →
    WC cf _ (mkT 39 [(1, .fn g [] [.rop [.int .i64 d]]), (2, .ptr 0 0), (5, .ptr 1 0), (6, .str ⟨(L.drop a).toArray⟩), (11, .int .i64 ((L.drop a).length : Nat)), (12, .int .i64 (q.length : Nat))]) [(0, .box [.str ⟨L.toArray⟩, .int .i64 i]), (1, .box [.str ⟨#[]⟩, .int .i64 0])] 0 2 _) (L.drop a) [] rfl (fun c hc => absurd hc List.not_mem_nil))
  intro r
  induction r with
  | nil =>
    intro q hq hp
    rw [List.append_nil] at hq
    rw [cutP_miss (by rw [← hq]; exact hp), ← hq]
    simp only [encC, srcE, sB]
    conv => arg 3; simp only [mkT, putT, List.reduceReplicate, List.set]
    refine EVgl9 trivial trivial trivial trivial trivial trivial trivial trivial trivial trivial trivial trivial ?_
    refine EVgo9 (szB) trivial trivial trivial trivial trivial trivial trivial trivial trivial trivial trivial ?_
    exact EVret trivial
  | cons b r ih =>
    intro q hq hp
    have hlen : (L.drop a).length = q.length + (r.length + 1) := by rw [← hq]; simp
    have hlt : (q.length : Int) < ((L.drop a).length : Int) := by omega
    have h0 : (0 : Int) ≤ (q.length : Int) := Int.natCast_nonneg _
    have hb := at_B hq
    cases hpb : p b with
    | true =>
      have hgb := hg b
      rw [hpb] at hgb
      rw [cutP_hit hq hp hpb]
      have e1 := pre_B hq
      have w1 : IntKind.i64.wrap ((a : Int) + (q.length : Int)) = (a : Int) + (q.length : Int) := i64_in _ (by omega)
      have w2 : IntKind.i64.wrap ((a : Int) + (q.length : Int) + 1) = ((a + q.length + 1 : Nat) : Int) := by rw [i64_in _ (by omega)]; simp
      simp only [encC, srcE, sB]
      conv => arg 3; simp only [mkT, putT, List.reduceReplicate, List.set]
      refine EVgo9 (hlt) trivial trivial trivial trivial trivial trivial trivial trivial trivial trivial trivial ?_
      first | refine WO.step (k_index rfl rfl h0 hb) ?_ | refine WOc.step (k_index rfl rfl h0 hb) ?_
      conv => arg 2; simp only [setOpt, List.set, Nat.reduceLT, Int.reduceToNat, List.drop_drop, valT, List.getD_cons_zero, List.getD_cons_succ, Int.reduceLT, Int.reduceLE, Int.reduceAdd, Int.reduceSub, Int.reduceMul, Int.reduceNeg, Int.reduceEq, Int.reduceNe, Int.cast_ofNat_Int, Int.natCast_zero, Int.natCast_one, ge_iff_le, gt_iff_lt, decide_true, decide_false, Bool.not_true, Bool.not_false, Int.toNat_natCast, Nat.sub_zero, Nat.mul_one, Option.isSome_some, Option.isSome_none, Bool.false_eq_true, Bool.and_true, Bool.true_and, Bool.and_false, Bool.false_and, Nat.zero_add, Nat.zero_mul, List.drop_zero, reduceIte, setRange, PV.cells, fillB, List.take, List.drop, List.append_eq, List.cons_append, List.nil_append, List.length, List.map, List.zip, List.zipWith, List.replicate, List.flatten, Nat.reduceAdd, Nat.reduceMul, Nat.reduceSub, PV.mapId, mapIds, Option.map, Blk.mapId, sigN, sigS, hlt]
      try conv => arg 3; simp only [Nat.reduceLT, List.reduceReplicate, List.flatten_cons, List.flatten_nil, List.append_nil, Nat.reduceMul, Nat.mul_one, Nat.one_mul, Nat.zero_mul, Nat.zero_add, List.drop_zero, List.drop_succ_cons, List.drop_nil, List.take_succ_cons, List.take_zero, List.take_nil, List.drop_drop, setRange, PV.cells, valT, List.getD_cons_zero, List.getD_cons_succ, List.take, List.length, Nat.reduceAdd, List.nil_append, applyU, hset, hdel, Nat.reduceEqDiff, reduceIte, List.append_eq, List.cons_append, List.nil_append, frz, rowsOf, updsNew, updsAt, sigN, sigS, PV.mapId, mapIds, Option.map, Blk.mapId, List.drop, heapOf, hlt]
      conv => arg 5; simp only [stride, Nat.reduceAdd]
      refine EVgo9 (And.intro (szB) ( And.intro (e1) ( And.intro (w1) (w2)))) (hgb) (h29) trivial trivial trivial trivial trivial trivial trivial trivial trivial ?_
      exact EVret trivial
    | false =>
      have hgb := hg b
      rw [hpb] at hgb
      have hw : IntKind.i64.wrap ((q.length : Int) + 1) = ((q.length + 1 : Nat) : Int) := by rw [i64_in _ (by omega)]; simp
      have hih := ih (q ++ [b]) (by rw [List.append_assoc]; exact hq) (all_snoc hp hpb)
      rw [snoc_lenB] at hih
      conv => arg 3; simp only [mkT, putT, List.reduceReplicate, List.set]
      refine EVgo9 (hlt) trivial trivial trivial trivial trivial trivial trivial trivial trivial trivial trivial ?_
      first | refine WO.step (k_index rfl rfl h0 hb) ?_ | refine WOc.step (k_index rfl rfl h0 hb) ?_
      conv => arg 2; simp only [setOpt, List.set, Nat.reduceLT, Int.reduceToNat, List.drop_drop, valT, List.getD_cons_zero, List.getD_cons_succ, Int.reduceLT, Int.reduceLE, Int.reduceAdd, Int.reduceSub, Int.reduceMul, Int.reduceNeg, Int.reduceEq, Int.reduceNe, Int.cast_ofNat_Int, Int.natCast_zero, Int.natCast_one, ge_iff_le, gt_iff_lt, decide_true, decide_false, Bool.not_true, Bool.not_false, Int.toNat_natCast, Nat.sub_zero, Nat.mul_one, Option.isSome_some, Option.isSome_none, Bool.false_eq_true, Bool.and_true, Bool.true_and, Bool.and_false, Bool.false_and, Nat.zero_add, Nat.zero_mul, List.drop_zero, reduceIte, setRange, PV.cells, fillB, List.take, List.drop, List.append_eq, List.cons_append, List.nil_append, List.length, List.map, List.zip, List.zipWith, List.replicate, List.flatten, Nat.reduceAdd, Nat.reduceMul, Nat.reduceSub, PV.mapId, mapIds, Option.map, Blk.mapId, sigN, sigS, hlt]
      try conv => arg 3; simp only [Nat.reduceLT, List.reduceReplicate, List.flatten_cons, List.flatten_nil, List.append_nil, Nat.reduceMul, Nat.mul_one, Nat.one_mul, Nat.zero_mul, Nat.zero_add, List.drop_zero, List.drop_succ_cons, List.drop_nil, List.take_succ_cons, List.take_zero, List.take_nil, List.drop_drop, setRange, PV.cells, valT, List.getD_cons_zero, List.getD_cons_succ, List.take, List.length, Nat.reduceAdd, List.nil_append, applyU, hset, hdel, Nat.reduceEqDiff, reduceIte, List.append_eq, List.cons_append, List.nil_append, frz, rowsOf, updsNew, updsAt, sigN, sigS, PV.mapId, mapIds, Option.map, Blk.mapId, List.drop, heapOf, hlt]
      conv => arg 5; simp only [stride, Nat.reduceAdd]
      refine EVgo9 (hw) (hgb) trivial trivial trivial trivial trivial trivial trivial trivial trivial trivial ?_
      exact WC.loop rfl hih
theorem s18 (L : Bs) (i : Int) (hL : L.length ≤ 1000000) : Sp cf 18 [srcE L i] (srcE L (skipN L i : Nat)) := by
  have h24 := s24a hcf L i hL 33 fullP (s33 hcf)
  have h29 := s29 hcf L i
  have hle := inN_le L.length i
  have hs := skipN_le L i
  unfold skipN at hs ⊢
  generalize inN L.length i = a at *
  have w1 : IntKind.i64.wrap ((a : Int) + ((upto fullP (L.drop a)).length : Int)) = ((a + (upto fullP (L.drop a)).length : Nat) : Int) := by rw [i64_in _ (by omega)]; simp
  refine sp_of hcf env18 ?_
  simp only [encC, cutP, srcE, sB] at h24 h29 ⊢
  generalize upto fullP (L.drop a) = u at *
  conv => arg 2; simp only [ir18]
  conv => arg 3; simp only [ir18, Go.Proofs.YtgiapbmeaobjiaaEv.start, List.length, Nat.reduceAdd, Nat.reduceSub, List.reduceReplicate, List.append_eq, List.cons_append, List.nil_append]
  conv => arg 4; simp only [heapOf]
  try conv => arg 5; simp only [List.length, Nat.reduceAdd]
  try conv => arg 6; simp only [List.length, Nat.reduceAdd]
  refine EVgo9 (And.intro (szB) (w1)) (h24) (h29) trivial trivial trivial trivial trivial trivial trivial trivial trivial ?_
  exact EVret trivial
theorem s10 (L : Bs) (i : Int) (hL : L.length ≤ 1000000) : Sp cf 10 [srcE L i] (encC L (wordP L i)) := by
  have h18 := s18 hcf L i hL
  have hs := skipN_le L i
  have h24 := s24a hcf L (skipN L i : Nat) hL 25 emptyP (s25 hcf)
  rw [inN_nat hs] at h24
  refine sp_of hcf env10 ?_
  unfold wordP
  generalize cutP emptyP L (skipN L i) = x at *
  simp only [encC, srcE, sB] at h18 h24 ⊢
  conv => arg 2; simp only [ir10]
  conv => arg 3; simp only [ir10, Go.Proofs.YtgiapbmeaobjiaaEv.start, List.length, Nat.reduceAdd, Nat.reduceSub, List.reduceReplicate, List.append_eq, List.cons_append, List.nil_append]
  conv => arg 4; simp only [heapOf]
  try conv => arg 5; simp only [List.length, Nat.reduceAdd]
  try conv => arg 6; simp only [List.length, Nat.reduceAdd]
  refine EVgo9 trivial (h18) (h24) trivial trivial trivial trivial trivial trivial trivial trivial trivial ?_
  exact EVret trivial
theorem s16 (L : Bs) (i d : Int) (hL : L.length ≤ 1000000) : Sp cf 16 [srcE L i, .int .i64 d] (encC L (parseP L i d)) := by
  refine sp_of hcf env16 ?_
  unfold parseP
  by_cases hd : d = 32
  · have hd' : (d == 32) = true := beq_iff_eq.2 hd
    have h24 := s24a hcf L i hL 25 emptyP (s25 hcf)
    rw [if_pos hd]
    generalize cutP emptyP L (inN L.length i) = x at *
    simp only [encC, srcE, sB] at h24 ⊢
    conv => arg 2; simp only [ir16]
    conv => arg 3; simp only [ir16, Go.Proofs.YtgiapbmeaobjiaaEv.start, List.length, Nat.reduceAdd, Nat.reduceSub, List.reduceReplicate, List.append_eq, List.cons_append, List.nil_append]
    conv => arg 4; simp only [heapOf]
    try conv => arg 5; simp only [List.length, Nat.reduceAdd]
    try conv => arg 6; simp only [List.length, Nat.reduceAdd]
    refine EVgo9 (hd') (h24) trivial trivial trivial trivial trivial trivial trivial trivial trivial trivial ?_
    exact EVret trivial
  · have hd' : (d == 32) = false := beq_eq_false_iff_ne.2 hd
    have h24 := s24b hcf L i hL 30 d (delimP d) (fun b => s30 hcf b d)
    rw [if_neg hd]
    generalize cutP (delimP d) L (inN L.length i) = x at *
    simp only [encC, srcE, sB] at h24 ⊢
    conv => arg 2; simp only [ir16]
    conv => arg 3; simp only [ir16, Go.Proofs.YtgiapbmeaobjiaaEv.start, List.length, Nat.reduceAdd, Nat.reduceSub, List.reduceReplicate, List.append_eq, List.cons_append, List.nil_append]
    conv => arg 4; simp only [heapOf]
    try conv => arg 5; simp only [List.length, Nat.reduceAdd]
    try conv => arg 6; simp only [List.length, Nat.reduceAdd]
    refine EVgo9 (hd') (h24) trivial trivial trivial trivial trivial trivial trivial trivial trivial trivial ?_
    exact EVret trivial
theorem s14 (L : Bs) (i : Int) : Sp cf 14 [srcE L i] (srcE L i) := by
  refine sp_of hcf env14 ?_
  simp only [srcE, sB]
  conv => arg 2; simp only [ir14]
  conv => arg 3; simp only [ir14, Go.Proofs.YtgiapbmeaobjiaaEv.start, List.length, Nat.reduceAdd, Nat.reduceSub, List.reduceReplicate, List.append_eq, List.cons_append, List.nil_append]
  conv => arg 4; simp only [heapOf]
  try conv => arg 5; simp only [List.length, Nat.reduceAdd]
  try conv => arg 6; simp only [List.length, Nat.reduceAdd]
  refine EVgo9 trivial trivial trivial trivial trivial trivial trivial trivial trivial trivial trivial trivial ?_
  exact EVret trivial
end
end Go.Proofs.YtgiapbmeaobjiaaR
