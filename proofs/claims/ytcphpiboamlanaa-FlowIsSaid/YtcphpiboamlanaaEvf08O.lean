/- Evf08O: a part of the proof. -/
import Derived.Test.YtcphpiboamlanaaEvf08N
open Go Go.Proofs.YtcphpiboamlanaaEv Go.Proofs.YtcphpiboamlanaaR Go.IntWalk
set_option maxRecDepth 20000
set_option maxHeartbeats 8000000
set_option linter.unusedVariables false
set_option linter.unusedSimpArgs false
namespace Go.Proofs.YtcphpiboamlanaaR
def fB (b : UInt8) : PV := .int .u8 b.toNat
def up8 (b : UInt8) : UInt8 := UInt8.ofNat (capN b.toNat)
def upL (l : List UInt8) : List UInt8 := l.map up8
theorem capN_lt {b : Nat} (h : b < 256) : capN b < 256 := by unfold capN; split <;> omega
theorem up8_nat (b : UInt8) : (up8 b).toNat = capN b.toNat := by
  unfold up8
  rw [UInt8.toNat_ofNat']
  exact Nat.mod_eq_of_lt (capN_lt b.toNat_lt)
theorem bytesOf_map : ∀ l : List UInt8, bytesOf (l.map fun b => PV.int .u8 b.toNat) = some l
  | [] => rfl
  | b :: l => by rw [List.map_cons]; simp only [bytesOf, bytesOf_map l]; simp
theorem b2sM {T : List PV} {H : Heap} {new : Nat} {cf : CF} {x : X} {id n : Nat} {l : List UInt8} (hx : valT T x = .own id 1 0 n) (hc : hget H id = some (.row (l.map fun b => PV.int .u8 b.toNat))) (hn : l.length = n) : EK cf (.b2s x) new T H (.str ⟨l.toArray⟩) [] :=
  k_b2s hx (by intro s h; cases h) (n := n) (cs := l.map fun b => PV.int .u8 b.toNat) (by
    show srcOf H (.own id 1 0 n) = _
    simp only [srcOf, hc, Nat.mul_one, Nat.zero_add, List.drop_zero, List.length_map, hn, Nat.le_refl, if_true]
    rw [List.take_of_length_le (by simp [hn])]) (by simpa using hn) (bytesOf_map _)
theorem row_set {α : Type} (f : α → PV) (A B : List α) (x y : α) {n : Nat} (h : A.length = n) : ((A ++ x :: B).map f).take n ++ [f y] ++ ((A ++ x :: B).map f).drop (n + 1) = (A ++ y :: B).map f := by
  subst h
  have e1 : ((A ++ x :: B).map f).take A.length = A.map f := by rw [List.map_append]; exact List.take_left' (by simp)
  have e2 : ((A ++ x :: B).map f).drop (A.length + 1) = B.map f := by
    rw [show A ++ x :: B = (A ++ [x]) ++ B by simp, List.map_append]
    exact List.drop_left' (by simp)
  rw [e1, e2]
  simp
section
variable {cf : CF} (hcf : cf = ev env)
include hcf
theorem s61 (s : ByteArray) (hs : s.size ≤ 1000000) : Sp cf 61 [.str s] (.str ⟨(upL s.toList).toArray⟩) := by
  have ls : s.toList.length = s.size := by rw [ByteArray.toList_eq]; rfl
  refine sp_of hcf env61 ?_
  conv => arg 2; simp only [ir61]
  conv => arg 3; simp only [ir61, Go.Proofs.YtcphpiboamlanaaEv.start, List.length, Nat.reduceAdd, Nat.reduceSub, List.reduceReplicate, List.append_eq, List.cons_append, List.nil_append]
  conv => arg 4; simp only [heapOf]
  try conv => arg 5; simp only [List.length, Nat.reduceAdd]
  try conv => arg 6; simp only [List.length, Nat.reduceAdd]
  refine EVgo9 trivial trivial trivial trivial trivial trivial trivial trivial trivial trivial trivial trivial ?_
  refine WC.loop (T' := _) (H' := _) (n' := _) rfl ((?_ : ∀ (k i : Nat) (P : List UInt8), i + k = s.size → P.length = s.size → P = upL (s.toList.take i) ++ s.toList.drop i →
    WC cf _ (mkT 23 [(3, .own 0 1 0 s.size), (8, .own 0 1 0 s.size), (9, .int .i64 (s.size : Nat)), (10, .int .i64 (i : Nat))]) [(0, .row (P.map fun b => .int .u8 b.toNat))] 0 1 _) s.size 0 s.toList (by omega) ls rfl)
  intro k
  induction k with
  | zero =>
    intro i P hi hP hx
    obtain rfl : i = s.size := by omega
    rw [← ls, List.take_length, List.drop_length, List.append_nil] at hx
    rw [hx] at hP ⊢
    conv => arg 3; simp only [mkT, putT, List.reduceReplicate, List.set]
    refine EVgl9 trivial trivial trivial trivial trivial trivial trivial trivial trivial trivial trivial trivial ?_
    first | refine WO.step (b2sM rfl rfl hP) ?_ | refine WOc.step (b2sM rfl rfl hP) ?_
    conv => arg 2; simp only [setOpt, List.set, Nat.reduceLT, Int.reduceToNat, List.drop_drop, valT, List.getD_cons_zero, List.getD_cons_succ, Int.reduceLT, Int.reduceLE, Int.reduceAdd, Int.reduceSub, Int.reduceMul, Int.reduceNeg, Int.reduceEq, Int.reduceNe, Int.cast_ofNat_Int, Int.natCast_zero, Int.natCast_one, ge_iff_le, gt_iff_lt, decide_true, decide_false, Bool.not_true, Bool.not_false, Int.toNat_natCast, Nat.sub_zero, Nat.mul_one, Option.isSome_some, Option.isSome_none, Bool.false_eq_true, Bool.and_true, Bool.true_and, Bool.and_false, Bool.false_and, Nat.zero_add, Nat.zero_mul, List.drop_zero, reduceIte, setRange, PV.cells, fillB, List.take, List.drop, List.append_eq, List.cons_append, List.nil_append, List.length, List.map, List.zip, List.zipWith, List.replicate, List.flatten, Nat.reduceAdd, Nat.reduceMul, Nat.reduceSub, PV.mapId, mapIds, Option.map, Blk.mapId, sigN, sigS, Int.lt_irrefl]
    try conv => arg 3; simp only [Nat.reduceLT, List.reduceReplicate, List.flatten_cons, List.flatten_nil, List.append_nil, Nat.reduceMul, Nat.mul_one, Nat.one_mul, Nat.zero_mul, Nat.zero_add, List.drop_zero, List.drop_succ_cons, List.drop_nil, List.take_succ_cons, List.take_zero, List.take_nil, List.drop_drop, setRange, PV.cells, valT, List.getD_cons_zero, List.getD_cons_succ, List.take, List.length, Nat.reduceAdd, List.nil_append, applyU, hset, hdel, Nat.reduceEqDiff, reduceIte, List.append_eq, List.cons_append, List.nil_append, frz, rowsOf, updsNew, updsAt, sigN, sigS, PV.mapId, mapIds, Option.map, Blk.mapId, List.drop, heapOf, Int.lt_irrefl]
    conv => arg 5; simp only [stride, Nat.reduceAdd]
    refine EVgo9 trivial trivial trivial trivial trivial trivial trivial trivial trivial trivial trivial trivial ?_
    exact EVret trivial
  | succ k ih =>
    intro i P hi hP hx
    have hi' : i < s.toList.length := by omega
    have hlt : (i : Int) < (s.size : Int) := by omega
    have hw : IntKind.i64.wrap ((i : Int) + 1) = ((i + 1 : Nat) : Int) := by rw [i64_in _ (by omega)]; simp
    have lu : (upL (s.toList.take i)).length = i := by unfold upL; rw [List.length_map, List.length_take]; omega
    have hPi : P = upL (s.toList.take i) ++ s.toList[i] :: s.toList.drop (i + 1) := by rw [hx, List.drop_eq_getElem_cons hi']
    have e1 : ((P.map fun b => PV.int .u8 b.toNat).drop i).take 1 = [.int .u8 (s.toList[i].toNat : Nat)] := by
      rw [hPi, List.map_append, List.drop_left' (by rw [List.length_map, lu])]
      rfl
    have hnx : upL (s.toList.take i) ++ up8 s.toList[i] :: s.toList.drop (i + 1) = upL (s.toList.take (i + 1)) ++ s.toList.drop (i + 1) := by
      rw [List.take_succ_eq_append_getElem hi']
      unfold upL
      rw [List.map_append, List.append_assoc]
      rfl
    have hst : (P.map fun b => PV.int .u8 b.toNat).take i ++ [PV.int .u8 (capN s.toList[i].toNat : Nat)] ++ (P.map fun b => PV.int .u8 b.toNat).drop (i + 1) = (upL (s.toList.take i) ++ up8 s.toList[i] :: s.toList.drop (i + 1)).map fun b => PV.int .u8 b.toNat := by
      rw [hPi, ← up8_nat]
      exact row_set (fun b : UInt8 => PV.int .u8 b.toNat) _ _ s.toList[i] (up8 s.toList[i]) lu
    have hih := ih (i + 1) _ (by omega) (by simp only [List.length_append, lu, List.length_cons, List.length_drop, ls]; omega) hnx
    conv => arg 3; simp only [mkT, putT, List.reduceReplicate, List.set]
    refine EVgo9 (hlt) trivial trivial trivial trivial trivial trivial trivial trivial trivial trivial trivial ?_
    first | refine WO.step (k_load1 rfl rfl e1) ?_ | refine WOc.step (k_load1 rfl rfl e1) ?_
    conv => arg 2; simp only [setOpt, List.set, Nat.reduceLT, Int.reduceToNat, List.drop_drop, valT, List.getD_cons_zero, List.getD_cons_succ, Int.reduceLT, Int.reduceLE, Int.reduceAdd, Int.reduceSub, Int.reduceMul, Int.reduceNeg, Int.reduceEq, Int.reduceNe, Int.cast_ofNat_Int, Int.natCast_zero, Int.natCast_one, ge_iff_le, gt_iff_lt, decide_true, decide_false, Bool.not_true, Bool.not_false, Int.toNat_natCast, Nat.sub_zero, Nat.mul_one, Option.isSome_some, Option.isSome_none, Bool.false_eq_true, Bool.and_true, Bool.true_and, Bool.and_false, Bool.false_and, Nat.zero_add, Nat.zero_mul, List.drop_zero, reduceIte, setRange, PV.cells, fillB, List.take, List.drop, List.append_eq, List.cons_append, List.nil_append, List.length, List.map, List.zip, List.zipWith, List.replicate, List.flatten, Nat.reduceAdd, Nat.reduceMul, Nat.reduceSub, PV.mapId, mapIds, Option.map, Blk.mapId, sigN, sigS, hlt]
    try conv => arg 3; simp only [Nat.reduceLT, List.reduceReplicate, List.flatten_cons, List.flatten_nil, List.append_nil, Nat.reduceMul, Nat.mul_one, Nat.one_mul, Nat.zero_mul, Nat.zero_add, List.drop_zero, List.drop_succ_cons, List.drop_nil, List.take_succ_cons, List.take_zero, List.take_nil, List.drop_drop, setRange, PV.cells, valT, List.getD_cons_zero, List.getD_cons_succ, List.take, List.length, Nat.reduceAdd, List.nil_append, applyU, hset, hdel, Nat.reduceEqDiff, reduceIte, List.append_eq, List.cons_append, List.nil_append, frz, rowsOf, updsNew, updsAt, sigN, sigS, PV.mapId, mapIds, Option.map, Blk.mapId, List.drop, heapOf, hlt]
    conv => arg 5; simp only [stride, Nat.reduceAdd]
    refine EVgo9 trivial (s77 hcf s.toList[i].toNat s.toList[i].toNat_lt) trivial trivial trivial trivial trivial trivial trivial trivial trivial trivial ?_
    first | refine WO.step (k_store_row rfl rfl rfl rfl (by rw [List.length_map, hP]; omega) rfl) ?_ | refine WOc.step (k_store_row rfl rfl rfl rfl (by rw [List.length_map, hP]; omega) rfl) ?_
    conv => arg 2; simp only [setOpt, List.set, Nat.reduceLT, Int.reduceToNat, List.drop_drop, valT, List.getD_cons_zero, List.getD_cons_succ, Int.reduceLT, Int.reduceLE, Int.reduceAdd, Int.reduceSub, Int.reduceMul, Int.reduceNeg, Int.reduceEq, Int.reduceNe, Int.cast_ofNat_Int, Int.natCast_zero, Int.natCast_one, ge_iff_le, gt_iff_lt, decide_true, decide_false, Bool.not_true, Bool.not_false, Int.toNat_natCast, Nat.sub_zero, Nat.mul_one, Option.isSome_some, Option.isSome_none, Bool.false_eq_true, Bool.and_true, Bool.true_and, Bool.and_false, Bool.false_and, Nat.zero_add, Nat.zero_mul, List.drop_zero, reduceIte, setRange, PV.cells, fillB, List.take, List.drop, List.append_eq, List.cons_append, List.nil_append, List.length, List.map, List.zip, List.zipWith, List.replicate, List.flatten, Nat.reduceAdd, Nat.reduceMul, Nat.reduceSub, PV.mapId, mapIds, Option.map, Blk.mapId, sigN, sigS, hst]
    try conv => arg 3; simp only [Nat.reduceLT, List.reduceReplicate, List.flatten_cons, List.flatten_nil, List.append_nil, Nat.reduceMul, Nat.mul_one, Nat.one_mul, Nat.zero_mul, Nat.zero_add, List.drop_zero, List.drop_succ_cons, List.drop_nil, List.take_succ_cons, List.take_zero, List.take_nil, List.drop_drop, setRange, PV.cells, valT, List.getD_cons_zero, List.getD_cons_succ, List.take, List.length, Nat.reduceAdd, List.nil_append, applyU, hset, hdel, Nat.reduceEqDiff, reduceIte, List.append_eq, List.cons_append, List.nil_append, frz, rowsOf, updsNew, updsAt, sigN, sigS, PV.mapId, mapIds, Option.map, Blk.mapId, List.drop, heapOf, hst]
    conv => arg 5; simp only [stride, Nat.reduceAdd]
    refine EVgo9 (hw) trivial trivial trivial trivial trivial trivial trivial trivial trivial trivial trivial ?_
    exact WC.loop rfl hih
end
end Go.Proofs.YtcphpiboamlanaaR
