/- Evf08Q: a part of the proof. -/
import Derived.Test.YtcphpiboamlanaaEvf08P
open Go Go.Proofs.YtcphpiboamlanaaEv Go.Proofs.YtcphpiboamlanaaR Go.IntWalk
set_option maxRecDepth 20000
set_option maxHeartbeats 8000000
set_option linter.unusedVariables false
set_option linter.unusedSimpArgs false
namespace Go.Proofs.YtcphpiboamlanaaR
theorem k_bslice_box {cf : CF} {new : Nat} {T : List PV} {H : Heap} {es len : Nat} {zero cs : List PV} {parts : List (Nat × X)} (hp : peekL H (parts.map fun p => valT T p.2) = none) (hl : len * es ≤ 16777216 ∧ 0 < len * es) (hf : fillB ((List.replicate len zero).flatten) ((parts.zip (parts.map fun p => valT T p.2)).map fun p => (p.1.1 * es, es, p.2)) = some cs) : EK cf (.bslice es len zero parts) new T H (.own new es 0 len) [(new, some (.box cs))] := ⟨by
  simp only [evalK, hp]
  rw [if_pos hl, hf]⟩
theorem k_bslice_row {cf : CF} {new : Nat} {T : List PV} {H : Heap} {es len : Nat} {zero cs vs : List PV} {parts : List (Nat × X)} (hp : peekL H (parts.map fun p => valT T p.2) = some vs) (hl : len * es ≤ 16777216) (hf : fillB ((List.replicate len zero).flatten) ((parts.zip vs).map fun p => (p.1.1 * es, es, p.2)) = some cs) (hz : frz H (idsL (parts.map fun p => valT T p.2)) = []) : EK cf (.bslice es len zero parts) new T H (.own new es 0 len) [(new, some (.row cs))] := ⟨by
  simp only [evalK, hp]
  rw [if_pos hl, hf, hz]
  rfl⟩
theorem k_loadb1 {cf : CF} {new : Nat} {T : List PV} {H : Heap} {a : X} {id off : Nat} {cs : List PV} {v : PV} (ha : valT T a = .ptr id off) (hc : hget H id = some (.box cs)) (hv : (cs.drop off).take 1 = [v]) : EK cf (.load false 1 a) new T H v [] := ⟨by
  simp only [evalK, ha, hc, hv]
  rfl⟩
def strRow : List PV := [.str ⟨#[73, 70]⟩, .str ⟨#[69, 76, 83, 69]⟩, .str ⟨#[84, 72, 69, 78]⟩, .str ⟨#[66, 69, 71, 73, 78]⟩, .str ⟨#[65, 71, 65, 73, 78]⟩, .str ⟨#[85, 78, 84, 73, 76]⟩, .str ⟨#[87, 72, 73, 76, 69]⟩, .str ⟨#[82, 69, 80, 69, 65, 84]⟩, .str ⟨#[68, 79]⟩, .str ⟨#[63, 68, 79]⟩, .str ⟨#[76, 79, 79, 80]⟩, .str ⟨#[43, 76, 79, 79, 80]⟩, .str ⟨#[76, 69, 65, 86, 69]⟩]
theorem k_words {cf : CF} {new : Nat} {T : List PV} {H : Heap} : EK cf (.bslice 1 13 [.str ⟨#[]⟩] [(0, (X.c (.str ⟨#[73, 70]⟩))), (1, (X.c (.str ⟨#[69, 76, 83, 69]⟩))), (2, (X.c (.str ⟨#[84, 72, 69, 78]⟩))), (3, (X.c (.str ⟨#[66, 69, 71, 73, 78]⟩))), (4, (X.c (.str ⟨#[65, 71, 65, 73, 78]⟩))), (5, (X.c (.str ⟨#[85, 78, 84, 73, 76]⟩))), (6, (X.c (.str ⟨#[87, 72, 73, 76, 69]⟩))), (7, (X.c (.str ⟨#[82, 69, 80, 69, 65, 84]⟩))), (8, (X.c (.str ⟨#[68, 79]⟩))), (9, (X.c (.str ⟨#[63, 68, 79]⟩))), (10, (X.c (.str ⟨#[76, 79, 79, 80]⟩))), (11, (X.c (.str ⟨#[43, 76, 79, 79, 80]⟩))), (12, (X.c (.str ⟨#[76, 69, 65, 86, 69]⟩)))]) new T H (.own new 1 0 13) [(new, some (.row strRow))] :=
  k_bslice_row (vs := strRow) rfl (by decide) rfl rfl
theorem k_fns {cf : CF} {new : Nat} {T : List PV} {H : Heap} (hp : [X.t 10, X.t 12, X.t 14, X.t 16, X.t 18, X.t 20, X.t 22, X.t 24, X.t 26, X.t 28, X.t 30, X.t 32, X.t 34].map (valT T) = fnRow) : EK cf (.bslice 1 13 [.nilfn] [(0, (X.t 10)), (1, (X.t 12)), (2, (X.t 14)), (3, (X.t 16)), (4, (X.t 18)), (5, (X.t 20)), (6, (X.t 22)), (7, (X.t 24)), (8, (X.t 26)), (9, (X.t 28)), (10, (X.t 30)), (11, (X.t 32)), (12, (X.t 34))]) new T H (.own new 1 0 13) [(new, some (.box fnRow))] := by
  have e : ([(0, (X.t 10)), (1, (X.t 12)), (2, (X.t 14)), (3, (X.t 16)), (4, (X.t 18)), (5, (X.t 20)), (6, (X.t 22)), (7, (X.t 24)), (8, (X.t 26)), (9, (X.t 28)), (10, (X.t 30)), (11, (X.t 32)), (12, (X.t 34))] : List (Nat × X)).map (fun p => valT T p.2) = fnRow := hp
  refine k_bslice_box (by rw [e]; rfl) (by decide) ?_
  rw [e]
  rfl
section
variable {cf : CF} (hcf : cf = ev env)
include hcf
theorem s27 (b : Bd) (s : ByteArray) (hs : s.size ≤ 1000000) (k : Nat) (hk : k < 13) (hw : wordK s = k) : cf 27 [.ptr 0 0, .str s] (hB b b.c b.m b.o) = some (.fn (47 + k) [.ptr 0 0] [], hB b b.c b.m b.o) := by
  have h61 := s61 hcf s hs
  have h60 := s60 hcf (upL s.toList) theWords (by simp [theWords])
  rw [show idxS (upL s.toList) theWords 0 = (k : Int) from hw] at h60
  have hf := fnRow_at hk
  have h0 : (k : Int) ≥ 0 := by omega
  have h13 : (k : Int) < 13 := by omega
  simp only [theWords, List.map, List.length, sB, Nat.reduceAdd] at h60
  refine ev_ofC' hcf env27 ?_
  simp only [hB] at ⊢
  conv => arg 2; simp only [ir27]
  conv => arg 3; simp only [ir27, Go.Proofs.YtcphpiboamlanaaEv.start, List.length, Nat.reduceAdd, Nat.reduceSub, List.reduceReplicate, List.append_eq, List.cons_append, List.nil_append]
  conv => arg 4; simp only [heapOf]
  try conv => arg 5; simp only [List.length, Nat.reduceAdd]
  try conv => arg 6; simp only [List.length, Nat.reduceAdd]
  refine EVgo9 (h0) (h61) (h60) trivial trivial trivial trivial trivial trivial trivial (@k_words cf) (@k_fns cf) ?_
  first | refine WO.step (k_loadb1 rfl rfl hf) ?_ | refine WOc.step (k_loadb1 rfl rfl hf) ?_
  conv => arg 2; simp only [setOpt, List.set, Nat.reduceLT, Int.reduceToNat, List.drop_drop, valT, List.getD_cons_zero, List.getD_cons_succ, Int.reduceLT, Int.reduceLE, Int.reduceAdd, Int.reduceSub, Int.reduceMul, Int.reduceNeg, Int.reduceEq, Int.reduceNe, Int.cast_ofNat_Int, Int.natCast_zero, Int.natCast_one, ge_iff_le, gt_iff_lt, decide_true, decide_false, Bool.not_true, Bool.not_false, Int.toNat_natCast, Nat.sub_zero, Nat.mul_one, Option.isSome_some, Option.isSome_none, Bool.false_eq_true, Bool.and_true, Bool.true_and, Bool.and_false, Bool.false_and, Nat.zero_add, Nat.zero_mul, List.drop_zero, reduceIte, setRange, PV.cells, fillB, List.take, List.drop, List.append_eq, List.cons_append, List.nil_append, List.length, List.map, List.zip, List.zipWith, List.replicate, List.flatten, Nat.reduceAdd, Nat.reduceMul, Nat.reduceSub, PV.mapId, mapIds, Option.map, Blk.mapId, sigN, sigS, h0]
  try conv => arg 3; simp only [Nat.reduceLT, List.reduceReplicate, List.flatten_cons, List.flatten_nil, List.append_nil, Nat.reduceMul, Nat.mul_one, Nat.one_mul, Nat.zero_mul, Nat.zero_add, List.drop_zero, List.drop_succ_cons, List.drop_nil, List.take_succ_cons, List.take_zero, List.take_nil, List.drop_drop, setRange, PV.cells, valT, List.getD_cons_zero, List.getD_cons_succ, List.take, List.length, Nat.reduceAdd, List.nil_append, applyU, hset, hdel, Nat.reduceEqDiff, reduceIte, List.append_eq, List.cons_append, List.nil_append, frz, rowsOf, updsNew, updsAt, sigN, sigS, PV.mapId, mapIds, Option.map, Blk.mapId, List.drop, heapOf, h0]
  conv => arg 5; simp only [stride, Nat.reduceAdd]
  refine EVgo9 trivial trivial trivial trivial trivial trivial trivial trivial trivial trivial trivial trivial ?_
  exact WQ.ret rfl
theorem s27n (b : Bd) (s : ByteArray) (hs : s.size ≤ 1000000) (hw : wordK s = -1) : cf 27 [.ptr 0 0, .str s] (hB b b.c b.m b.o) = some (.nilfn, hB b b.c b.m b.o) := by
  have h61 := s61 hcf s hs
  have h60 := s60 hcf (upL s.toList) theWords (by simp [theWords])
  rw [show idxS (upL s.toList) theWords 0 = -1 from hw] at h60
  simp only [theWords, List.map, List.length, sB, Nat.reduceAdd] at h60
  refine ev_ofC' hcf env27 ?_
  simp only [hB] at ⊢
  conv => arg 2; simp only [ir27]
  conv => arg 3; simp only [ir27, Go.Proofs.YtcphpiboamlanaaEv.start, List.length, Nat.reduceAdd, Nat.reduceSub, List.reduceReplicate, List.append_eq, List.cons_append, List.nil_append]
  conv => arg 4; simp only [heapOf]
  try conv => arg 5; simp only [List.length, Nat.reduceAdd]
  try conv => arg 6; simp only [List.length, Nat.reduceAdd]
  refine EVgo9 trivial (h61) (h60) trivial trivial trivial trivial trivial trivial trivial (@k_words cf) (@k_fns cf) ?_
  exact WQ.ret rfl
end
end Go.Proofs.YtcphpiboamlanaaR
