/- Evs23H: a part of the proof. -/
import Derived.Test.YthmfjkakpefkeaaEvs23E
import Derived.Test.YthmfjkakpefkeaaEvs23B
import Derived.Test.YthmfjkakpefkeaaEvs23G
import Derived.Test.YthmfjkakpefkeaaEvs23F
import Derived.Test.YthmfjkakpefkeaaEvs23J
import Derived.Test.YthmfjkakpefkeaaEv3
open Go Go.Proofs.YthmfjkakpefkeaaEv Go.Proofs.YthmfjkakpefkeaaR Go.IntWalk
set_option maxRecDepth 20000
set_option maxHeartbeats 8000000
set_option linter.unusedVariables false
set_option linter.unusedSimpArgs false
namespace Go.Proofs.YthmfjkakpefkeaaR
def ownS (m : Scr) : PV := .agg [.str m.text, .sl m.objs.length false (((flat encO m.objs).drop 0).take (m.objs.length * 3)), .sl m.tasks.length false (((flat encT m.tasks).drop 0).take (m.tasks.length * 2)), .int .i64 m.slice, .sl m.choices.length false (((flat encC m.choices).drop 0).take (m.choices.length * 3))]
theorem own_in (m : Scr) : inS false false false m = ownS m := by
  unfold ownS inS
  simp only [List.drop_zero]
  rw [List.take_of_length_le (by rw [lenO]; omega), List.take_of_length_le (by rw [lenT]; omega), List.take_of_length_le (by rw [lenC]; omega)]
def ownB (l : List UInt8) : PV := .sl l.length false (((flat encB l).drop 0).take (l.length * 1))
theorem ownB_in (l : List UInt8) : PV.sl l.length false (flat encB l) = ownB l := by
  unfold ownB
  rw [List.drop_zero, List.take_of_length_le (by rw [lenB]; omega)]
section
variable {cf : CF} (hcf : cf = ev env)
include hcf
theorem s5 (l : List UInt8) (t : Bool) (b : UInt8) : cf 5 [.sl l.length t (flat encB l), .int .u8 b.toNat] [] = some (.bool true, []) := by
  refine ev_ofC' hcf env5 ?_
  conv => arg 2; simp only [ir5]
  conv => arg 3; simp only [ir5, Go.Proofs.YthmfjkakpefkeaaEv.start, List.length, Nat.reduceAdd, Nat.reduceSub, List.reduceReplicate, List.append_eq, List.cons_append, List.nil_append]
  conv => arg 4; simp only [heapOf]
  try conv => arg 5; simp only [List.length, Nat.reduceAdd]
  try conv => arg 6; simp only [List.length, Nat.reduceAdd]
  refine EVgo2 trivial (s6 hcf) trivial trivial trivial ?_
  by_cases hl : (l.length : Int) > 5000
  · refine EVgo2 (hl) trivial trivial trivial trivial ?_
    exact WQ.ret rfl
  have hs := get_sane l
  have hn := get_slice l
  have hS := (sane_iff _).1 hs
  have hS1 := hS.objs
  have hS2 := hS.tasks
  have hS3 := hS.choices
  have h11 := s11 hcf false false false (get l) hs
  have h8 := s8 hcf false false false (get l)
  rw [hs] at h8
  have h14 := s14 hcf false false false (get l) (by omega) (by omega) (by omega)
  have h15 := s15 hcf (putB (get l)) false
  have hg := get_put (get l) [] hs hn
  have h13 := s13 hcf false false false false false false (get l) (by omega) (by omega) (by omega)
  rw [List.append_nil, List.map_nil, List.append_nil, List.take_of_length_le (by omega)] at hg
  rw [hg] at h15
  rw [own_in] at h11 h8 h14 h13
  rw [ownB_in] at h15
  refine EVgo9 (hl) (s15 hcf l t) (h11) (h8) (h14) (h15) (h13) trivial trivial trivial trivial trivial ?_
  generalize hp : putB (get l) = p
  have hpl : p.length ≤ 8000 := by
    have h1 := pO_len (get l).objs
    have h2 := pT_len strLen (get l).tasks (fun o ho => ((mayT_iff o).1 (hS.t o ho)).1)
    have h3 := strLen (get l).text
    have h4 := hS.text
    rw [← hp]
    simp only [putB, List.length_cons, List.length_append, List.length_map]
    omega
  have hq : ((List.drop 0 (flat encB p)).take (p.length * 1)).length = p.length * 1 := by rw [List.drop_zero, List.length_take, lenB]; omega
  have hqs := get_put (get l) [b] hs hn
  rw [hp] at hqs
  have h15' := s15 hcf (p ++ [b]) false
  rw [ownB_in, hqs] at h15'
  have hl2 : (p ++ [b]).length = p.length + 1 := by simp
  unfold ownB at h15'
  rw [hl2] at h15'
  first | refine WO.step (k_append_own rfl rfl rfl hq (by simp only [mostLen]; omega) (by decide)) ?_ | refine WOc.step (k_append_own rfl rfl rfl hq (by simp only [mostLen]; omega) (by decide)) ?_
  conv => arg 2; simp only [setOpt, List.set, Nat.reduceLT, List.drop_drop, valT, List.getD_cons_zero, List.getD_cons_succ, Int.reduceLT, Int.reduceLE, Int.reduceAdd, Int.reduceSub, Int.reduceMul, Int.reduceNeg, Int.reduceEq, Int.reduceNe, Int.cast_ofNat_Int, Int.natCast_zero, Int.natCast_one, ge_iff_le, gt_iff_lt, decide_true, decide_false, Bool.not_true, Bool.not_false, Int.toNat_natCast, Nat.sub_zero, Nat.mul_one, Option.isSome_some, Option.isSome_none, Bool.false_eq_true, Bool.and_true, Bool.true_and, Bool.and_false, Bool.false_and, Nat.zero_add, Nat.zero_mul, List.drop_zero, reduceIte, setRange, PV.cells, fillB, List.take, List.drop, List.append_eq, List.cons_append, List.nil_append, List.length, List.map, List.zip, List.zipWith, List.replicate, List.flatten, Nat.reduceAdd, Nat.reduceMul, Nat.reduceSub, PV.mapId, mapIds, Option.map, Blk.mapId, sigN, sigS, lenB, List.take_of_length_le, Nat.le_refl]
  try conv => arg 3; simp only [Nat.reduceLT, List.reduceReplicate, List.flatten_cons, List.flatten_nil, List.append_nil, Nat.reduceMul, Nat.mul_one, Nat.one_mul, Nat.zero_mul, Nat.zero_add, List.drop_zero, List.drop_succ_cons, List.drop_nil, List.take_succ_cons, List.take_zero, List.take_nil, List.drop_drop, setRange, PV.cells, valT, List.getD_cons_zero, List.getD_cons_succ, List.take, List.length, Nat.reduceAdd, List.nil_append, applyU, hset, hdel, Nat.reduceEqDiff, reduceIte, List.append_eq, List.cons_append, List.nil_append, frz, rowsOf, updsNew, updsAt, sigN, sigS, PV.mapId, mapIds, Option.map, Blk.mapId, List.drop, heapOf, lenB, List.take_of_length_le, Nat.le_refl]
  conv => arg 5; simp only [stride, Nat.reduceAdd]
  refine EVgl2 (And.intro (lenB) (snoc)) (h15') trivial trivial trivial ?_
  generalize hm : get l = m at hg hn hS hS1 hS2 hS3
  have hc5 := hS3
  by_cases h4 : 4000 ≤ (m.choices.length : Int)
  · refine EVgl2 (h4) trivial trivial trivial trivial ?_
    exact WQ.ret rfl
  · have ht : (m.choices ++ [choice b]).take 4000 = m.choices ++ [choice b] := List.take_of_length_le (by simp; omega)
    have hw : IntKind.i64.wrap ((m.choices.length : Int) + 1) = ((m.choices.length + 1 : Nat) : Int) := by rw [i64_in _ (by omega)]; simp
    have hlt : (m.choices.length : Int) < ((m.choices.length + 1 : Nat) : Int) := by omega
    have hat : List.take 1 (List.drop (m.choices.length * 3 + 1) (flat encC (List.take 4000 (m.choices ++ List.map choice [b])))) = [.int .i64 (choice b).2.1] := by
      rw [show List.map choice [b] = [choice b] from rfl, ht]
      rw [flat_append, ← List.drop_drop, ← lenC m.choices, List.drop_left]
      rfl
    have hv : IntKind.i64.wrap (IntKind.u8.wrap ((b.toNat : Int).tdiv 4)) = (choice b).2.1 := by
      have e : ∀ k : Fin 256, IntKind.i64.wrap (IntKind.u8.wrap ((k.val : Int).tdiv 4)) = ((k.val / 4 : Nat) : Int) := by decide +kernel
      exact e ⟨b.toNat, b.toNat_lt⟩
    refine EVgl2 (And.intro (h4) ( And.intro (ht) ( And.intro (hw) ( And.intro (hlt) (hv))))) trivial trivial trivial trivial ?_
    first | refine WO.step (k_load1 rfl rfl hat) ?_ | refine WOc.step (k_load1 rfl rfl hat) ?_
    conv => arg 2; simp only [setOpt, List.set, Nat.reduceLT, List.drop_drop, valT, List.getD_cons_zero, List.getD_cons_succ, Int.reduceLT, Int.reduceLE, Int.reduceAdd, Int.reduceSub, Int.reduceMul, Int.reduceNeg, Int.reduceEq, Int.reduceNe, Int.cast_ofNat_Int, Int.natCast_zero, Int.natCast_one, ge_iff_le, gt_iff_lt, decide_true, decide_false, Bool.not_true, Bool.not_false, Int.toNat_natCast, Nat.sub_zero, Nat.mul_one, Option.isSome_some, Option.isSome_none, Bool.false_eq_true, Bool.and_true, Bool.true_and, Bool.and_false, Bool.false_and, Nat.zero_add, Nat.zero_mul, List.drop_zero, reduceIte, setRange, PV.cells, fillB, List.take, List.drop, List.append_eq, List.cons_append, List.nil_append, List.length, List.map, List.zip, List.zipWith, List.replicate, List.flatten, Nat.reduceAdd, Nat.reduceMul, Nat.reduceSub, PV.mapId, mapIds, Option.map, Blk.mapId, sigN, sigS]
    try conv => arg 3; simp only [Nat.reduceLT, List.reduceReplicate, List.flatten_cons, List.flatten_nil, List.append_nil, Nat.reduceMul, Nat.mul_one, Nat.one_mul, Nat.zero_mul, Nat.zero_add, List.drop_zero, List.drop_succ_cons, List.drop_nil, List.take_succ_cons, List.take_zero, List.take_nil, List.drop_drop, setRange, PV.cells, valT, List.getD_cons_zero, List.getD_cons_succ, List.take, List.length, Nat.reduceAdd, List.nil_append, applyU, hset, hdel, Nat.reduceEqDiff, reduceIte, List.append_eq, List.cons_append, List.nil_append, frz, rowsOf, updsNew, updsAt, sigN, sigS, PV.mapId, mapIds, Option.map, Blk.mapId, List.drop, heapOf]
    conv => arg 5; simp only [stride, Nat.reduceAdd]
    refine EVgl2 (And.intro (h4) ( And.intro (ht) ( And.intro (hw) ( And.intro (hlt) (hv))))) trivial trivial trivial trivial ?_
    exact WQ.ret rfl
end
end Go.Proofs.YthmfjkakpefkeaaR
