/- Evf06B1: a part of the proof. -/
import Derived.Test.YtgiapbmeaobjiaaEvf06A1
import Derived.Test.YtgiapbmeaobjiaaEv5
import Derived.IntWalk
open Go Go.Proofs.YtgiapbmeaobjiaaEv Go.Proofs.YtgiapbmeaobjiaaR Go.IntWalk Go.RowKit Go.Proofs
set_option maxRecDepth 20000
set_option maxHeartbeats 8000000
set_option linter.unusedVariables false
set_option linter.unusedSimpArgs false
namespace Go.Proofs.YtgiapbmeaobjiaaR
theorem idx_lt {s : ByteArray} (h : 0 ≤ Lib.indexByte s.data.toList 10) : ∃ i : Nat, Lib.indexByte s.data.toList 10 = i ∧ i < s.size := by
  obtain ⟨i, hi⟩ := Int.eq_ofNat_of_zero_le h
  refine ⟨i, hi, ?_⟩
  have := (Lib.indexByte_some hi).1
  have l : i < s.data.toList.length := by
    rcases Nat.lt_or_ge i s.data.toList.length with q | q
    · exact q
    · rw [List.getElem?_eq_none q] at this; cases this
  simpa using l
section
variable {cf : CF} (hcf : cf = ev env1)
include hcf
theorem c36 (s : ByteArray) (hs : s.size ≤ 1000000000) : cf 36 [.str s, .str ⟨#[10]⟩] [] = some (.tup [.str (cutB s).1, .str (cutB s).2.1, .bool (cutB s).2.2], []) := by
  have h37 : cf 37 [.str s, .str ⟨#[10]⟩] [] = some (.int .i64 (Lib.indexByte s.data.toList 10), []) := by
    subst hcf
    exact ev_prim env1_37 _ _ rfl
  refine ev_ofC' hcf env1_36 ?_
  unfold cutB
  by_cases h : 0 ≤ Lib.indexByte s.data.toList 10
  · obtain ⟨i, hi, hl⟩ := idx_lt h
    rw [if_pos h]
    rw [hi] at h37 ⊢
    have h' : (i : Int) ≥ 0 := by omega
    have w : IntKind.i64.wrap ((i : Int) + 1) = ((i + 1 : Nat) : Int) := by rw [i64_in _ (by omega)]; simp
    have hz : (((⟨#[10]⟩ : ByteArray).size : Nat) : Int) = 1 := rfl
    simp only [Int.toNat_natCast]
    conv => arg 2; simp only [ir36]
    conv => arg 3; simp only [ir36, Go.Proofs.YtgiapbmeaobjiaaEv.start, List.length, Nat.reduceAdd, Nat.reduceSub, List.reduceReplicate, List.append_eq, List.cons_append, List.nil_append]
    conv => arg 4; simp only [heapOf]
    try conv => arg 5; simp only [List.length, Nat.reduceAdd]
    try conv => arg 6; simp only [List.length, Nat.reduceAdd]
    refine EVgo9 (And.intro (h') ( And.intro (hz) (w))) (h37) trivial trivial trivial trivial trivial trivial trivial trivial trivial trivial ?_
    exact WQ.ret rfl
  · rw [if_neg h]
    have h' : ¬ Lib.indexByte s.data.toList 10 ≥ 0 := h
    conv => arg 2; simp only [ir36]
    conv => arg 3; simp only [ir36, Go.Proofs.YtgiapbmeaobjiaaEv.start, List.length, Nat.reduceAdd, Nat.reduceSub, List.reduceReplicate, List.append_eq, List.cons_append, List.nil_append]
    conv => arg 4; simp only [heapOf]
    try conv => arg 5; simp only [List.length, Nat.reduceAdd]
    try conv => arg 6; simp only [List.length, Nat.reduceAdd]
    refine EVgo9 (h') (h37) trivial trivial trivial trivial trivial trivial trivial trivial trivial trivial ?_
    exact WQ.ret rfl
theorem c35 (s : ByteArray) (hs : s.size ≤ 1000000000) : cf 35 [.str s, .str ⟨#[10]⟩] [] = some (.tup [.str (cutB s).1, .str (cutB s).2.1, .bool (cutB s).2.2], []) := by
  have h36 := c36 hcf s hs
  refine ev_ofC' hcf env1_35 ?_
  generalize cutB s = x at *
  conv => arg 2; simp only [ir35]
  conv => arg 3; simp only [ir35, Go.Proofs.YtgiapbmeaobjiaaEv.start, List.length, Nat.reduceAdd, Nat.reduceSub, List.reduceReplicate, List.append_eq, List.cons_append, List.nil_append]
  conv => arg 4; simp only [heapOf]
  try conv => arg 5; simp only [List.length, Nat.reduceAdd]
  try conv => arg 6; simp only [List.length, Nat.reduceAdd]
  refine EVgo9 trivial (h36) trivial trivial trivial trivial trivial trivial trivial trivial trivial trivial ?_
  exact WQ.ret rfl
end
theorem cut35 (s : ByteArray) (hs : s.size ≤ 1000000000) (w : World) : Calls Try.prog 35 #[.string s, .string ⟨#[10]⟩] w fun e w' => e = .returned (.tuple #[.string (cutB s).1, .string (cutB s).2.1, .bool (cutB s).2.2]) ∧ Below w.heap.size w w' := by
  have h := (ev_sound env1Ok 35 _ _ _ _ (c35 rfl s hs)).2
  refine (calls_plain h (.cons (.str s) (.cons (.str _) .nil))).mono ?_
  rintro e w' ⟨v, O', F', rfl, hb, hv⟩
  refine ⟨?_, hb⟩
  cases hv with
  | tup h =>
    cases h with
    | cons a t =>
      cases t with
      | cons b t =>
        cases t with
        | cons c t =>
          cases t
          rw [vr_str a, vr_str b, vr_bool c]
/-- the lines of a text, at most so many -/
def pieces : Nat → ByteArray → List ByteArray
  | 0, s => [(cutB s).1]
  | n + 1, s => (cutB s).1 :: (if (cutB s).2.2 = true then pieces n (cutB s).2.1 else [])
theorem cutB_lt {s : ByteArray} (h : (cutB s).2.2 = true) : (cutB s).2.1.size < s.size := by
  unfold cutB at h ⊢
  by_cases q : 0 ≤ Lib.indexByte s.data.toList 10
  · obtain ⟨i, hi, hl⟩ := idx_lt q
    rw [if_pos q, hi, Int.toNat_natCast]
    simp only [ByteArray.size_extract]
    omega
  · rw [if_neg q] at h
    cases h
theorem cutB_le (s : ByteArray) : (cutB s).2.1.size ≤ s.size := by
  unfold cutB
  split
  · simp only [ByteArray.size_extract]; omega
  · exact Nat.zero_le _
end Go.Proofs.YtgiapbmeaobjiaaR
