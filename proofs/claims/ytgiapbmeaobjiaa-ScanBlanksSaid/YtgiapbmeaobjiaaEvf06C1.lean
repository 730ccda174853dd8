/- Evf06C1: a part of the proof. -/
import Derived.Test.YtgiapbmeaobjiaaEvf06B1
import Derived.RangeFuncNested
import Derived.RangeFuncBound
import Derived.RangeFuncCalls
import Derived.RangeFuncLeaves
import Derived.RangeFuncBox
import Derived.Shelf.Abstract
import Derived.WalkKit
import Derived.OwnWalkIn
import Derived.TacticsInMore
import Derived.LoopNIn
import Derived.LoopIn
import Derived.Maps.AppendAt
open Go Go.Proofs.YtgiapbmeaobjiaaEv Go.Proofs.YtgiapbmeaobjiaaR Go.RowKit Go.Shelf Go.Proofs
attribute [local go_sem] Oper.semAt_some
set_option linter.unusedVariables false
set_option linter.unusedSimpArgs false
namespace Go.Proofs.YtgiapbmeaobjiaaR
theorem below_grown {w w' : World} (h : Below w.heap.size w w') : w.grownBy w' none := ⟨h.os, h.tape, h.output, h.size, fun k hk _ => h.block k hk⟩
theorem boxed_keep {W W' : World} {B : Nat} {t : TypeId} {v : Value} (h : Boxed W B t v) (hb : W'.heap[B]? = W.heap[B]?) : Boxed W' B t v := hb.trans h
def strLen (w : World) (B : Nat) : Nat := match w.cell? ⟨B, 0, none⟩ with | some (.string s) => s.size | _ => 0
theorem strLen_box {w : World} {B : Nat} {s : ByteArray} (h : Boxed w B 9 (.string s)) : strLen w B = s.size := by unfold strLen; rw [h.cell]
set_option maxRecDepth 100000 in
set_option maxHeartbeats 4000000 in
theorem split_gives (F : Fence) (hfn : ∀ k, F.fn k) (hro : F.round = none) (n : Nat) (hn : 2 ≤ n) (hC : ∀ (cur : ByteArray) (W : World), cur.size ≤ 1000000000 → CallsIn F (n - 1) Try.prog 35 #[.string cur, .string ⟨#[10]⟩] W fun e w' => e = .returned (.tuple #[.string (cutB cur).1, .string (cutB cur).2.1, .bool (cutB cur).2.2]) ∧ Below W.heap.size W w') (Bs : Nat) (s : ByteArray) (hs : s.size ≤ 1000000000) (w : World) (hBs : Boxed w Bs 9 (.string s)) :
    Gives F n Try.prog 34 #[.pointer (some ⟨Bs, 0, none⟩)] (fun x : ByteArray => #[.string x]) Bs (fun b => b = Bs) (fun xs => xs = pieces s.size s) (s.size + 1) w := by
  intro l J W hW hsz hJ hY h0
  have hF35 := hfn 35
  have hF34 := hfn 34
  have h1n : 1 ≤ n := by omega
  have h1n1 : 1 ≤ n - 1 := by omega
  have hbW : Boxed W Bs 9 (.string s) := boxed_keep hBs (hW Bs rfl)
  refine callsIn_of_wp Try.func34 rfl (hfn _) ?_ hro
  simp only [Try.ntmps34, List.size_toArray, List.length_cons, List.length_nil, Nat.reduceAdd, Nat.reduceSub, Array.replicate_succ, Array.replicate_zero, List.push_toArray, List.append_toArray, List.nil_append, List.cons_append]
  gi_wp2
  gi_loopw [] (fun wr => ∃ (pre : List ByteArray) (cur : ByteArray) (k : Nat), J pre wr ∧ Boxed wr Bs 9 (.string cur) ∧ pieces s.size s = pre ++ pieces k cur ∧ cur.size ≤ k ∧ pre.length + k ≤ s.size) (fun wr => strLen wr Bs)
  case atStart => exact ⟨[], s, s.size, h0, hbW, rfl, Nat.le_refl _, by simp⟩
  case round =>
    obtain ⟨pre, cur, k, hJ1, hbx, hpc, hk, hlen⟩ := hrel
    have hcell := hbx.cell
    have hfro := hbx.frozen
    have hcs : cur.size ≤ 1000000000 := by omega
    have hml := strLen_box hbx
    cases hm : (cutB cur).2.2 with
    | true =>
      have hlt := cutB_lt hm
      gi_wp2_with (gi_at_call 35; refine (hC cur _ hcs).mono ?_; rintro e w1 ⟨rfl, hb1⟩; have hJ2 := hJ.grow _ _ _ hJ1 (below_grown hb1); obtain ⟨fn, tmps, assign, body, hy, hR⟩ := hY pre (cutB cur).1 w1 hJ2 (by omega); have hbx1 := boxed_keep hbx (hb1.block Bs hbx.lt))
      refine hR.mono ?_
      rintro e W3 ⟨rfl, hJ3, hk3⟩
      have hbx3 := boxed_keep hbx1 (hk3 Bs rfl)
      have hc3 := hbx3.cell
      have hf3 := hbx3.frozen
      have hb3 := hbx3.set (.string (cutB cur).2.1)
      have hl3 := strLen_box hb3
      gi_wp2
      go_roundw
      case rel =>
        obtain ⟨k, rfl⟩ : ∃ k', k = k' + 1 := ⟨k - 1, by omega⟩
        refine ⟨pre ++ [(cutB cur).1], (cutB cur).2.1, k, hJ.set _ _ _ hJ3, hb3, ?_, by omega, by simp; omega⟩
        rw [hpc, pieces, if_pos hm, List.append_assoc]
        rfl
      case measure =>
        omega
    | false =>
      gi_wp2_with (gi_at_call 35; refine (hC cur _ hcs).mono ?_; rintro e w1 ⟨rfl, hb1⟩; have hJ2 := hJ.grow _ _ _ hJ1 (below_grown hb1); obtain ⟨fn, tmps, assign, body, hy, hR⟩ := hY pre (cutB cur).1 w1 hJ2 (by omega); have hbx1 := boxed_keep hbx (hb1.block Bs hbx.lt))
      refine hR.mono ?_
      rintro e W3 ⟨rfl, hJ3, hk3⟩
      gi_wp2
      refine bodyPost_ret (results_none rfl _ _ _) rfl ?_
      refine ⟨⟨_, rfl⟩, _, rfl, ?_⟩
      have e : pieces k cur = [(cutB cur).1] := by
        cases k with
        | zero => rfl
        | succ k => rw [pieces, if_neg (by rw [hm]; decide)]
      rw [hpc, e]
      exact hJ3
end Go.Proofs.YtgiapbmeaobjiaaR
