/- lin.keyOf, walked by hand. -/
import Derived.Test.YtipnedhclbopdaaDoorEvf22A2
set_option linter.unusedVariables false
set_option linter.unusedSimpArgs false
namespace Go.Proofs.YtipnedhclbopdaaDoorR
open Go Go.Proofs.YtipnedhclbopdaaDoorEv Go.Proofs Go.RowKit
set_option maxHeartbeats 8000000
set_option maxRecDepth 100000
theorem key_SS (b0 o0 c0 b1 o1 c1 : Nat) (ds : List Bool) (hs : List Int) (w : World) (hb0 : b0 < w.heap.size) (hb1 : b1 < w.heap.size)
    (hc0 : ∀ k, k < ds.length → w.cell? ⟨b0, o0 + k, none⟩ = some (.bool (ds.getD k false))) (hc1 : ∀ k, k < hs.length → w.cell? ⟨b1, o1 + k, none⟩ = some (.int .i64 (hs.getD k 0)))
    (hd : ds.length ≤ 1000) (hh : hs.length ≤ 1000) (hw : ∀ x ∈ hs, -9223372036854775808 ≤ x ∧ x ≤ 9223372036854775807) (htab : Lib.TabIs Tryd.prog w "internal/strconv.uint64pow10" .u64 Lib.pow10Tab) :
    Calls Tryd.prog 28 #[.slice (some ⟨b0, o0, none⟩) ds.length c0, .slice (some ⟨b1, o1, none⟩) hs.length c1] w fun e w' => e = .returned (.string ⟨(keyL ds hs).toArray⟩) ∧ Below w.heap.size w w' := by
  have htb := Lib.tabBelow_of_tabIs htab
  obtain ⟨i0, hi, hz0, hz1, hz2⟩ := info_parts info5
  go_enter Tryd.func28, Tryd.ntmps28
  go_wp2
  go_loopw [5, 12] (fun v i wr => ∃ k : Nat, k ≤ ds.length ∧ i = .int .i64 k ∧ wr.ownsRow w.heap.size 5 1 v (dk ds k).length (Lib.byteCells (dk ds k)) ∧ Below w.heap.size w wr) (fun _ i _ => ds.length - (intOf i).toNat)
  case atStart => exact ⟨0, Nat.zero_le _, rfl, World.ownsRow_nil _ _ _ _, Below.refl _ _⟩
  case round =>
    obtain ⟨k, hk, rfl, hown, hnx⟩ := hrel
    have hcx : k < ds.length → wr.cell? ⟨b0, o0 + k, none⟩ = some (.bool (ds.getD k false)) := fun h => (hnx.cell (by exact hb0)).trans (hc0 k h)
    have hdl := dk_le ds k
    go_wp2_with (go_at_call 31; (refine (appB31 w.heap.size (dk ds k).length _ _ _ wr hown hnx.size (by omega)).mono ?_; rintro e w1 ⟨v1, rfl, h1, h2⟩))
    · have hlt : k < ds.length := by assumption
      have R1 : w1.ownsRow w.heap.size 5 1 v1 (dk ds (k + 1)).length (Lib.byteCells (dk ds (k + 1))) := by
        rw [(boolB_cells _).1, (boolB_cells _).2, cells_app] at h1
        rw [dk_succ ds k hlt, List.length_append]; exact h1
      have R2 : Below w.heap.size w w1 := hnx.trans h2
      clear h1 h2 hown hnx hcx
      go_wp2
      go_roundw
      case rel => exact ⟨k + 1, by omega, by go_num, R1, R2⟩
      case measure => simp [intOf]; omega
    · have hge : k = ds.length := by omega
      subst hge
      clear hcx hdl hk
      go_wp2
      rw [show decide (ds.length < ds.length) = false by simp]
      go_loopw [5, 22] (fun v i wr => ∃ j : Nat, j ≤ hs.length ∧ i = .int .i64 j ∧ wr.ownsRow w.heap.size 5 1 v (dk ds ds.length ++ hk hs j).length (Lib.byteCells (dk ds ds.length ++ hk hs j)) ∧ Below w.heap.size w wr) (fun _ i _ => hs.length - (intOf i).toNat)
      case atStart => exact ⟨0, Nat.zero_le _, rfl, by simpa [hk] using hown, hnx⟩
      case round =>
        clear hown hnx
        obtain ⟨j, hj, rfl, hown, hnx⟩ := hrel
        have hcy : j < hs.length → wr.cell? ⟨b1, o1 + j, none⟩ = some (.int .i64 (hs.getD j 0)) := fun h => (hnx.cell (by exact hb1)).trans (hc1 j h)
        have hdl := dk_le ds ds.length
        have hhl := hk_le hs j hw
        have hlen : (dk ds ds.length ++ hk hs j).length ≤ 30000 := by rw [List.length_append]; omega
        have hsz := hnx.size
        go_wp2_with (first
          | (at_builtin; refine wpList_append_own _ rfl _ _ 57 rfl w.heap.size 5 i0 (.int .u8 0) 1 1 Tryd.underlying57 hi hz0 hz1 hz2 rfl (by decide) _ _ _ rfl (hown.alloc _) ⟨wr.heap.size, 0, none⟩ 1 1 [Value.int .u8 32] rfl rfl (by intro j u' hj; match j, hj with | 0, hj => simp at hj; subst hj; simp [Addr.add]) (by intro u' hu'; simp at hu'; subst hu'; rfl) (by unfold maxLen; omega) (by omega) (by simp; omega) ?_; intro v1 w1 hown1 hgrow _)
          | (go_at_call 32; refine (appI w.heap.size _ _ (hw _ (by simp [*])).1 (hw _ (by simp [*])).2 _ _ w1 hown1 (by have := hgrow.size; simp at this; omega) (by omega) (htb.on (((hnx.alloc hnx.size _).grown hgrow (by simp; omega) (fun k hk => (hown.lt k hk).1))))).mono ?_; rintro e w2 ⟨v2, rfl, h1, h2⟩))
        · have hlt : j < hs.length := by assumption
          have R0 : Below w.heap.size w w1 := (hnx.alloc hnx.size _).grown hgrow (by simp; omega) (fun k hk => (hown.lt k hk).1)
          have R2 : Below w.heap.size w w2 := R0.trans h2
          have R1 : w2.ownsRow w.heap.size 5 1 v2 (dk ds ds.length ++ hk hs (j + 1)).length (Lib.byteCells (dk ds ds.length ++ hk hs (j + 1))) := by
            have e1 : dk ds ds.length ++ hk hs (j + 1) = (dk ds ds.length ++ hk hs j ++ [32]) ++ Lib.itoa hs[j] := by rw [hk_succ hs j hlt]; simp
            have e2 : Lib.byteCells (dk ds ds.length ++ hk hs j) ++ [Value.int .u8 32] = Lib.byteCells (dk ds ds.length ++ hk hs j ++ [32]) := by simp [Lib.byteCells]
            rw [e2, cells_app] at h1
            rw [e1, List.length_append, List.length_append (bs := [32])]
            exact h1
          clear h1 h2 hown hown1 hgrow hnx hcy R0
          go_wp2
          go_roundw
          case rel => exact ⟨j + 1, by omega, by go_num, R1, R2⟩
          case measure => simp [intOf]; omega
        · have hge : j = hs.length := by omega
          subst hge
          have hs1 := own_str hown
          have e : dk ds ds.length ++ hk hs hs.length = keyL ds hs := by simp [dk, hk, keyL]
          rw [e] at hs1
          clear hown hcy hdl hhl hlen
          go_wp2
          rw [hs1]
          simp only [Result.andThen]
          rw [Oper.upon_value]
          go_wp2
          go_ret
          exact ⟨rfl, hnx⟩
end Go.Proofs.YtipnedhclbopdaaDoorR
