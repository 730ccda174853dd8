/- slices.Delete of one element of three cells: what stands in memory. -/
import Derived.Test.YtoihpjpgihhcjaaEvf16A2
open Go Go.Proofs.YtoihpjpgihhcjaaEv Go.RowKit Go.Shelf Go.Proofs Go.Lib
attribute [local go_sem] Oper.semAt_some
set_option linter.unusedVariables false
set_option linter.unusedSimpArgs false
namespace Go.Proofs.YtoihpjpgihhcjaaR
theorem run_clear3 {w : World} {b o : Nat} {cap : Nat} (hth : ∀ j, j < 3 → (w.cell? ⟨b, o + j, none⟩).isSome = true) (hfz : ∀ j, j < 3 → w.frozen? ⟨b, o + j, none⟩ = false) (ty : TypeId) :
    (Builtin.clear_ #[27] ty #[.slice (some ⟨b, o, none⟩) 1 cap]).run Try.prog w = .ok (.tuple #[]) (w.setCells b o [.int .i64 0, .int .i64 0, .int .i64 0]) := by
  obtain ⟨i, hi, hz, hs, hb⟩ := info60
  have hst := run_storeCells_cells (P := Try.prog) b o [.int .i64 0, .int .i64 0, .int .i64 0] 0 w (fun j hj => by simpa using hth j hj) (fun j hj => by simpa using hfz j hj) (by simp [Value.oneCell'])
  simp only [Nat.add_zero] at hst
  have hcells : (Builtin.zeroCells (Value.agg #[.int .i64 0, .int .i64 0, .int .i64 0]).cells 1).toList = [.int .i64 0, .int .i64 0, .int .i64 0] := by
    unfold Builtin.zeroCells
    rw [Array.toList_map, Array.toList_range]
    rfl
  simp [Builtin.clear_, run_underlying Try.underlying27, zeroValue, typeInfo, hi, hz, hcells, hst]
set_option maxHeartbeats 4000000 in
set_option maxRecDepth 1000000 in
theorem del_one (b n c k : Nat) (cs : List Value) (w : World) (hk : k < n) (hnc : n ≤ c) (hcl : cs.length = n * 3)
    (hcs : ∀ j v, cs[j]? = some v → w.cell? ⟨b, j, none⟩ = some v) (hfz : ∀ j, j < n * 3 → w.frozen? ⟨b, j, none⟩ = false) (h1c : ∀ v ∈ cs, v.oneCell' = true) :
    Calls Try.prog 44 #[.slice (some ⟨b, 0, none⟩) n c, .int .i64 k, .int .i64 ((k + 1 : Nat) : Int)] w fun e w' =>
      e = .returned (.slice (some ⟨b, 0, none⟩) (n - 1) c) ∧ w' = (w.drew.setCells b (k * 3) (cs.drop ((k + 1) * 3))).setCells b ((n - 1) * 3) [.int .i64 0, .int .i64 0, .int .i64 0] := by
  have mixed : Try.prog.follows Departure.mixedOrders = true := by kernel_rfl
  obtain ⟨i0, hi0, hz0, hzs, hzb⟩ := info60
  obtain ⟨m, rfl⟩ : ∃ m, n = k + 1 + m := ⟨n - (k + 1), by omega⟩
  obtain ⟨news, hnews⟩ : ∃ news, news = cs.drop ((k + 1) * 3) := ⟨_, rfl⟩
  have hlen : news.length = m * 3 := by rw [hnews, List.length_drop, hcl]; omega
  obtain ⟨A, hA, hsrc⟩ : ∃ A : Addr, (if c = k + 1 then (⟨b, 0, none⟩ : Addr) else ⟨b, (k + 1) * 3, none⟩) = A ∧ Hid (∀ t u, news[t]? = some u → w.drew.cell? (A.add t) = some u) := by
    by_cases h : c = k + 1
    · refine ⟨⟨b, 0, none⟩, by simp [h], fun t u hu => ?_⟩
      have h0 : news.length = 0 := by rw [hlen]; omega
      rw [List.length_eq_zero_iff.1 h0] at hu
      simp at hu
    · refine ⟨⟨b, (k + 1) * 3, none⟩, by simp [h], fun t u hu => ?_⟩
      rw [hnews, List.getElem?_drop] at hu
      rw [Addr.add_lit]
      exact hcs _ u hu
  have hcell : ∀ j, j < (k + 1 + m) * 3 → (w.cell? ⟨b, j, none⟩).isSome = true := fun j hj => by
    rw [hcs j _ (List.getElem?_eq_getElem (by omega))]; rfl
  have s1 : Hid (news.length = m * 3) := hlen
  have s2 : Hid (∀ u ∈ news, u.oneCell' = true) := fun u hu => h1c u (by rw [hnews] at hu; exact List.mem_of_mem_drop hu)
  have s3 : Hid (∀ t, t < news.length → (w.drew.cell? ⟨b, 0 + k * 3 + t, none⟩).isSome = true ∧ w.drew.frozen? ⟨b, 0 + k * 3 + t, none⟩ = false) := fun t ht => by
    rw [hlen] at ht
    exact ⟨hcell _ (by omega), hfz _ (by omega)⟩
  obtain ⟨W1, hW1⟩ : ∃ W1, W1 = w.drew.setCells b (0 + k * 3) news := ⟨_, rfl⟩
  have hcl2 : ∀ cap ty, (Builtin.clear_ #[27] ty #[.slice (some ⟨b, (k + m) * 3, none⟩) (k + 1 + m - (k + m)) cap]).run Try.prog W1 = .ok (.tuple #[]) (W1.setCells b ((k + m) * 3) [.int .i64 0, .int .i64 0, .int .i64 0]) := fun cap ty => by
    rw [show k + 1 + m - (k + m) = 1 by omega]
    exact run_clear3 (fun j hj => by
      rw [hW1]
      exact isSome_setCells b news (0 + k * 3) w.drew (fun t ht => hcell _ (by omega)) _ (hcell _ (by omega))) (fun j hj => by rw [hW1, World.frozen?_setCells]; exact hfz _ (by omega)) ty
  have hW : Hid (W1 = w.drew.setCells b (0 + k * 3) news) := hW1
  have hN : Hid (news = cs.drop ((k + 1) * 3)) := hnews
  have hkc : k ≤ c := by omega
  have hk1c : k + 1 ≤ c := by omega
  have hne : ¬ ((k : Int) = ((k + 1 : Nat) : Int)) := by omega
  have p1 : (0 : Int) ≤ (k : Int) + 1 := by omega
  have p2 : (k : Int) + 1 ≤ (k : Int) + 1 + (m : Int) := by omega
  have p3 : (k : Int) ≤ (k : Int) + 1 := by omega
  have p4 : (k : Int) ≤ (k : Int) + 1 + (m : Int) := by omega
  have p5 : (k : Int) + (m : Int) ≤ (k : Int) + 1 + (m : Int) := by omega
  clear hW1 hnews hcs hfz hcell hlen
  by_cases hck : c = k + 1
  · rw [if_pos hck] at hA
    obtain rfl : m = 0 := by omega
    subst hA
    subst hck
    simp only [Nat.add_zero, Nat.add_sub_cancel_left] at hcl2
    go_enter Try.func44, Try.ntmps44
    go_wp2_with fail
    go_region_law_o (refine step_append_room rfl (.tmp 22) (.tmp 25) 27 rfl 60 i0 3 Try.underlying27 hi0 hzs b 0 k (k + 1) (by simp [Act.eval, Act.put]) ⟨b, 0, none⟩ 0 0 news (by simp [Act.eval, Act.put]) s1.out hsrc.out s2.out (by omega) s3.out ?_; rw [← hW.out])
    go_wp2
    go_ret
    exact ⟨by rw [show k + 1 + 0 - 1 = k + 0 by omega]; rfl, by rw [hW.out, hN.out, Nat.zero_add, show k + 1 + 0 - 1 = k + 0 by omega]; rfl⟩
  · rw [if_neg hck] at hA
    subst hA
    go_enter Try.func44, Try.ntmps44
    go_wp2_with fail
    go_region_law_o (refine step_append_room rfl (.tmp 22) (.tmp 25) 27 rfl 60 i0 3 Try.underlying27 hi0 hzs b 0 k c (by simp [Act.eval, Act.put]) ⟨b, (k + 1) * 3, none⟩ m (c - (k + 1)) news (by simp [Act.eval, Act.put]) s1.out hsrc.out s2.out (by omega) s3.out ?_; rw [← hW.out])
    go_wp2
    go_ret
    exact ⟨by rw [show k + 1 + m - 1 = k + m by omega]; rfl, by rw [hW.out, hN.out, Nat.zero_add, show k + 1 + m - 1 = k + m by omega]⟩
end Go.Proofs.YtoihpjpgihhcjaaR
