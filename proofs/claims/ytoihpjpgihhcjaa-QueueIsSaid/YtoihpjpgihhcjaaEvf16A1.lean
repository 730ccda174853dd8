/- slices.Insert of one element of three cells: what stands in memory. -/
import Derived.Test.YtoihpjpgihhcjaaEvIs16
import Derived.Test.YtoihpjpgihhcjaaEv6
import Derived.Shelf.Spec.SlicesInsert
import Derived.Lib.AppendZerosOnto
import Derived.Laws.NewBlocks
open Go Go.Proofs.YtoihpjpgihhcjaaEv Go.RowKit Go.Shelf Go.Proofs Go.Lib
attribute [local go_sem] Oper.semAt_some
set_option linter.unusedVariables false
set_option linter.unusedSimpArgs false
namespace Go.Proofs.YtoihpjpgihhcjaaR
theorem sz60 : szT Try.prog 60 = some 3 := by kernel_rfl
/-- a copy of rows of elements of several cells -/
theorem run_copyN {P : Program} (w : World) (dT sT ty elem : TypeId) (size b o dLen dCap : Nat) (a : Addr) (sLen sCap : Nat) (cs : List Value)
    (hu : P.underlying dT = some (.slice elem)) (hs : szT P elem = some size) (hn : cs.length = Nat.min sLen dLen * size)
    (hsrc : ∀ j v, cs[j]? = some v → w.cell? (a.add j) = some v) (hc : ∀ j, j < cs.length → (w.cell? ⟨b, o + j, none⟩).isSome = true) (hf : ∀ j, j < cs.length → w.frozen? ⟨b, o + j, none⟩ = false) (h1 : ∀ v ∈ cs, v.oneCell' = true) :
    (Builtin.copy_ #[dT, sT] ty #[.slice (some ⟨b, o, none⟩) dLen dCap, .slice (some a) sLen sCap]).run P w = .ok (goInt (Nat.min sLen dLen)) (w.setCells b o cs) := by
  have hl := run_firstCells_some (P := P) w size (Nat.min sLen dLen) a sLen sCap cs hn hsrc
  have hst := run_storeCells_cells (P := P) b o cs 0 w (by simpa using hc) (by simpa using hf) h1
  simp only [Nat.add_zero] at hst
  simp [Builtin.copy_, run_underlying hu, run_sizeOf_of hs, Builtin.lenOf, hl, hst]
theorem info60 : ∃ i : TypeInfo, Try.prog.info? 60 = some i ∧ i.zero = some (.agg #[.int .i64 0, .int .i64 0, .int .i64 0]) ∧ i.size = 3 ∧ i.bytes = 24 := by
  have h : (Try.prog.info? 60).map (fun i => (i.zero, i.size, i.bytes)) = some (some (.agg #[.int .i64 0, .int .i64 0, .int .i64 0]), 3, 24) := by kernel_rfl
  cases hi : Try.prog.info? 60 with
  | none => rw [hi] at h; cases h
  | some i =>
    rw [hi] at h
    simp only [Option.map_some, Option.some.injEq, Prod.mk.injEq] at h
    exact ⟨i, rfl, h.1, h.2.1, h.2.2⟩
theorem src1 {w : World} {vb vc : Nat} {xs : List Value} (hl : xs.length = 3) (h : ∀ j v, xs[j]? = some v → w.cell? ⟨vb, 0 + j, none⟩ = some v) (h1 : ∀ v ∈ xs, v.oneCell' = true) : Src Try.prog 3 27 (.slice (some ⟨vb, 0, none⟩) 1 vc) 1 xs w :=
  ⟨.inl ⟨_, Try.underlying27⟩, fun w' => by simp [Builtin.lenOf], run_firstCells_some w 3 1 _ 1 vc xs (by omega) (fun j v hj => by rw [Addr.add_mid]; exact h j v hj), run_firstCells_some w.drew 3 1 _ 1 vc xs (by omega) (fun j v hj => by rw [Addr.add_mid]; exact h j v hj), by omega, h1⟩
set_option maxHeartbeats 4000000 in
set_option maxRecDepth 100000 in
/-- at the end, there is room -/
theorem ins_end_room (b n c vb vc : Nat) (xs : List Value) (w : World) (hroom : n + 1 ≤ c) (hl : xs.length = 3)
    (hth : ∀ j, j < 3 → (w.cell? ⟨b, n * 3 + j, none⟩).isSome = true) (hfz : ∀ j, j < 3 → w.frozen? ⟨b, n * 3 + j, none⟩ = false)
    (hxs : ∀ j v, xs[j]? = some v → w.cell? ⟨vb, 0 + j, none⟩ = some v) (h1 : ∀ v ∈ xs, v.oneCell' = true) (hbig : n ≤ 1000000) :
    Calls Try.prog 31 #[.slice (some ⟨b, 0, none⟩) n c, .int .i64 n, .slice (some ⟨vb, 0, none⟩) 1 vc] w fun e w' =>
      e = .returned (.slice (some ⟨b, 0, none⟩) (n + 1) c) ∧ w' = w.setCells b (n * 3) xs := by
  obtain ⟨i0, hi, hz, hsz, hby⟩ := info60
  have hrun : ∀ ty, (Builtin.append_ #[27, 27] ty #[.slice (some ⟨b, 0, none⟩) n c, .slice (some ⟨vb, 0, none⟩) 1 vc]).run Try.prog w = .ok (.slice (some ⟨b, 0, none⟩) (n + 1) c) (w.setCells b (n * 3) xs) := fun ty => by
    have := run_append_room_src (P := Try.prog) w 27 27 ty 60 i0 Try.underlying27 hi b 0 n c (.slice (some ⟨vb, 0, none⟩) 1 vc) 1 xs (by rw [hsz]; exact src1 hl hxs h1) hroom (fun j hj => by rw [hsz, Nat.zero_add]; exact hth j (by omega)) (fun j hj => by rw [hsz, Nat.zero_add]; exact hfz j (by omega))
    rw [hsz, Nat.zero_add] at this
    exact this
  have hnc : n ≤ c := by omega
  clear hth hfz hxs
  go_enter Try.func31, Try.ntmps31
  go_wp2_with (at_builtin; refine Lib.wpList_append_run _ rfl _ _ _ _ rfl _ _ rfl rfl _ _ (hrun _) ?_)
  go_ret
  exact ⟨rfl, rfl⟩
set_option maxHeartbeats 4000000 in
set_option maxRecDepth 100000 in
/-- at the end, there is none -/
theorem ins_end_grow (base : Option Addr) (n c vb vc : Nat) (olds xs : List Value) (w : World) (hroom : c < n + 1) (hnc : n ≤ c) (hl : xs.length = 3) (hbig : n ≤ 1000000)
    (hold : (Builtin.firstCells 3 n (.slice base n c)).run Try.prog w.drew = .ok olds.toArray w.drew)
    (hxs : ∀ j v, xs[j]? = some v → w.cell? ⟨vb, 0 + j, none⟩ = some v) (h1 : ∀ v ∈ xs, v.oneCell' = true) :
    Calls Try.prog 31 #[.slice base n c, .int .i64 n, .slice (some ⟨vb, 0, none⟩) 1 vc] w fun e w' =>
      e = .returned (.slice (some ⟨w.heap.size, 0, none⟩) (n + 1) (grownCap w (n + 1) c 60)) ∧
        w' = w.drew.alloc (.cells ((olds ++ xs).toArray ++ Builtin.zeroCells #[.int .i64 0, .int .i64 0, .int .i64 0] (grownCap w (n + 1) c 60 - (n + 1))) 60) := by
  obtain ⟨i0, hi, hz, hsz, hby⟩ := info60
  have hrun : ∀ ty, (Builtin.append_ #[27, 27] ty #[.slice base n c, .slice (some ⟨vb, 0, none⟩) 1 vc]).run Try.prog w = .ok (.slice (some ⟨w.heap.size, 0, none⟩) (n + 1) (grownCap w (n + 1) c 60))
      (w.drew.alloc (.cells ((olds ++ xs).toArray ++ Builtin.zeroCells #[.int .i64 0, .int .i64 0, .int .i64 0] (grownCap w (n + 1) c 60 - (n + 1))) 60)) := fun ty => by
    have := run_append_grow_src (P := Try.prog) w 27 27 ty 60 i0 _ Try.underlying27 hi hz base n c olds (by rw [hsz]; exact hold) (.slice (some ⟨vb, 0, none⟩) 1 vc) 1 xs (by rw [hsz]; exact src1 hl hxs h1) hroom (by omega) (by rw [hby]; exact growslice_fits hroom (by omega))
    exact this
  clear hxs hold
  obtain ⟨G, hG⟩ : ∃ G, G = grownCap w (n + 1) c 60 := ⟨_, rfl⟩
  rw [← hG] at hrun ⊢
  obtain ⟨W1, hW1⟩ : ∃ W1, W1 = w.drew.alloc (.cells ((olds ++ xs).toArray ++ Builtin.zeroCells #[.int .i64 0, .int .i64 0, .int .i64 0] (G - (n + 1))) 60) := ⟨_, rfl⟩
  rw [← hW1] at hrun ⊢
  clear hW1 hG
  cases base with
  | none =>
    go_enter Try.func31, Try.ntmps31
    go_wp2_with (at_builtin; refine Lib.wpList_append_run _ rfl _ _ _ _ rfl _ _ rfl rfl _ _ (hrun _) ?_)
    go_ret
    exact ⟨rfl, rfl⟩
  | some a =>
    go_enter Try.func31, Try.ntmps31
    go_wp2_with (at_builtin; refine Lib.wpList_append_run _ rfl _ _ _ _ rfl _ _ rfl rfl _ _ (hrun _) ?_)
    go_ret
    exact ⟨rfl, rfl⟩
set_option maxHeartbeats 4000000 in
set_option maxRecDepth 100000 in
/-- within, there is room: in place -/
theorem ins_shift (b n c i vb vc : Nat) (cs xs : List Value) (w : World) (hi : i < n) (hroom : n + 1 ≤ c) (hbig : n ≤ 1000000) (hvb : vb ≠ b)
    (hcl : cs.length = n * 3) (hl : xs.length = 3)
    (hcs : ∀ j v, cs[j]? = some v → w.cell? ⟨b, j, none⟩ = some v) (hsp : ∀ j, j < (n + 1) * 3 → (w.cell? ⟨b, j, none⟩).isSome = true) (hfz : ∀ j, j < (n + 1) * 3 → w.frozen? ⟨b, j, none⟩ = false)
    (hxs : ∀ j v, xs[j]? = some v → w.cell? ⟨vb, j, none⟩ = some v) (h1c : ∀ v ∈ cs, v.oneCell' = true) (h1 : ∀ v ∈ xs, v.oneCell' = true)
    (tA tB : TypeId) (kA kB : Nat) (hsa : w.shape? vb = some (tA, kA)) (hsb : w.shape? b = some (tB, kB)) (hkB : kB ≠ 0) (hfa : w.frozen? ⟨vb, 0, none⟩ = false) (hfe : w.frozen? ⟨vb, kA, none⟩ = false) :
    Calls Try.prog 31 #[.slice (some ⟨b, 0, none⟩) n c, .int .i64 i, .slice (some ⟨vb, 0, none⟩) 1 vc] w fun e w' =>
      e = .returned (.slice (some ⟨b, 0, none⟩) (n + 1) c) ∧ w' = (w.drew.setCells b ((i + 1) * 3) (cs.drop (i * 3))).setCells b (i * 3) xs := by
  have hov : ∀ o lb cb, (callFunc 42 #[.slice (some ⟨vb, 0, none⟩) 1 vc, .slice (some ⟨b, o, none⟩) lb cb]).run Try.prog w = .ok (.value (.bool false)) w := fun o lb cb => by
    rw [run_callFunc_extern Try.func42 (by kernel_rfl) (by kernel_rfl) (by kernel_rfl) (e := Extern.SlicesOverlaps.overlaps #[27, 27] #[4]) (by kernel_rfl),
      Lib.run_overlaps_apart w 27 4 60 Try.underlying27 3 (fun w => run_sizeOf_of sz60 w) ⟨vb, 0, none⟩ ⟨b, o, none⟩ 1 vc lb cb hvb tA tB kA kB hsa hsb hkB hfa hfe]
    rfl
  have mixed : Try.prog.follows Departure.mixedOrders = true := by kernel_rfl
  have hdl : (cs.drop (i * 3)).length = (n - i) * 3 := by rw [List.length_drop, hcl]; omega
  have hz2 : ¬ ((i : Int) = (n : Int)) := by omega
  have hw1 : IntKind.i64.wrap ((i : Int) + 1) = (i : Int) + 1 := by rw [IntKind.wrap_i64]; omega
  have hb1 : (0 : Int) ≤ (i : Int) + 1 := by omega
  have hin : i ≤ n := by omega
  have htn : ((i : Int) + 1).toNat = i + 1 := by omega
  have hb2 : ¬ (c = i + 1) := by omega
  have hb3 : (i : Int) ≤ (n : Int) + 1 := by omega
  have hb4 : ¬ (c = i) := by omega
  have hcp1 : ∀ ty dc sc, (Builtin.copy_ #[27, 27] ty #[.slice (some ⟨b, (i + 1) * 3, none⟩) (n - i) dc, .slice (some ⟨b, i * 3, none⟩) (n + 1 - i) sc]).run Try.prog w.drew = .ok (goInt (n - i : Nat)) (w.drew.setCells b ((i + 1) * 3) (cs.drop (i * 3))) := fun ty dc sc => by
    have hm : Nat.min (n + 1 - i) (n - i) = n - i := by simp only [Nat.min_def]; split <;> omega
    have := run_copyN (P := Try.prog) w.drew 27 27 ty 60 3 b ((i + 1) * 3) (n - i) dc ⟨b, i * 3, none⟩ (n + 1 - i) sc (cs.drop (i * 3)) Try.underlying27 sz60 (by rw [hdl, hm])
      (fun j v hj => by rw [Addr.add_lit]; exact hcs (i * 3 + j) v (by rwa [List.getElem?_drop] at hj))
      (fun j hj => hsp _ (by omega)) (fun j hj => hfz _ (by omega)) (fun v hv => h1c v (List.mem_of_mem_drop hv))
    rw [hm] at this
    exact this
  obtain ⟨W1, hW1⟩ : ∃ W1, W1 = w.drew.setCells b ((i + 1) * 3) (cs.drop (i * 3)) := ⟨_, rfl⟩
  have hsp1 : ∀ k, k < (n + 1) * 3 → (W1.cell? ⟨b, k, none⟩).isSome = true := fun k hk => by
    rw [hW1]
    exact isSome_setCells b (cs.drop (i * 3)) ((i + 1) * 3) w.drew (fun j hj => hsp _ (by omega)) k (hsp k hk)
  have hcp2 : ∀ (W : World), (∀ x, W.cell? x = W1.cell? x) → (∀ x, W.frozen? x = W1.frozen? x) → ∀ ty dc, (Builtin.copy_ #[27, 27] ty #[.slice (some ⟨b, i * 3, none⟩) (n + 1 - i) dc, .slice (some ⟨vb, 0, none⟩) 1 vc]).run Try.prog W = .ok (goInt (1 : Nat)) (W.setCells b (i * 3) xs) := fun W hWc hWf ty dc => by
    have hm : Nat.min 1 (n + 1 - i) = 1 := by simp only [Nat.min_def]; split <;> omega
    have := run_copyN (P := Try.prog) W 27 27 ty 60 3 b (i * 3) (n + 1 - i) dc ⟨vb, 0, none⟩ 1 vc xs Try.underlying27 sz60 (by rw [hm, hl])
      (fun j v hj => by
        rw [Addr.add_lit, hWc, hW1, World.cell?_setCells_out b _ _ _ _ (fun h _ => absurd h hvb), Nat.zero_add]
        exact hxs j v hj)
      (fun j hj => by rw [hWc]; exact hsp1 _ (by omega)) (fun j hj => by rw [hWf, hW1, World.frozen?_setCells]; exact hfz _ (by omega)) h1
    rw [hm] at this
    exact this
  rw [← hW1] at hcp1
  clear hsp hfz hcs hxs hsp1
  go_enter Try.func31, Try.ntmps31
  go_wp2_with (simp only [hov])
  go_region_law_o (refine step_copy_runI rfl _ _ 27 27 rfl _ _ (by simp [Act.eval, Act.put]) (by simp [Act.eval, Act.put]) (hcp1 _ _ _) ?_)
  go_wp2_with (at_builtin; refine wpList_copy_runI _ rfl _ _ 27 27 rfl _ _ rfl rfl (hcp2 _ (fun _ => rfl) (fun _ => rfl) _ _) ?_)
  go_ret
  first | exact ⟨rfl, rfl⟩ | exact ⟨rfl, by rw [hW1]⟩
end Go.Proofs.YtoihpjpgihhcjaaR
