/- slices.Insert as a prim: the four roads put together. -/
import Derived.Test.YtoihpjpgihhcjaaEvf16B1
open Go Go.Proofs.YtoihpjpgihhcjaaEv Go.RowKit Go.Shelf Go.Proofs Go.Lib
set_option linter.unusedVariables false
set_option linter.unusedSimpArgs false
namespace Go.Proofs.YtoihpjpgihhcjaaR
theorem take_pre {vs l : List Value} (h : vs <+: l) {j : Nat} (hj : j ≤ vs.length) : l.take j = vs.take j := by
  obtain ⟨r, rfl⟩ := h
  exact List.take_append_of_le_length hj
theorem cells_pre {w : World} {b : Nat} {c : Array Value} {el : TypeId} {fz : Nat × Nat} {vs : List Value} (h : w.heap[b]? = some (.cells c el fz)) (hp : vs <+: c.toList) : ∀ j v, vs[j]? = some v → w.cell? ⟨b, j, none⟩ = some v := fun j v hj => by
  have := cell_of_prefix (off := 0) h (by rw [List.drop_zero]; exact hp) j v hj
  rwa [Addr.add_mid, Nat.zero_add] at this
theorem there_pre {w : World} {b : Nat} {c : Array Value} {el : TypeId} {fz : Nat × Nat} (h : w.heap[b]? = some (.cells c el fz)) (j : Nat) (hj : j < c.size) : (w.cell? ⟨b, j, none⟩).isSome = true := by
  unfold World.cell?
  rw [h]
  simp [hj]
theorem zeros_size (n : Nat) : (Builtin.zeroCells z3 n).size = n * 3 := by simp [Builtin.zeroCells, z3]
theorem new_heap (w : World) (ob : Obj) : (w.drew.alloc ob).heap[w.heap.size]? = some ob := by
  show (w.heap.push ob)[w.heap.size]? = some ob
  simp
theorem ins_ok (args : List PV) (H : List (Option Blk)) (r : PV) (H' : List (Option Blk)) (h : insG args H = some (r, H')) : FSpec Try.prog 31 args H r H' := by
  unfold insG at h
  split at h
  · next n i cs xs =>
    split at h
    · next hc =>
      obtain ⟨hi0, hin, hn6, hcl, hxl⟩ := hc
      cases h
      obtain ⟨k, rfl⟩ : ∃ k : Nat, i = k := ⟨i.toNat, by omega⟩
      rw [Int.toNat_natCast] at *
      intro w O M F vs hv hI hO
      have hO' : ∀ id, 2 ≤ id → O id = none := hO
      rcases hv with _ | ⟨h0, tl⟩
      rcases tl with _ | ⟨h1, tl⟩
      rcases tl with _ | ⟨h2, tl⟩
      cases tl
      obtain rfl := h1.int_inv
      rcases h2.own_inv with ⟨_, _, q⟩ | ⟨vb, elx, nx, vc, rfl, hO1, hsh1, hle1, hf1⟩
      · cases q
      rcases hI.blk 1 (.row xs) rfl with ⟨q, _⟩ | ⟨vb', cx, elx', fzx, vxs, p1, p2, p3, p4, p5, p6, p7, p8⟩
      · rw [q] at hxl; cases hxl
      rw [hO1] at p1
      cases p1
      have hvl : vxs.length = 3 := by have := p5.length; omega
      have hxs := cells_pre p3 p8
      have hxs0 : ∀ j v, vxs[j]? = some v → w.cell? ⟨vb, 0 + j, none⟩ = some v := fun j v q => by rw [Nat.zero_add]; exact hxs j v q
      have hcx : 3 ≤ cx.size := by have := p8.length_le; simp at this; omega
      rcases h0.own_inv with ⟨base, rfl, rfl⟩ | ⟨b, el, nn, cap, rfl, hO0, hsh0, hle0, hf0⟩
      · obtain rfl : k = 0 := by omega
        have hcs0 : cs = [] := List.length_eq_zero_iff.1 (by omega)
        subst hcs0
        have hold : (Builtin.firstCells 3 0 (.slice base 0 0)).run Try.prog w.drew = .ok ([] : List Value).toArray w.drew := by
          cases base with
          | none => exact run_firstCells_none w.drew 3 0 0 0
          | some a => exact run_firstCells_some w.drew 3 0 a 0 0 [] (by simp) (by simp)
        refine (ins_end_grow base 0 0 vb vc [] vxs w (by omega) (by omega) hvl (by omega) hold hxs0 p6).mono ?_
        rintro e w' ⟨rfl, rfl⟩
        refine ⟨_, rfl, ?_⟩
        have hG := grownCap_ge w (0 + 1) 0 60
        exact ins_post hI hO' (new_heap w _) (unfroz00 _) hG (by rw [Array.size_append]; show _ ≤ (([] ++ vxs : List Value).toArray).size + (Builtin.zeroCells z3 _).size; rw [zeros_size]; simp [hvl]; omega)
          (ys := [].take (0 * 3) ++ xs ++ [].drop (0 * 3)) (vals := vxs) (by simpa using p5) p6 (by simpa using p7) (by simp) (.inl ⟨Nat.le_refl _, stp_alloc w _⟩)
      · rcases hI.blk 0 (.row cs) rfl with ⟨_, q⟩ | ⟨b', c, el', fz, us, q1, q2, q3, q4, q5, q6, q7, q8⟩
        · rw [hO0] at q; cases q
        rw [hO0] at q1
        cases q1
        have hsz : nn = c.size := by rw [shape_of q3] at hsh0; cases hsh0; rfl
        subst hsz
        have hul : us.length = n * 3 := by have := q5.length; omega
        have hcells := cells_pre q3 q8
        have hus : us.length ≤ c.size := by have := q8.length_le; simpa using this
        have hvals : VRs w O F (cs.take (k * 3) ++ xs ++ cs.drop (k * 3)) (us.take (k * 3) ++ vxs ++ us.drop (k * 3)) := ((q5.take _).append p5).append (q5.drop _)
        have hone : ∀ v ∈ us.take (k * 3) ++ vxs ++ us.drop (k * 3), v.oneCell' = true := fun v hv => by
          rcases List.mem_append.1 hv with hv | hv
          · rcases List.mem_append.1 hv with hv | hv
            · exact q6 v (List.mem_of_mem_take hv)
            · exact p6 v hv
          · exact q6 v (List.mem_of_mem_drop hv)
        have hcd : closedL (cs.take (k * 3) ++ xs ++ cs.drop (k * 3)) = true := closedL_append (closedL_append (closedL_take _ q7) p7) (closedL_drop _ q7)
        have hne : vb ≠ b := fun e => by subst e; exact absurd (hI.inj 0 1 _ _ _ rfl rfl hO0 hO1) (by decide)
        have hold : ∀ j, j ≤ n → ∀ len cap', (Builtin.firstCells 3 j (.slice (some ⟨b, 0, none⟩) len cap')).run Try.prog w.drew = .ok (us.take (j * 3)).toArray w.drew := fun j hj len cap' =>
          run_firstCells_some w.drew 3 j _ len cap' _ (by rw [List.length_take]; omega) (fun t v ht => by
            rw [Addr.add_mid, Nat.zero_add]
            rw [List.getElem?_take] at ht
            split at ht
            · exact hcells t v ht
            · cases ht)
        by_cases hkn : k = n
        · subst hkn
          have ht : us.take (k * 3) = us := List.take_of_length_le (by omega)
          have hd : us.drop (k * 3) = [] := List.drop_eq_nil_of_le (by omega)
          by_cases hroom : k + 1 ≤ cap
          · have hb : (k + 1) * 3 ≤ c.size := by have : (k + 1) * 3 ≤ cap * 3 := Nat.mul_le_mul_right _ hroom; omega
            refine (ins_end_room b k cap vb vc vxs w hroom hvl (fun j hj => there_pre q3 _ (by omega)) (fun j hj => frozen_of q3 q4 _ (by omega)) hxs0 p6 (by omega)).mono ?_
            rintro e w' ⟨rfl, rfl⟩
            obtain ⟨c2, r1, r2, r3, r4⟩ := setCells_heap vxs (k * 3) w c q3 (by omega)
            refine ⟨_, rfl, ?_⟩
            refine ins_post hI hO' r1 (r2 ▸ q4) hroom (by omega) hvals hone hcd ?_ (.inr ⟨hO0, q2, r4⟩)
            rw [r3, ht, hd, List.append_nil, take_pre q8 (by omega), ht]
            exact List.prefix_append _ _
          · refine (ins_end_grow (some ⟨b, 0, none⟩) k cap vb vc us vxs w (by omega) hle0 hvl (by omega) (by have := hold k (Nat.le_refl _) k cap; rwa [ht] at this) hxs0 p6).mono ?_
            rintro e w' ⟨rfl, rfl⟩
            refine ⟨_, rfl, ?_⟩
            have hG := grownCap_ge w (k + 1) cap 60
            refine ins_post hI hO' (new_heap w _) (unfroz00 _) hG ?_ hvals hone hcd ?_ (.inl ⟨Nat.le_refl _, stp_alloc w _⟩)
            · rw [Array.size_append]
              show _ ≤ ((us ++ vxs : List Value).toArray).size + (Builtin.zeroCells z3 _).size
              rw [zeros_size]
              simp [hvl, hul]
              omega
            · rw [ht, hd, List.append_nil]
              simp
        · have hk : k < n := by omega
          have hdl : (us.drop (k * 3)).length = (n - k) * 3 := by rw [List.length_drop, hul]; omega
          by_cases hroom : n + 1 ≤ cap
          · have hb : (n + 1) * 3 ≤ c.size := by have : (n + 1) * 3 ≤ cap * 3 := Nat.mul_le_mul_right _ hroom; omega
            refine (ins_shift b n cap k vb vc us vxs w hk hroom (by omega) hne hul hvl hcells (fun j hj => there_pre q3 _ (by omega)) (fun j hj => frozen_of q3 q4 _ (by omega)) hxs q6 p6 _ _ _ _ (shape_of p3) (shape_of q3) (by omega) (frozen_of p3 p4 _ (by omega)) ?_).mono ?_
            · unfold World.frozen?; rw [p3]
              have := p4 cx.size (Nat.le_refl _)
              simp only [Bool.and_eq_false_iff, decide_eq_false_iff_not]
              by_cases q : fzx.1 ≤ cx.size
              · exact .inr fun q2 => this ⟨q, q2⟩
              · exact .inl q
            rintro e w' ⟨rfl, rfl⟩
            obtain ⟨c1, r1, r2, r3, r4⟩ := setCells_heap (us.drop (k * 3)) ((k + 1) * 3) w.drew c q3 (by rw [hdl]; omega)
            obtain ⟨c2, t1, t2, t3, t4⟩ := setCells_heap vxs (k * 3) _ c1 r1 (by rw [r2]; omega)
            refine ⟨_, rfl, ?_⟩
            refine ins_post hI hO' t1 (by rw [t2, r2]; exact q4) hroom (by rw [t2, r2]; omega) hvals hone hcd ?_ (.inr ⟨hO0, q2, ((Stp.drew w).mono fun _ _ q => q.elim).trans (r4.trans t4 fun _ _ q => q) fun _ _ q => q⟩)
            have e1 : (c.toList.take ((k + 1) * 3)).length = (k + 1) * 3 := by rw [List.length_take, Array.length_toList]; omega
            have e2 : c1.toList.take (k * 3) = us.take (k * 3) := by
              rw [r3, List.append_assoc, List.take_append_of_le_length (by omega), List.take_take, Nat.min_eq_left (by omega), take_pre q8 (by omega)]
            have e3 : c1.toList.drop (k * 3 + vxs.length) = us.drop (k * 3) ++ c.toList.drop ((k + 1) * 3 + (us.drop (k * 3)).length) := by
              rw [r3, List.append_assoc, List.drop_left' (by rw [e1, hvl]; omega)]
            rw [t3, e2, e3, ← List.append_assoc]
            exact List.prefix_append _ _
          · refine (ins_grow b n cap k vb vc us vxs w hk hle0 (by omega) hn6 hul hvl hcells hxs q6 p6).mono ?_
            rintro e w' ⟨rfl, rfl⟩
            have hG := grownCap_ge w (n + 1) cap 60
            generalize grownCap w (n + 1) cap 60 = G at *
            have hRs : ((us.take (k * 3)).toArray ++ Builtin.zeroCells z3 (n + 1 - k) ++ Builtin.zeroCells z3 (G - (n + 1))).size = G * 3 := by
              rw [Array.size_append, Array.size_append, zeros_size, zeros_size]
              simp [hul]
              omega
            have hRt : ((us.take (k * 3)).toArray ++ Builtin.zeroCells z3 (n + 1 - k) ++ Builtin.zeroCells z3 (G - (n + 1))).toList.take (k * 3) = us.take (k * 3) := by
              rw [Array.toList_append, Array.toList_append, List.append_assoc]
              exact List.take_left' (by simp [hul]; omega)
            generalize (us.take (k * 3)).toArray ++ Builtin.zeroCells z3 (n + 1 - k) ++ Builtin.zeroCells z3 (G - (n + 1)) = ROW at *
            have hh : (w.alloc (.cells ROW 60)).drew.heap[w.heap.size]? = some (.cells ROW 60 (0, 0)) := new_heap w (.cells ROW 60)
            obtain ⟨c1, r1, r2, r3, r4⟩ := setCells_heap vxs (k * 3) _ ROW hh (by rw [hRs]; omega)
            obtain ⟨c2, t1, t2, t3, t4⟩ := setCells_heap (us.drop (k * 3)) ((k + 1) * 3) ((w.alloc (.cells ROW 60)).drew.setCells w.heap.size (k * 3) vxs).drew c1 r1 (by rw [hdl, r2, hRs]; omega)
            refine ⟨_, rfl, ?_⟩
            refine ins_post hI hO' t1 (by rw [t2, r2]; exact unfroz00 _) hG (by rw [t2, r2, hRs]; exact Nat.le_refl _) hvals hone hcd ?_ (.inl ⟨Nat.le_refl _, ?_⟩)
            · have e1 : c1.toList.take ((k + 1) * 3) = us.take (k * 3) ++ vxs := by
                rw [r3, hRt]
                exact List.take_left' (by simp [hul, hvl]; omega)
              rw [t3, e1]
              exact List.prefix_append _ _
            · have s1 : Stp (fun _ => False) w (w.alloc (.cells ROW 60)).drew := stp_alloc w (.cells ROW 60)
              have s2 := s1.trans r4 fun x hx q => by omega
              exact s2.trans (((Stp.drew _).mono fun _ _ q => q.elim).trans t4 fun _ _ q => q) fun x hx q => by omega
    · cases h
  · cases h
end Go.Proofs.YtoihpjpgihhcjaaR
