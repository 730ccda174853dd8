/- timer.Due, the walk. -/
import Derived.Test.YtppnijapeepbnaaEvf17B1
import Derived.Shelf.RegionOpen
open Go Go.Proofs.YtppnijapeepbnaaEv Go.Proofs.YtppnijapeepbnaaR Go.RowKit Go.Shelf Go.Proofs
attribute [local go_sem] Oper.semAt_some
set_option linter.unusedVariables false
set_option linter.unusedSimpArgs false
namespace Go.Proofs.YtppnijapeepbnaaR
theorem infoInt : (Try.prog.info? 3).map (fun i => (i.zero, i.size, i.bytes)) = some (some (.int .i64 0), 1, 8) := by kernel_rfl
theorem base_mono {W : World} {base base' : Nat} {e : TypeId} {size k : Nat} {v : Value} {xs : List Value} (h : W.ownsRow base e size v k xs) (hb : base' ≤ base) : W.ownsRow base' e size v k xs := by
  refine ⟨h.1, ?_⟩
  rcases h.2 with q | ⟨g, cap, cur, h1, h2, h3⟩
  · exact .inl q
  · exact .inr ⟨g, cap, cur, h1, Nat.le_trans hb h2, h3⟩
theorem own_ne {W : World} {base B : Nat} {e : TypeId} {size k : Nat} {v : Value} {xs : List Value} (h : W.ownsRow base e size v k xs) (hb : B < base) : v.ownBlock ≠ some B := by
  rcases h.2 with ⟨rfl, _⟩ | ⟨g, cap, cur, rfl, h2, h3⟩
  · simp [Value.ownBlock]
  · simp only [Value.ownBlock, ne_eq, Option.some.injEq]
    omega
def idV (es : List Np) : List Value := es.map fun x => Value.int .i64 x.1
theorem due_len (t : Int) (es : List Np) : (dueL t es).length ≤ es.length := (List.takeWhile_prefix _).length_le
theorem flatV_drop : ∀ (k : Nat) (es : List Np), flatV (es.drop k) = (flatV es).drop (k * 2)
  | 0, es => rfl
  | k + 1, [] => by simp [flatV]
  | k + 1, x :: es => by
    rw [List.drop_succ_cons, flatV_drop k es, show (k + 1) * 2 = k * 2 + 1 + 1 by omega]
    rfl
theorem row_slAt {W : World} {base : Nat} {v : Value} {k : Nat} {vs : List Value} (h : W.ownsRow base 3 1 v k vs) (hk : vs.length = k) : SlAt W v k vs := by
  rcases h.2 with ⟨rfl, q⟩ | ⟨g, cap, cur, rfl, _, hgb, hlc, _, _, htk⟩
  · exact .inl ⟨none, 0, rfl, q⟩
  · refine .inr ⟨g, 0, cap, cur, 3, (0, 0), rfl, hlc, hgb, ?_⟩
    rw [List.drop_zero]
    have := htk
    rw [← this]
    exact List.take_prefix _ _
/-- what lies there lies in a new block -/
def NewAt (n₀ : Nat) (v : Value) : Prop := ∀ b off k c, v = .slice (some ⟨b, off, none⟩) k c → 0 < k → n₀ ≤ b
theorem due_end {w w0 W0 W w' : World} {D k k2 : Nat} {v1 v2 : Value} {xs ys : List Value} {o' : Obj} (hww : w.heap.size ≤ w0.heap.size) (hsz1 : W0.heap.size = w0.heap.size + 3) (hb0 : Below w.heap.size w w0) (hB : Below w0.heap.size w0 W) (hbs : w0.heap.size < W.heap.size) (hD : W0.heap.size ≤ D) (hK : W.heap[D]? = some (.deferred (some []))) (hBl : Below W.drew.heap.size W.drew w')
    (hS2 : SlAt w' v1 k2 xs) (hN : NewAt W.drew.heap.size v1) (hrow : W.ownsRow (w0.heap.size + 3) 3 1 v2 k ys) (hk : ys.length = k) {W' : World} (hW' : W' = w'.putObj D o') :
    Below w.heap.size w W' ∧ ∃ u1 u2, Ending.returned (.tuple #[v1, v2]) = .returned (.tuple #[u1, u2]) ∧ SlAt W' u1 k2 xs ∧ SlAt W' u2 k ys ∧ NewAt w.heap.size u1 ∧ NewAt w.heap.size u2 := by
  subst hW'
  have hDl : D < W.heap.size := (Array.getElem?_eq_some_iff.1 hK).1
  have hKw : w'.heap[D]? = some (.deferred (some [])) := (hBl.block D hDl).trans hK
  have hp : ∀ {v : Value} {k : Nat} {vs : List Value}, SlAt w' v k vs → SlAt (w'.putObj D o') v k vs := by
    rintro v k vs (q | ⟨b, off, cap, c, el, fz, e, hc, hb, hpre⟩)
    · exact .inl q
    · exact .inr ⟨b, off, cap, c, el, fz, e, hc, (World.putObj_heap_other fun e => by subst e; rw [hKw] at hb; cases hb).trans hb, hpre⟩
  have hbW : w.heap.size ≤ W.heap.size := by omega
  refine ⟨?_, v1, v2, rfl, hp hS2, hp ((row_slAt hrow hk).keep (W' := w') fun b hb => hBl.block b hb), fun b off k c e h0 => Nat.le_trans hbW (hN b off k c e h0), fun b off k c e h0 => ?_⟩
  rotate_left
  · rcases hrow.2 with ⟨q, _⟩ | ⟨g, cap, cur, q, hg, _⟩
    · rw [q] at e; cases e
    · rw [q] at e; cases e; omega
  have h1 : Below w.heap.size w W := hb0.trans (hB.mono hww)
  have h2 : Below w.heap.size W w' := (Below.drew (Below.refl _ _)).trans (hBl.mono (by show _ ≤ W.heap.size; omega))
  exact (h1.trans h2).trans (belowK_b (w := w) (Nat.le_refl _) w' D _ o' (by omega) hKw rfl rfl)
set_option maxRecDepth 100000 in
set_option maxHeartbeats 4000000 in
theorem Due_in (F : Fence) (hfn : ∀ k, F.fn k) (hro : F.round = none) (n : Nat) (hn : 4 ≤ n) (u : Value) (hu : ∃ a b c, u = .slice a b c) (sl : List Np) (hsl : sl.length ≤ 1000000) (t : Int) (w : World)
    (hS : CallsIn F (n - 1) Try.prog 22 #[u] w fun e w0 => ∃ A cap, e = .returned (.slice A sl.length cap) ∧ Below w.heap.size w w0 ∧ SlAt w0 (.slice A sl.length cap) sl.length (flatV sl))
    (hC : ∀ (W : World) (v : Value) (xs : List Np), xs.length ≤ 1000000 → SlAt W v xs.length (flatV xs) → (∃ a c, v = .slice a xs.length c) → CallsIn F (n - 1) Try.prog 26 #[v] W fun e W' => ∃ v', e = .returned v' ∧ (∃ a c, v' = .slice a xs.length c) ∧ Below W.heap.size W W' ∧ SlAt W' v' xs.length (flatV xs) ∧ NewAt W.heap.size v') :
    CallsIn F n Try.prog 9 #[u, .int .i64 t] w fun e W' => Below w.heap.size w W' ∧ ∃ v1 v2, e = .returned (.tuple #[v1, v2]) ∧ SlAt W' v1 (sl.drop (dueL t sl).length).length (flatV (sl.drop (dueL t sl).length)) ∧ SlAt W' v2 (dueL t sl).length (idV (dueL t sl)) ∧ NewAt w.heap.size v1 ∧ NewAt w.heap.size v2 := by
  have h1 : 1 ≤ n := by omega
  have hF22 := hfn 22
  have hF29 := hfn 29
  have hF39 := hfn 39
  have hF26 := hfn 26
  obtain ⟨ua, ub, uc, rfl⟩ := hu
  refine callsIn_of_wp_marks Try.func9 rfl (hfn _) ?_ hro
  simp only [Try.ntmps9, List.size_toArray, List.length_cons, List.length_nil, Nat.reduceAdd, Nat.reduceSub, Array.replicate_succ, Array.replicate_zero, List.push_toArray, List.append_toArray, List.nil_append, List.cons_append]
  gi_wp2_with (first | (gi_at_call 22; refine hS.mono ?_; rintro e w0 ⟨A, cap, rfl, hb0, hs0⟩) | (gi_at_call 29; refine (due_in F (n - 1) hF29 hro _ t ⟨_, _, _, rfl⟩ _).mono ?_; rintro e w' ⟨rfl, rfl⟩))
  have bI := ((Boxed.new w0 22 (.slice none 0 0)).alloc (.cells #[.slice A sl.length cap] 24)).alloc (.cells #[.int .i64 t] 3)
  have bL := (Boxed.new (w0.alloc (.cells #[.slice none 0 0] 22)) 24 (.slice A sl.length cap)).alloc (.cells #[.int .i64 t] 3)
  have bT := Boxed.new ((w0.alloc (.cells #[.slice none 0 0] 22)).alloc (.cells #[.slice A sl.length cap] 24)) 3 (.int .i64 t)
  simp only [World.size_alloc] at bL bT
  have hB0 : Below w0.heap.size w0 (((w0.alloc (.cells #[.slice none 0 0] 22)).alloc (.cells #[.slice A sl.length cap] 24)).alloc (.cells #[.int .i64 t] 3)) := (((Below.refl _ w0).alloc (Nat.le_refl _) _).alloc (by simp) _).alloc (by simp; omega) _
  obtain ⟨W0, hW0⟩ : ∃ W0, (((w0.alloc (.cells #[.slice none 0 0] 22)).alloc (.cells #[.slice A sl.length cap] 24)).alloc (.cells #[.int .i64 t] 3)) = W0 := ⟨_, rfl⟩
  rw [hW0] at bI bL bT hB0 ⊢
  have hsz1 : W0.heap.size = w0.heap.size + 3 := by rw [← hW0]; simp
  have hww := hb0.size
  obtain ⟨i0, hi, hz0, hz1, hz2⟩ := info_parts infoInt
  obtain ⟨b, off, hA, hbl⟩ : ∃ b off, (0 < sl.length → A = some ⟨b, off, none⟩) ∧ (0 < sl.length → b < w0.heap.size) := by
    rcases hs0 with ⟨_, _, _, q⟩ | ⟨b, off, cap', c, el, fz, e, _, hb, _⟩
    · exact ⟨0, 0, fun h => absurd h (by omega), fun h => absurd h (by omega)⟩
    · cases e
      exact ⟨b, off, fun _ => rfl, fun _ => (Array.getElem?_eq_some_iff.1 hb).1⟩
  have hNp : ∀ j, j < sl.length → NpAt W0 ⟨b, off + j * 2, none⟩ (sl.getD j (0, 0)) := fun j hj => by
    have e := hA (by omega)
    subst e
    exact (hs0.naps (by omega) j hj).keep (hB0.block b (hbl (by omega)))
  have hSl := hs0
  clear hs0
  refine wpIn_range_ax hro h1 (gf := 39) (lb := #[.pointer (some ⟨w0.heap.size + 1, 0, none⟩), .pointer (some ⟨w0.heap.size + 1 + 1, 0, none⟩)]) rfl hF39 (enters_of Try.func39 (by kernel_rfl) rfl) (encs := fun x : Np => #[npV x]) (fun _ => rfl)
    (Bs := w0.heap.size + 1) (by omega) (Keep := fun b => b < w0.heap.size ∨ b = w0.heap.size + 1 ∨ b = w0.heap.size + 1 + 1) (fun b hb => by omega)
    (due_gives F hfn hro (n - 1) (by omega) (w0.heap.size + 1) (w0.heap.size + 1 + 1) (w0.heap.size + 1) A b off sl cap t _ W0 (fun b hb => by omega) (.inr (.inl rfl)) (.inr (.inr rfl)) (fun h => .inl (hbl h)) hA (by omega) bL bT hNp)
    (fun pre W => (∃ v, Boxed W w0.heap.size 22 v ∧ W.ownsRow (w0.heap.size + 3) 3 1 v pre.length (idV pre) ∧ True) ∧ Below w0.heap.size w0 W)
    (OwnFrom.and (Own.from (holdsRow_own (w0.heap.size + 3) w0.heap.size 22 3 1 (fun pre : List Np => pre.length) (fun pre => idV pre) (fun _ _ => True)) _) (ownFrom_below (Nat.le_refl _) (by omega)))
    ?set ⟨⟨_, bI, World.ownsRow_nil _ _ _ _, trivial⟩, hB0⟩
    (fun x a' W => ∃ Bx, w0.heap.size + 3 ≤ Bx ∧ W.heap[Bx]? = some (.cells #[.int .i64 x.1, .int .i64 x.2] 49 (0, 0)) ∧ a' = { tmps := #[.slice A sl.length cap, .int .i64 t, undef, undef, .slice none 0 0, .slice none 0 0, .pointer (some ⟨w0.heap.size, 0, none⟩), .pointer (some ⟨Bx, 0, none⟩), .slice ua ub uc, .slice A sl.length cap, .slice A sl.length cap, .int .i64 t, .func (.func 39) #[] #[.pointer (some ⟨w0.heap.size + 1, 0, none⟩), .pointer (some ⟨w0.heap.size + 1 + 1, 0, none⟩)], npV x, undef, undef, undef, undef, undef, undef, undef, undef, undef, undef, undef], defers := [] })
    (fun x a' X Y row hs hg hr => by
      obtain ⟨Bx, h1, h2, h3⟩ := hs
      refine ⟨Bx, h1, (hg.block Bx (Array.getElem?_eq_some_iff.1 h2).1 fun e => ?_).trans h2, h3⟩
      obtain ⟨_, o, ho, hc⟩ := hr Bx e.symm
      rw [h2] at ho
      cases ho
      cases hc)
    ?assign ?body ?done
  case set =>
    rintro pre W v ⟨⟨u, hv, hrow, _⟩, hB⟩
    exact ⟨⟨u, hv.other (by omega) v, hrow.kept (grownBy_setCell' W _ v) (.inr (own_ne hrow (by omega))), trivial⟩, hB.setCell (p := ⟨w0.heap.size + 1, 0, none⟩) (by simp) v⟩
  case assign =>
    rintro l pre x W K hW ⟨⟨v, hv, hrow, _⟩, hB⟩ hK
    dsimp only [npV]
    gi_wp2
    refine hK _ _ (KeepsOthers.alloc _ _) (fun b hb => Below.heap_alloc _ _ _ (by omega)) ⟨⟨v, hv.alloc _, hrow.alloc _, trivial⟩, hB.alloc hB.size _⟩ ⟨W.heap.size, by omega, World.alloc_heap_new _ _, rfl⟩
  case body =>
    rintro l pre x a' W hW ⟨⟨v, hv, hrow, _⟩, hB⟩ ⟨Bx, hBx, hx, rfl⟩ hlen
    have hvc := hv.cell
    have hxc : W.cell? ⟨Bx, 0, none⟩ = some (.int .i64 x.1) := by unfold World.cell?; rw [hx]; rfl
    have h1n : 1 ≤ n - 1 - 1 := by omega
    dsimp only [npV]
    gi_wp2_with (gi_at_builtin; refine wpListIn_append_own _ rfl _ _ 22 rfl (w0.heap.size + 3) 3 i0 (.int .i64 0) 1 8 Try.underlying22 hi hz0 hz1 hz2 rfl (by decide) _ _ _ rfl (hrow.alloc _) ⟨W.heap.size, 0, none⟩ 1 1 [Value.int .i64 x.1] rfl rfl (cell_one_new _ _ _) (by simp [Value.oneCell']) (by first | omega | (unfold maxLen; omega)) (by omega) (by simp; omega) ?_; intro v' w1 hown' hgrow _; obtain ⟨g', cap', rfl⟩ := ownsRow_succ hown'; obtain ⟨hv1, hv2, hr2, hk2, hbb⟩ := hv.appended (n₀ := w0.heap.size) (by decide) (base_mono hrow (by omega)) (by omega) (Nat.le_refl _) (base_mono hown' (by omega)) hgrow; have hc1 := hv1.cell; have hf1 := hv1.frozen)
    have hkb : ∀ b, (b < w0.heap.size ∨ b = w0.heap.size + 1 ∨ b = w0.heap.size + 1 + 1) → (w1.setCell ⟨w0.heap.size, 0, none⟩ (.slice (some ⟨g', 0, none⟩) (pre.length + 1) cap')).heap[b]? = W.heap[b]? := fun b hb =>
      (Below.heap_setCell _ _ _ _ (by show b ≠ w0.heap.size; omega)).trans ((hgrow.block _ (by simp; omega) (own_ne hrow (B := b) (by omega)).symm).trans (Below.heap_alloc _ _ _ (by omega)))
    refine ⟨hkb, ⟨_, hv2, ?_⟩, hB.trans hbb⟩
    have := hown'.kept (grownBy_setCell' w1 w0.heap.size (.slice (some ⟨g', 0, none⟩) (pre.length + 1) cap')) (.inr (hv1.not_row (by decide) hown').symm)
    have e : idV (pre ++ [x]) = idV pre ++ [Value.int .i64 x.1] := by unfold idV; rw [List.map_append]; rfl
    rw [e]
    exact this
  case done =>
    rintro D xs W rfl ⟨⟨v, hv, hrow, _⟩, hB⟩ hD hK
    have hSW := hSl.keep (W' := W) hB.block
    have hkl := due_len t sl
    have hmo : Try.prog.follows .mixedOrders = true := by kernel_rfl
    have hlv : ∃ a c, v = .slice a (dueL t sl).length c := by
      rcases hrow.2 with ⟨rfl, q⟩ | ⟨g, cg, cur, rfl, _⟩
      · exact ⟨none, 0, by rw [q]⟩
      · exact ⟨_, _, rfl⟩
    obtain ⟨va, vc, rfl⟩ := hlv
    have hvc := hv.cell
    have hfl : (sl.drop (dueL t sl).length).length = sl.length - (dueL t sl).length := List.length_drop
    generalize hk : (dueL t sl).length = k at *
    have hk0 : (0 : Int) ≤ (k : Int) := by omega
    have hk1 : (k : Int) ≤ (sl.length : Int) := by omega
    gi_wp2
    have hvd : W.drew.cell? ⟨w0.heap.size, 0, none⟩ = some (.slice va k vc) := hvc
    have hfd := hv.frozen
    have hSD : SlAt W.drew (.slice A sl.length cap) sl.length (flatV sl) := hSW
    have hbs : w0.heap.size < W.heap.size := hv.lt
    have hDl : D < W.heap.size := (Array.getElem?_eq_some_iff.1 hK).1
    have hcw : ∀ w' : World, Below W.drew.heap.size W.drew w' → w'.cell? ⟨w0.heap.size, 0, none⟩ = some (.slice va k vc) := fun w' h => by
      unfold World.cell?
      rw [h.block _ hbs]
      exact hvc
    rcases hSD with ⟨bs, cp, q1, q2⟩ | ⟨b', off', cap', c, el, fz, q1, hcp, hbk, hpre⟩
    · clear q1
      clear bs cp
      have hsl0 : sl = [] := List.eq_nil_of_length_eq_zero q2
      clear q2
      subst hsl0
      have hk9 : k = 0 := by simpa using hkl
      subst hk9
      clear hNp hA hbl hSl hSW bL hW0
      have hdr : ([] : List Np).drop (dueL t ([] : List Np)).length = [] := by simp
      cases A with
      | none =>
        gi_region_with_o (gi_at_call 26; refine (hC _ _ [] (by simp) (.inl ⟨_, _, rfl, rfl⟩) ⟨_, _, rfl⟩).mono ?_; rintro e w' ⟨v', rfl, ⟨a2, c2, rfl⟩, hBl, hS2, hN⟩; have hvw : w'.cell? ⟨w0.heap.size, 0, none⟩ = some (.slice va 0 vc) := hcw w' hBl)
        all_goals
          have hKw : w'.heap[D]? = some (.deferred (some [])) := (hBl.block D hDl).trans hK
          gi_wp2
          refine ⟨by simp, .inl ⟨_, _, rfl, run_takeDeferred hKw, ?_⟩⟩
          refine ⟨_, results_tmp2 rfl _ _ _, ?_⟩
          rw [hdr, hk]
          exact due_end hww hsz1 hb0 hB hbs hD hK hBl hS2 hN hrow (by rw [idV, List.length_map, hk]) rfl
      | some A =>
        by_cases hck : cap = 0
        · subst hck
          gi_region_with_o (gi_at_call 26; refine (hC _ _ [] (by simp) (.inl ⟨_, _, rfl, rfl⟩) ⟨_, _, rfl⟩).mono ?_; rintro e w' ⟨v', rfl, ⟨a2, c2, rfl⟩, hBl, hS2, hN⟩; have hvw : w'.cell? ⟨w0.heap.size, 0, none⟩ = some (.slice va 0 vc) := hcw w' hBl)
          all_goals
            have hKw : w'.heap[D]? = some (.deferred (some [])) := (hBl.block D hDl).trans hK
            gi_wp2
            refine ⟨by simp, .inl ⟨_, _, rfl, run_takeDeferred hKw, ?_⟩⟩
            refine ⟨_, results_tmp2 rfl _ _ _, ?_⟩
            rw [hdr, hk]
            exact due_end hww hsz1 hb0 hB hbs hD hK hBl hS2 hN hrow (by rw [idV, List.length_map, hk]) rfl
        · have hck2 := hck
          gi_region_with_o (gi_at_call 26; refine (hC _ _ [] (by simp) (.inl ⟨_, _, rfl, rfl⟩) ⟨_, _, rfl⟩).mono ?_; rintro e w' ⟨v', rfl, ⟨a2, c2, rfl⟩, hBl, hS2, hN⟩; have hvw : w'.cell? ⟨w0.heap.size, 0, none⟩ = some (.slice va 0 vc) := hcw w' hBl)
          all_goals
            have hKw : w'.heap[D]? = some (.deferred (some [])) := (hBl.block D hDl).trans hK
            gi_wp2
            refine ⟨by simp, .inl ⟨_, _, rfl, run_takeDeferred hKw, ?_⟩⟩
            refine ⟨_, results_tmp2 rfl _ _ _, ?_⟩
            rw [hdr, hk]
            exact due_end hww hsz1 hb0 hB hbs hD hK hBl hS2 hN hrow (by rw [idV, List.length_map, hk]) rfl
    · cases q1
      by_cases hck : cap = k
      · subst hck
        have hdr : sl.drop cap = [] := List.eq_nil_of_length_eq_zero (by omega)
        have hSv : SlAt W.drew (.slice (some ⟨b', off', none⟩) 0 0) 0 (flatV ([] : List Np)) := .inl ⟨_, 0, rfl, rfl⟩
        obtain ⟨vv, hvv⟩ : ∃ vv : Value, vv = Value.slice (some ⟨b', off', none⟩) 0 0 := ⟨_, rfl⟩
        rw [← hvv] at hSv
        gi_region_with_o (rw [← hvv]; gi_at_call 26; refine (hC _ _ [] (by simp) hSv ⟨_, _, by (first | exact hvv | rw [hfl, hvv])⟩).mono ?_; rintro e w' ⟨v', rfl, ⟨a2, c2, rfl⟩, hBl, hS2, hN⟩; have hvw : w'.cell? ⟨w0.heap.size, 0, none⟩ = some (.slice va cap vc) := hcw w' hBl)
        all_goals
          have hKw : w'.heap[D]? = some (.deferred (some [])) := (hBl.block D hDl).trans hK
          gi_wp2
          refine ⟨by simp, .inl ⟨_, _, rfl, run_takeDeferred hKw, ?_⟩⟩
          refine ⟨_, results_tmp2 rfl _ _ _, ?_⟩
          rw [hk, hdr]
          exact due_end hww hsz1 hb0 hB hbs hD hK hBl hS2 hN hrow (by rw [idV, List.length_map, hk]) rfl
      · have hSv : SlAt W.drew (.slice (some ⟨b', off' + k * 2, none⟩) (sl.length - k) (cap - k)) (sl.drop k).length (flatV (sl.drop k)) := .inr ⟨b', off' + k * 2, cap - k, c, el, fz, by rw [hfl], by rw [hfl]; omega, hbk, by rw [flatV_drop, ← List.drop_drop]; obtain ⟨r, hr⟩ := hpre; exact ⟨r, by rw [← hr, List.drop_append_of_le_length (by rw [flatV_len]; omega)]⟩⟩
        obtain ⟨vv, hvv⟩ : ∃ vv : Value, vv = Value.slice (some ⟨b', off' + k * 2, none⟩) (sl.length - k) (cap - k) := ⟨_, rfl⟩
        rw [← hvv] at hSv
        gi_region_with_o (rw [← hvv]; gi_at_call 26; refine (hC _ _ (sl.drop k) (by rw [hfl]; omega) hSv ⟨_, _, by (first | exact hvv | rw [hfl, hvv])⟩).mono ?_; rintro e w' ⟨v', rfl, ⟨a2, c2, rfl⟩, hBl, hS2, hN⟩; have hvw : w'.cell? ⟨w0.heap.size, 0, none⟩ = some (.slice va k vc) := hcw w' hBl)
        all_goals
          have hKw : w'.heap[D]? = some (.deferred (some [])) := (hBl.block D hDl).trans hK
          gi_wp2
          refine ⟨by simp, .inl ⟨_, _, rfl, run_takeDeferred hKw, ?_⟩⟩
          refine ⟨_, results_tmp2 rfl _ _ _, ?_⟩
          have hN3 : NewAt W.drew.heap.size (.slice a2 (sl.length - k) c2) := by
            have := hN
            rw [hfl] at this
            exact this
          have hS3 : SlAt w' (.slice a2 (sl.length - k) c2) (sl.drop k).length (flatV (sl.drop k)) := by
            have := hS2
            rw [hfl] at this ⊢
            exact this
          rw [hk]
          exact due_end hww hsz1 hb0 hB hbs hD hK hBl hS3 hN3 hrow (by rw [idV, List.length_map, hk]) rfl
end Go.Proofs.YtppnijapeepbnaaR
