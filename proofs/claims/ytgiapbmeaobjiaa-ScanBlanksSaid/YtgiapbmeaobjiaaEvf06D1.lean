/- Evf06D1: a part of the proof. -/
import Derived.Test.YtgiapbmeaobjiaaEvf06C1
open Go Go.Proofs.YtgiapbmeaobjiaaEv Go.Proofs.YtgiapbmeaobjiaaR Go.RowKit Go.Shelf Go.Proofs
attribute [local go_sem] Oper.semAt_some
set_option linter.unusedVariables false
set_option linter.unusedSimpArgs false
namespace Go.Proofs.YtgiapbmeaobjiaaR
theorem infoStr : (Try.prog.info? 9).map (fun i => (i.zero, i.size, i.bytes)) = some (some (.string ⟨#[]⟩), 1, 16) := by kernel_rfl
theorem split_in (F : Fence) (n : Nat) (hF : F.fn 26) (hro : F.round = none) (s : ByteArray) (w : World) :
    CallsIn F n Try.prog 26 #[.string s] w fun e w' => e = .returned (.func (.func 34) #[] #[.pointer (some ⟨w.heap.size, 0, none⟩)]) ∧ w' = w.alloc (.cells #[.string s] 9) := by
  refine callsIn_of_wp Try.func26 rfl hF ?_ hro
  simp only [Try.ntmps26, List.size_toArray, List.length_cons, List.length_nil, Nat.reduceAdd, Nat.reduceSub, Array.replicate_succ, Array.replicate_zero, List.push_toArray, List.append_toArray, List.nil_append, List.cons_append]
  gi_wp2
  go_ret
  exact ⟨rfl, rfl⟩
theorem clip_in (F : Fence) (n : Nat) (hF : F.fn 27) (hro : F.round = none) (a : Addr) (len cap : Nat) (hl : len ≤ cap) (w : World) :
    CallsIn F n Try.prog 27 #[.slice (some a) len cap] w fun e w' => e = .returned (.slice (some a) len len) ∧ w' = w := by
  refine callsIn_of_wp Try.func27 rfl hF ?_ hro
  simp only [Try.ntmps27, List.size_toArray, List.length_cons, List.length_nil, Nat.reduceAdd, Nat.reduceSub, Array.replicate_succ, Array.replicate_zero, List.push_toArray, List.append_toArray, List.nil_append, List.cons_append]
  have h1 : (len : Int) ≤ (cap : Int) := by omega
  have h0 : (0 : Int) ≤ (len : Int) := by omega
  gi_wp2
  go_ret
  exact ⟨rfl, rfl⟩
theorem pieces_len : ∀ (n : Nat) (s : ByteArray), (pieces n s).length ≤ n + 1
  | 0, s => by simp [pieces]
  | n + 1, s => by
    rw [pieces]
    split
    · have := pieces_len n (cutB s).2.1
      simp only [List.length_cons]; omega
    · simp
theorem pieces_pos (n : Nat) (s : ByteArray) : 0 < (pieces n s).length := by cases n <;> simp [pieces]
theorem base_mono {W : World} {base base' : Nat} {e : TypeId} {size k : Nat} {v : Value} {xs : List Value} (h : W.ownsRow base e size v k xs) (hb : base' ≤ base) : W.ownsRow base' e size v k xs := by
  refine ⟨h.1, ?_⟩
  rcases h.2 with q | ⟨g, cap, cur, h1, h2, h3⟩
  · exact .inl q
  · exact .inr ⟨g, cap, cur, h1, Nat.le_trans hb h2, h3⟩
theorem own_ne {W : World} {base B : Nat} {e : TypeId} {size k : Nat} {v : Value} {xs : List Value} (h : W.ownsRow base e size v k xs) (hb : B < base) : v.ownBlock ≠ some B := by
  rcases h.2 with ⟨rfl, _⟩ | ⟨g, cap, cur, rfl, h2, h3⟩
  · simp [Value.ownBlock]
  · simp only [Value.ownBlock, ne_eq, Option.some.injEq]
    omega
set_option maxRecDepth 100000 in
set_option maxHeartbeats 4000000 in
theorem lines_in (F : Fence) (hfn : ∀ k, F.fn k) (hro : F.round = none) (n : Nat) (hn : 4 ≤ n) (hC : ∀ (cur : ByteArray) (W : World), cur.size ≤ 1000000000 → CallsIn F (n - 1 - 1) Try.prog 35 #[.string cur, .string ⟨#[10]⟩] W fun e w' => e = .returned (.tuple #[.string (cutB cur).1, .string (cutB cur).2.1, .bool (cutB cur).2.2]) ∧ Below W.heap.size W w')
    (s : ByteArray) (hs : s.size ≤ 1000000000) (w : World) :
    CallsIn F n Try.prog 11 #[.string s] w fun e W' => Below w.heap.size w W' ∧ ∃ (g : Nat) (cur : Array Value) , e = .returned (.slice (some ⟨g, 0, none⟩) (pieces s.size s).length (pieces s.size s).length) ∧ w.heap.size ≤ g ∧ W'.heap[g]? = some (.cells cur 9 (0, 0)) ∧ cur.toList.take (pieces s.size s).length = (pieces s.size s).map Value.string := by
  have h1 : 1 ≤ n := by omega
  have hF26 := hfn 26
  have hF34 := hfn 34
  have hF27 := hfn 27
  refine callsIn_of_wp_marks Try.func11 rfl (hfn _) ?_ hro
  simp only [Try.ntmps11, List.size_toArray, List.length_cons, List.length_nil, Nat.reduceAdd, Nat.reduceSub, Array.replicate_succ, Array.replicate_zero, List.push_toArray, List.append_toArray, List.nil_append, List.cons_append]
  gi_wp2_with (gi_at_call 26; refine (split_in F (n - 1) hF26 hro _ _).mono ?_; rintro e w' ⟨rfl, rfl⟩)
  have bO := (Boxed.new w 29 (.slice none 0 0)).alloc (.cells #[.string s] 9)
  have bS := Boxed.new (w.alloc (.cells #[.slice none 0 0] 29)) 9 (.string s)
  have hB0 : Below w.heap.size w ((w.alloc (.cells #[.slice none 0 0] 29)).alloc (.cells #[.string s] 9)) := ((Below.refl _ w).alloc (Nat.le_refl _) _).alloc (by simp) _
  have hsz : ((w.alloc (.cells #[.slice none 0 0] 29)).alloc (.cells #[.string s] 9)).heap.size = w.heap.size + 2 := by simp
  simp only [World.size_alloc] at bS
  obtain ⟨W0, hW0⟩ : ∃ W0, (w.alloc (.cells #[.slice none 0 0] 29)).alloc (.cells #[.string s] 9) = W0 := ⟨_, rfl⟩
  rw [hW0] at bO bS hB0 hsz ⊢
  have hsz1 : W0.heap.size = w.heap.size + 2 := by rw [← hW0]; simp
  obtain ⟨i0, hi, hz0, hz1, hz2⟩ := info_parts infoStr
  refine wpIn_range_priv hro h1 (gf := 34) (lb := #[.pointer (some ⟨w.heap.size + 1, 0, none⟩)]) rfl hF34 (enters_of Try.func34 (by kernel_rfl) rfl) (encs := fun x : ByteArray => #[Value.string x]) (fun _ => rfl)
    (Bs := w.heap.size + 1) (by omega) (Keep := fun b => b = w.heap.size + 1) (fun b hb => by subst hb; omega)
    (split_gives F hfn hro (n - 1) (by omega) hC (w.heap.size + 1) s hs W0 bS)
    (fun pre W => ((∃ v, Boxed W w.heap.size 29 v ∧ W.ownsRow (w.heap.size + 2) 9 1 v pre.length (pre.map Value.string) ∧ True) ∧ (∃ v, Boxed W (w.heap.size + 1) 9 v)) ∧ Below w.heap.size w W)
    (OwnFrom.and (Own.from (fun s A B row hs hg hr => ⟨holdsRow_own (w.heap.size + 2) w.heap.size 29 9 1 (fun pre : List ByteArray => pre.length) (fun pre => pre.map Value.string) (fun _ _ => True) s A B row hs.1 hg hr, by
      obtain ⟨v, hv⟩ := hs.2
      exact ⟨v, boxed_own _ _ (fun _ : Unit => v) () A B row hv hg hr⟩⟩) _) (ownFrom_below (Nat.le_refl _) (by omega)))
    ?set ⟨⟨⟨_, bO, World.ownsRow_nil _ _ _ _, trivial⟩, ⟨_, bS⟩⟩, hB0⟩
    (fun x => { tmps := #[.string s, undef, .slice none 0 0, .pointer (some ⟨w.heap.size, 0, none⟩), .string x, .string s, .func (.func 34) #[] #[.pointer (some ⟨w.heap.size + 1, 0, none⟩)], .string x, undef, undef, undef, undef, undef, undef], defers := [] })
    ?assign ?body ?done
  case set =>
    rintro pre W v ⟨⟨⟨u, hv, hrow, _⟩, ⟨u2, hb2⟩⟩, hB⟩
    exact ⟨⟨⟨u, hv.other (by omega) v, hrow.kept (grownBy_setCell' W _ v) (.inr (own_ne hrow (by omega))), trivial⟩, ⟨v, hb2.set v⟩⟩, hB.setCell (p := ⟨w.heap.size + 1, 0, none⟩) (by simp) v⟩
  case assign =>
    intro l x W K hK
    gi_wp2
    exact hK
  case body =>
    rintro l pre x W hW ⟨⟨⟨v, hv, hrow, _⟩, ⟨u2, hb2⟩⟩, hB⟩ hlen
    have hvc := hv.cell
    have h1n : 1 ≤ n - 1 - 1 := by omega
    gi_wp2_with (gi_at_builtin; refine wpListIn_append_own _ rfl _ _ 29 rfl (w.heap.size + 2) 9 i0 (.string ⟨#[]⟩) 1 16 Try.underlying29 hi hz0 hz1 hz2 rfl (by decide) _ _ _ rfl (hrow.alloc _) ⟨W.heap.size, 0, none⟩ 1 1 [Value.string x] rfl rfl (cell_one_new _ _ _) (by simp [Value.oneCell']) (by first | omega | (unfold maxLen; omega)) (by omega) (by simp; omega) ?_; intro v' w1 hown' hgrow _; obtain ⟨g', cap', rfl⟩ := ownsRow_succ hown'; obtain ⟨hv1, hv2, hr2, hk2, hbb⟩ := hv.appended (n₀ := w.heap.size) (by decide) (base_mono hrow (by omega)) (by omega) (Nat.le_refl _) (base_mono hown' (by omega)) hgrow; have hc1 := hv1.cell; have hf1 := hv1.frozen)
    have hne := own_ne hrow (B := w.heap.size + 1) (by omega)
    have hkb : (w1.setCell ⟨w.heap.size, 0, none⟩ (.slice (some ⟨g', 0, none⟩) (pre.length + 1) cap')).heap[w.heap.size + 1]? = W.heap[w.heap.size + 1]? :=
      (Below.heap_setCell _ _ _ _ (by simp)).trans ((hgrow.block _ (by simp; omega) hne.symm).trans (Below.heap_alloc _ _ _ (by omega)))
    refine ⟨fun b hb => by subst hb; exact hkb, ⟨⟨_, hv2, ?_⟩, ⟨u2, boxed_keep hb2 hkb⟩⟩, hB.trans hbb⟩
    have := hown'.kept (grownBy_setCell' w1 w.heap.size (.slice (some ⟨g', 0, none⟩) (pre.length + 1) cap')) (.inr (hv1.not_row (by decide) hown').symm)
    simpa using this
  case done =>
    rintro D xs W rfl ⟨⟨⟨v, hv, hrow, _⟩, ⟨u2, hb2⟩⟩, hB⟩ hD hK
    have hp := pieces_pos s.size s
    rcases hrow.2 with ⟨_, q⟩ | ⟨g, cap, cur, rfl, hg, hgb, hlc, _, _, htk⟩
    · omega
    have hvc := hv.cell
    generalize hps : pieces s.size s = ps at *
    gi_wp2_with (gi_at_call 27; refine (clip_in F (n - 1) hF27 hro _ _ _ hlc _).mono ?_; rintro e w' ⟨rfl, rfl⟩)
    have hne : g ≠ D := fun e => by subst e; rw [hgb] at hK; cases hK
    refine ⟨by simp, .inl ⟨_, _, rfl, run_takeDeferred hK, ?_⟩⟩
    refine ⟨_, results_tmp rfl _ _ _, ?_⟩
    rw [hps]
    exact ⟨hB.trans (belowK_b (w := w) (Nat.le_refl _) w' D _ _ (by omega) hK rfl rfl), g, cur, rfl, by omega, (World.putObj_heap_other hne).trans hgb, by simpa using htk⟩
end Go.Proofs.YtgiapbmeaobjiaaR
