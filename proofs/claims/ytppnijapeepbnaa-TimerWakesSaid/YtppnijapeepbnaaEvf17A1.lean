/- timer.due: the iterator. -/
import Derived.Test.YtppnijapeepbnaaEvf17A3
import Derived.Test.YtppnijapeepbnaaEv6
import Derived.Maps.AppendAt
open Go Go.Proofs.YtppnijapeepbnaaEv Go.Proofs.YtppnijapeepbnaaR Go.RowKit Go.Shelf Go.Proofs
attribute [local go_sem] Oper.semAt_some
set_option linter.unusedVariables false
set_option linter.unusedSimpArgs false
namespace Go.Proofs.YtppnijapeepbnaaR
def npV (x : Np) : Value := .agg #[.int .i64 x.1, .int .i64 x.2]
/-- a nap lies there -/
def NpAt (W : World) (a : Addr) (x : Np) : Prop := W.cell? a = some (.int .i64 x.1) ∧ W.cell? ⟨a.block, a.off + 1, none⟩ = some (.int .i64 x.2)
theorem cell_of_heap {W W' : World} {a : Addr} (h : W'.heap[a.block]? = W.heap[a.block]?) : W'.cell? a = W.cell? a := by unfold World.cell?; rw [h]
theorem NpAt.keep {W W' : World} {a : Addr} {x : Np} (h : NpAt W a x) (hk : W'.heap[a.block]? = W.heap[a.block]?) : NpAt W' a x :=
  ⟨(cell_of_heap hk).trans h.1, (cell_of_heap (a := ⟨a.block, a.off + 1, none⟩) hk).trans h.2⟩
/-- those that wake -/
def dueL (t : Int) (es : List Np) : List Np := es.takeWhile fun x => decide (x.2 ≤ t)
theorem due_in (F : Fence) (n : Nat) (hF : F.fn 29) (hro : F.round = none) (l : Value) (t : Int) (hl : ∃ a b c, l = .slice a b c) (w : World) :
    CallsIn F n Try.prog 29 #[l, .int .i64 t] w fun e w' => e = .returned (.func (.func 39) #[] #[.pointer (some ⟨w.heap.size, 0, none⟩), .pointer (some ⟨w.heap.size + 1, 0, none⟩)]) ∧ w' = (w.alloc (.cells #[l] 24)).alloc (.cells #[.int .i64 t] 3) := by
  obtain ⟨a, b, c, rfl⟩ := hl
  refine callsIn_of_wp Try.func29 rfl hF ?_ hro
  simp only [Try.ntmps29, List.size_toArray, List.length_cons, List.length_nil, Nat.reduceAdd, Nat.reduceSub, Array.replicate_succ, Array.replicate_zero, List.push_toArray, List.append_toArray, List.nil_append, List.cons_append]
  gi_wp2
  go_ret
  exact ⟨rfl, rfl⟩
theorem take_snoc {es : List Np} {k : Nat} (hk : k < es.length) : es.take (k + 1) = es.take k ++ [es.getD k (0, 0)] := by
  rw [List.take_add_one, List.getD_eq_getElem?_getD, List.getElem?_eq_getElem hk]
  rfl
theorem due_all {t : Int} : ∀ {es : List Np}, (∀ x ∈ es, x.2 ≤ t) → dueL t es = es
  | [], _ => rfl
  | x :: es, h => by
    unfold dueL
    rw [List.takeWhile_cons_of_pos (by simpa using h x List.mem_cons_self)]
    exact congrArg _ (due_all fun y hy => h y (List.mem_cons_of_mem _ hy))
theorem due_cut {t : Int} {p : List Np} {x : Np} {r : List Np} (h : ∀ y ∈ p, y.2 ≤ t) (hx : ¬ x.2 ≤ t) : dueL t (p ++ x :: r) = p := by
  unfold dueL
  rw [List.takeWhile_append_of_pos (fun y hy => by simpa using h y hy), List.takeWhile_cons_of_neg (by simpa using hx), List.append_nil]
theorem due_at {t : Int} {es : List Np} {k : Nat} (hk : k < es.length) (h : ∀ y ∈ es.take k, y.2 ≤ t) (hx : ¬ (es.getD k (0, 0)).2 ≤ t) : dueL t es = es.take k := by
  have e : es = es.take k ++ es.getD k (0, 0) :: es.drop (k + 1) := by
    rw [List.getD_eq_getElem?_getD, List.getElem?_eq_getElem hk, Option.getD_some, ← List.drop_eq_getElem_cons hk, List.take_append_drop]
  conv => lhs; rw [e]
  exact due_cut h hx
set_option maxRecDepth 100000 in
set_option maxHeartbeats 4000000 in
theorem due_gives (F : Fence) (hfn : ∀ k, F.fn k) (hro : F.round = none) (n : Nat) (hn : 2 ≤ n) (Bl Bt Bs : Nat) (A : Option Addr) (b off : Nat) (es : List Np) (cap : Nat) (t : Int) (Keep : Nat → Prop) (w : World)
    (hKs : ∀ b, Keep b → b < w.heap.size) (hKl : Keep Bl) (hKt : Keep Bt) (hKa : 0 < es.length → Keep b) (hA : 0 < es.length → A = some ⟨b, off, none⟩) (hlen : es.length ≤ 1000000000)
    (hBl : Boxed w Bl 24 (.slice A es.length cap)) (hBt : Boxed w Bt 3 (.int .i64 t)) (hAt : ∀ j, j < es.length → NpAt w ⟨b, off + j * 2, none⟩ (es.getD j (0, 0))) :
    Gives F n Try.prog 39 #[.pointer (some ⟨Bl, 0, none⟩), .pointer (some ⟨Bt, 0, none⟩)] (fun x : Np => #[npV x]) Bs Keep (fun xs => xs = dueL t es) es.length w := by
  intro l J W hW hsz hJ hY h0
  have h1n : 1 ≤ n := by omega
  have hbl : Boxed W Bl 24 (.slice A es.length cap) := (hW Bl hKl).trans hBl
  have hbt : Boxed W Bt 3 (.int .i64 t) := (hW Bt hKt).trans hBt
  have hcl := hbl.cell
  have hAt' : Hid (∀ j, j < es.length → NpAt W ⟨b, off + j * 2, none⟩ (es.getD j (0, 0))) := fun j (hj : j < es.length) => (hAt j hj).keep (W' := W) (hW _ (hKa (by omega)))
  clear hAt
  refine callsIn_of_wp Try.func39 rfl (hfn _) ?_ hro
  simp only [Try.ntmps39, List.size_toArray, List.length_cons, List.length_nil, Nat.reduceAdd, Nat.reduceSub, Array.replicate_succ, Array.replicate_zero, List.push_toArray, List.append_toArray, List.nil_append, List.cons_append]
  gi_wp2
  gi_loopw [8] (fun i wr => ∃ (k : Nat), k ≤ es.length ∧ i = .int .i64 k ∧ (∀ y ∈ es.take k, y.2 ≤ t) ∧ J (es.take k) wr ∧ KeepB Keep W wr) (fun i _ => es.length - (intOf i).toNat)
  case atStart => exact ⟨0, Nat.zero_le _, rfl, fun y hy => absurd hy List.not_mem_nil, h0, fun _ _ => rfl⟩
  case round =>
    obtain ⟨k, hk, rfl, hle, hJ1, hkb⟩ := hrel
    have hcl1 := (cell_of_heap (a := ⟨Bl, 0, none⟩) (hkb Bl hKl)).trans hcl
    have hct1 := (cell_of_heap (a := ⟨Bt, 0, none⟩) (hkb Bt hKt)).trans hbt.cell
    have hltt : Bt < wr.heap.size := (Array.getElem?_eq_some_iff.1 ((hkb Bt hKt).trans hbt)).1
    by_cases hkl : k < es.length
    · obtain rfl := hA (by omega)
      have hnp := (hAt'.out k hkl).keep (W' := wr) (hkb _ (hKa (by omega)))
      obtain ⟨c0, c1⟩ := hnp
      have hki : (k : Int) < (es.length : Int) := by omega
      by_cases hx : (es.getD k (0, 0)).2 ≤ t
      · have hgt : ¬ (t < (es.getD k (0, 0)).2) := by omega
        have hsn := take_snoc hkl
        generalize hxe : es.getD k (0, 0) = x at *
        have hct2 := (cell_of_heap (a := ⟨Bt, 0, none⟩) (Below.heap_alloc wr (.cells #[.int .i64 x.1, .int .i64 x.2] 49) Bt hltt)).trans hct1
        have hsz2 : ∀ b, Keep b → b < wr.heap.size := fun b hb => by
          have e := (hkb b hb).trans (hW b hb)
          rw [Array.getElem?_eq_getElem (hKs b hb)] at e
          exact (Array.getElem?_eq_some_iff.1 e).1
        have hkb2 : KeepB Keep wr (wr.alloc (.cells #[.int .i64 x.1, .int .i64 x.2] 49)) := fun b hb => Below.heap_alloc _ _ _ (hsz2 b hb)
        have hJ2 := hJ.grow _ _ _ hJ1 (World.grownBy_alloc wr (.cells #[.int .i64 x.1, .int .i64 x.2] 49) none)
        obtain ⟨fn, tmps, assign, body, hy, hR⟩ := hY (es.take k) x _ hJ2 (by rw [List.length_take]; omega)
        dsimp only [npV] at hy
        gi_wp2
        refine hR.mono ?_
        rintro e W3 ⟨rfl, hJ3, hk3⟩
        have w64 : wrap64 ((k : Int) + 1) = ((k + 1 : Nat) : Int) := by unfold wrap64; omega
        gi_wp2
        go_roundw
        case rel =>
          refine ⟨k + 1, by omega, by first | rfl | (rw [w64]) | (congr 1; omega), fun y hy => ?_, by rw [hsn]; exact hJ3, (hkb.trans hkb2).trans hk3⟩
          rw [hsn] at hy
          rcases List.mem_append.1 hy with q | q
          · exact hle y q
          · rw [List.mem_singleton.1 q]; exact hx
        case measure =>
          simp only [intOf]
          omega
      · have hgt : t < (es.getD k (0, 0)).2 := by omega
        have hds := due_at hkl hle hx
        generalize hxe : es.getD k (0, 0) = x at *
        have hct2 := (cell_of_heap (a := ⟨Bt, 0, none⟩) (Below.heap_alloc wr (.cells #[.int .i64 x.1, .int .i64 x.2] 49) Bt hltt)).trans hct1
        gi_wp2
        refine bodyPost_ret (results_none rfl _ _ _) rfl ?_
        exact ⟨⟨_, rfl⟩, hJ.grow _ _ _ hJ1 (World.grownBy_alloc wr _ none)⟩
    · have hke : k = es.length := by omega
      subst hke
      rw [List.take_length] at hJ1 hle
      gi_wp2
      go_end0
      exact ⟨⟨_, rfl⟩, _, (due_all hle).symm, hJ1⟩
end Go.Proofs.YtppnijapeepbnaaR
