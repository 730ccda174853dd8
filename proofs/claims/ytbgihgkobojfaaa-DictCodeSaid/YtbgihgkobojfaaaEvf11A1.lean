/- dict.Find: 'for k, e := range slices.Backward(l)': the iterator's contract, the loop. Turned from the kit's worked text on slices.All. -/
import Derived.RangeFuncNested
import Derived.RangeFuncBound
import Derived.RangeFuncCalls
import Derived.RangeFuncLeaves
import Derived.RangeFuncBox
import Derived.Shelf.Abstract
import Derived.WalkKit
import Derived.OwnWalkIn
import Derived.TacticsInMore
import Derived.LoopNIn
import Derived.LoopIn
import Derived.Test.YtbgihgkobojfaaaEvIs11
import Derived.Test.YtbgihgkobojfaaaEv6
set_option linter.unusedSimpArgs false
namespace Go.Proofs.YtbgihgkobojfaaaR
open Go Go.Proofs.YtbgihgkobojfaaaEv Go.RowKit Go.Shelf Go.Proofs
attribute [local go_sem] Oper.semAt_some
set_option linter.unusedVariables false
structure Aside0 (p : Prop) : Prop where
  mk ::
  out : p
structure EN where
  n : ByteArray
  b : Bool
  k : Int
  v : Int
  t : Int
  a : Int
def EN.val (x   : EN) : Value := .agg #[.string x.n, .bool x.b, .int .i64 x.k, .int .i64 x.v, .int .i64 x.t, .int .i64 x.a]
def EN.At (W : World) (ad : Addr) (x   : EN) : Prop :=
  W.cell? ad = some (.string x.n) ∧ W.cell? ⟨ad.block, ad.off + 1, none⟩ = some (.bool x.b) ∧ W.cell? ⟨ad.block, ad.off + 2, none⟩ = some (.int .i64 x.k) ∧
  W.cell? ⟨ad.block, ad.off + 3, none⟩ = some (.int .i64 x.v) ∧ W.cell? ⟨ad.block, ad.off + 4, none⟩ = some (.int .i64 x.t) ∧ W.cell? ⟨ad.block, ad.off + 5, none⟩ = some (.int .i64 x.a)
theorem EN.At.below {w W : World} {ad : Addr} {x : EN} (h : EN.At w ad x) (hB : Below w.heap.size w W) : EN.At W ad x := by
  obtain ⟨h0, h1, h2, h3, h4, h5⟩ := h
  exact ⟨(hB.cell (World.block_lt_of_cell? w _ h0)).trans h0, (hB.cell (World.block_lt_of_cell? w _ h1)).trans h1, (hB.cell (World.block_lt_of_cell? w _ h2)).trans h2,
    (hB.cell (World.block_lt_of_cell? w _ h3)).trans h3, (hB.cell (World.block_lt_of_cell? w _ h4)).trans h4, (hB.cell (World.block_lt_of_cell? w _ h5)).trans h5⟩
def uptoF {α : Type} (f : Nat → α) (k : Nat) : List α := (List.range k).map f
theorem uptoF_succ {α : Type} (f : Nat → α) (k : Nat) : uptoF f (k + 1) = uptoF f k ++ [f k] := by simp [uptoF, List.range_succ]
theorem uptoF_length {α : Type} (f : Nat → α) (k : Nat) : (uptoF f k).length = k := by simp [uptoF]
/-- What comes in round k: the last place first. -/
def back (es : Nat → EN) (N0 : Nat) (k : Nat) : Int × EN := ((N0 : Int) - 1 - k, es ((N0 : Int) - 1 - k).toNat)
def Miss (u : ByteArray) (pre : List (Int × EN)) : Prop := ∀ p ∈ pre, p.2.n.toList ≠ u.toList
theorem Miss.snoc {u : ByteArray} {pre : List (Int × EN)} (h : Miss u pre) {x : Int × EN} (hx : x.2.n.toList ≠ u.toList) : Miss u (pre ++ [x]) := fun p hp => (List.mem_append.1 hp).elim (h p) (fun e => by
  obtain rfl := List.mem_singleton.1 e
  exact hx)
def Hit (u : ByteArray) (pre : List (Int × EN)) (xi : Int) : Prop := ∃ ini e, pre = ini ++ [(xi, e)] ∧ Miss u ini ∧ e.n.toList = u.toList
theorem cell_first (W : World) (t : TypeId) (v : Value) (vs : List Value) : (W.alloc (.cells (v :: vs).toArray t)).cell? ⟨W.heap.size, 0, none⟩ = some v := by
  have h := World.alloc_heap_new W (.cells (v :: vs).toArray t)
  unfold World.cell?
  simp only [h]
  rfl
theorem _root_.Go.Boxed.below {W W' : World} {B : Nat} {t : TypeId} {v : Value} (h : Boxed W B t v) (hb : Below W.heap.size W W') : Boxed W' B t v := (hb.block B h.lt).trans h
theorem w64_id {x : Int} (h0 : 0 ≤ x) (h1 : x < 9223372036854775808) : wrap64 (x - 1) = x - 1 := by unfold wrap64; omega

set_option maxRecDepth 100000 in
set_option maxHeartbeats 2000000 in
theorem bk1_in (F : Fence) (n : Nat) (hF : F.fn 45) (hro : F.round = none) (hn : 1 ≤ n) (l Bs n₀ len cap N0 : Nat) (A : Option Addr) (ad : Addr) (es : Nat → EN)
    (hN : wrap64 ((len : Int) - 1) + 1 = (N0 : Int) ∨ (wrap64 ((len : Int) - 1) < 0 ∧ N0 = 0)) (hlen : N0 ≤ len) (hbig : (N0 : Int) ≤ 9223372036854775808) (hA : 0 < N0 → A = some ad) (hB0 : Bs < n₀) (J Jx : List (Int × EN) → World → Prop)
    (hY : ∀ pre x W, J pre W → pre.length < N0 → YieldAt F (n - 1) Try.prog l #[.int .i64 x.1, x.2.val] W fun e W' =>
      (e = .returned (.bool true) ∧ J (pre ++ [x]) W' ∧ Below n₀ W W') ∨ (e = .returned (.bool false) ∧ Jx (pre ++ [x]) W'))
    (W : World) (hBs : W.cell? ⟨Bs, 0, none⟩ = some (.slice A len cap)) (hAt : ∀ j, j < len → ∀ W', Below n₀ W W' → EN.At W' (ad.add (j * 6)) (es j)) (h0 : J [] W) :
    CallsIn F n Try.prog 45 #[.func (.yield l) #[] #[], .pointer (some ⟨Bs, 0, none⟩)] W fun e W' => (∃ v, e = .returned v) ∧
      ((∃ ys, ys = uptoF (back es N0) N0 ∧ J ys W') ∨ (∃ pre, (∃ k, k ≤ N0 ∧ pre = uptoF (back es N0) k) ∧ Jx pre W')) := by
  refine callsIn_of_wp Try.func45 rfl hF ?_ hro
  simp only [Try.ntmps45, List.size_toArray, List.length_cons, List.length_nil, Nat.reduceAdd, Nat.reduceSub, Array.replicate_succ, Array.replicate_zero, List.push_toArray, List.append_toArray, List.nil_append, List.cons_append]
  have hAt' := Aside0.mk hAt
  have hN' := Aside0.mk hN
  clear hAt hN
  gi_wp2
  gi_loopw [3] (fun i wr => ∃ (k : Nat) (x : Int), k ≤ N0 ∧ i = .int .i64 x ∧ Aside0 (x = (N0 : Int) - 1 - k ∨ (N0 = 0 ∧ x < 0)) ∧ J (uptoF (back es N0) k) wr ∧ Below n₀ W wr)
    (fun i _ => (intOf i + 1).toNat)
  case atStart => exact ⟨0, _, Nat.zero_le _, rfl, ⟨by rcases hN'.out with h | h; left; omega; right; exact ⟨h.2, h.1⟩⟩, h0, Below.refl _ _⟩
  case round =>
    obtain ⟨k, x, hk, rfl, hx, hJs, hnx⟩ := hrel
    have hbx := (hnx.cell (p := ⟨Bs, 0, none⟩) hB0).trans hBs
    by_cases hlt : 0 ≤ x
    · have hk2 : k < N0 := by have := hx.out; omega
      have hxx : x = (N0 : Int) - 1 - k := by have := hx.out; omega
      obtain rfl := hA (by omega)
      have hxl : x < (len : Int) := by omega
      obtain ⟨c0, c1, c2, c3, c4, c5⟩ := hAt'.out x.toNat (by omega) wr hnx
      obtain ⟨fn, tmps, assign, body, hy, hR⟩ := hY _ (x, es x.toNat) wr hJs (by rw [uptoF_length]; exact hk2)
      have hbk : (x, es x.toNat) = back es N0 k := by unfold back; rw [hxx]
      have hlt' := eq_true hlt
      have hxl' := eq_true hxl
      have d0 : decide (0 ≤ x) = true := decide_eq_true hlt
      have hbk' := Aside0.mk hbk
      have hxx' := Aside0.mk hxx
      clear hbk hxx hlt hxl
      dsimp only [EN.val] at hy
      generalize es x.toNat = ev at *
      gi_wp2
      refine hR.mono ?_
      rintro e W3 (⟨rfl, hJ3, hk3⟩ | ⟨rfl, hJx3⟩)
      · gi_wp2
        go_roundw
        case rel =>
          have hxx := hxx'.out
          have h0 := of_eq_true hlt'
          have hw := w64_id h0 (by omega)
          exact ⟨k + 1, wrap64 (x - 1), by omega, (by first | rfl | (simp; done)), ⟨by rw [hw]; left; omega⟩, by rw [uptoF_succ, ← hbk'.out]; exact hJ3, hnx.trans hk3⟩
        case measure =>
          have hxx := hxx'.out
          have h0 := of_eq_true hlt'
          have hw := w64_id h0 (by omega)
          simp only [intOf, hw]
          omega
      · gi_wp2
        refine bodyPost_ret (results_none rfl _ _ _) rfl ?_
        exact ⟨⟨_, rfl⟩, .inr ⟨_, ⟨k + 1, by omega, by rw [uptoF_succ, hbk'.out]⟩, hJx3⟩⟩
    · have hk2 : k = N0 := by have := hx.out; omega
      have d0 : decide (0 ≤ x) = false := decide_eq_false hlt
      have hlt' := eq_false hlt
      clear hlt
      subst hk2
      gi_wp2
      go_end0
      exact ⟨⟨_, rfl⟩, .inl ⟨_, rfl, hJs⟩⟩

set_option maxHeartbeats 1000000 in
theorem bk_in (F : Fence) (n : Nat) (hF : F.fn 32) (hro : F.round = none) (a : Option Addr) (len cap : Nat) (w : World) :
    CallsIn F n Try.prog 32 #[.slice a len cap] w fun e w' => e = .returned (.func (.func 45) #[] #[.pointer (some ⟨w.heap.size, 0, none⟩)]) ∧ w' = w.alloc (.cells #[.slice a len cap] 23) := by
  refine callsIn_of_wp Try.func32 rfl hF ?_ hro
  simp only [Try.ntmps32, List.size_toArray, List.length_cons, List.length_nil, Nat.reduceAdd, Nat.reduceSub, Array.replicate_succ, Array.replicate_zero, List.push_toArray, List.append_toArray, List.nil_append, List.cons_append]
  gi_wp2
  go_ret
  exact ⟨rfl, rfl⟩

theorem bk_stops (F : Fence) (n : Nat) (hF : F.fn 45) (hro : F.round = none) (hn : 1 ≤ n) (Bs len cap N0 : Nat) (A : Option Addr) (ad : Addr) (es : Nat → EN)
    (hN : wrap64 ((len : Int) - 1) + 1 = (N0 : Int) ∨ (wrap64 ((len : Int) - 1) < 0 ∧ N0 = 0)) (hlen : N0 ≤ len) (hbig : (N0 : Int) ≤ 9223372036854775808) (hA : 0 < N0 → A = some ad) (w : World) (hB0 : Bs < w.heap.size)
    (hBs : w.cell? ⟨Bs, 0, none⟩ = some (.slice A len cap)) (hAt : ∀ j, j < len → EN.At w (ad.add (j * 6)) (es j)) :
    SeqStopsK F n Try.prog 45 #[.pointer (some ⟨Bs, 0, none⟩)] (fun x : Int × EN => #[Value.int .i64 x.1, x.2.val]) (Below w.heap.size) (fun ys => ys = uptoF (back es N0) N0)
      (fun pre => ∃ k, k ≤ N0 ∧ pre = uptoF (back es N0) k) N0 w := fun l J Jx W hW _ _ hY h0 => by
  exact bk1_in F n hF hro hn l Bs w.heap.size len cap N0 A ad es hN hlen hbig hA hB0 J Jx hY W ((hW.cell (p := ⟨Bs, 0, none⟩) hB0).trans hBs) (fun j hj W' hW' => (hAt j hj).below (hW.trans hW')) h0

set_option maxRecDepth 100000 in
set_option maxHeartbeats 4000000 in
theorem Find_in (F : Fence) (n : Nat) (hfn : ∀ k, F.fn k) (hro : F.round = none) (hn : 3 ≤ n) (len cap N0 : Nat) (A : Option Addr) (ad : Addr) (es : Nat → EN) (s u : ByteArray) (hu : u.toList ≠ [])
    (hN : wrap64 ((len : Int) - 1) + 1 = (N0 : Int) ∨ (wrap64 ((len : Int) - 1) < 0 ∧ N0 = 0)) (hlen : N0 ≤ len) (hbig : (N0 : Int) ≤ 9223372036854775808) (hA : 0 < N0 → A = some ad) (w : World)
    (hAt : ∀ j, j < len → EN.At w (ad.add (j * 6)) (es j))
    (hU : ∀ W, CallsIn F (n - 1) Try.prog 22 #[.string s] W fun e w' => e = .returned (.string u) ∧ Below W.heap.size W w') :
    CallsIn F n Try.prog 11 #[.slice A len cap, .string s] w fun e W' =>
      ((e = .returned (.tuple #[.int .i64 0, .bool false]) ∧ ∀ j, j < N0 → (es j).n.toList ≠ u.toList) ∨ (∃ k : Nat, k < N0 ∧ e = .returned (.tuple #[.int .i64 k, .bool true]) ∧ (es k).n.toList = u.toList ∧ ∀ j, k < j → j < N0 → (es j).n.toList ≠ u.toList)) ∧ Below w.heap.size w W' := by
  have h1 : 1 ≤ n := by omega
  have hu1 : (u.toList == ([] : List UInt8)) = false := beq_eq_false_iff_ne.mpr hu
  have hAt' := Aside0.mk hAt
  have hN' := Aside0.mk hN
  have hu' := Aside0.mk hu
  have hb0 := Aside0.mk (Below.refl w.heap.size w)
  clear hAt hN hu
  refine callsIn_of_wp_marks Try.func11 rfl (hfn _) ?_ hro
  simp only [Try.ntmps11, List.size_toArray, List.length_cons, List.length_nil, Nat.reduceAdd, Nat.reduceSub, Array.replicate_succ, Array.replicate_zero, List.push_toArray, List.append_toArray, List.nil_append, List.cons_append]
  gi_wp2_with (first | (gi_at_call 22; refine (hU _).mono ?_; rintro e w1 ⟨rfl, hb1⟩) | (gi_at_call 32; refine (bk_in F (n - 1) (hfn _) hro _ _ _ _).mono ?_; rintro e w' ⟨rfl, rfl⟩))
  have hsz1 := hb1.size
  simp only [World.size_alloc] at hsz1
  have bR1 := (((Boxed.new w 3 (.int .i64 0)).alloc (.cells #[.bool false] 4)).below hb1).alloc (.cells #[.string u] 9) |>.alloc (.cells #[.slice A len cap] 23)
  have bR2 := (((Boxed.new (w.alloc (.cells #[.int .i64 0] 3)) 4 (.bool false))).below hb1).alloc (.cells #[.string u] 9) |>.alloc (.cells #[.slice A len cap] 23)
  have bU := (Boxed.new w1 9 (.string u)).alloc (.cells #[.slice A len cap] 23)
  have bN := Boxed.new (w1.alloc (.cells #[.string u] 9)) 23 (.slice A len cap)
  have hB1 : Below w.heap.size w w1 := (((Below.refl _ w).alloc (Nat.le_refl _) _).alloc (by simp) _).trans (hb1.mono (by simp; omega))
  have hB0 : Below w.heap.size w ((w1.alloc (.cells #[.string u] 9)).alloc (.cells #[.slice A len cap] 23)) := (hB1.alloc (by omega) _).alloc (by simp; omega) _
  have hsz : ((w1.alloc (.cells #[.string u] 9)).alloc (.cells #[.slice A len cap] 23)).heap.size = w1.heap.size + 2 := by simp
  simp only [World.size_alloc] at bR1 bR2 bN
  obtain ⟨W0, hW0⟩ : ∃ W0, (w1.alloc (.cells #[.string u] 9)).alloc (.cells #[.slice A len cap] 23) = W0 := ⟨_, rfl⟩
  rw [hW0] at bR1 bR2 bU bN hB0 hsz ⊢
  clear hW0 hB1 hb1 hU
  generalize hB6 : w1.heap.size = B6 at *
  clear hB6
  have hAt0 : ∀ j, j < len → EN.At W0 (ad.add (j * 6)) (es j) := fun j hj => (hAt'.out j hj).below hB0
  refine wpIn_rangeFunc_ownH hro h1 (gf := 45) (lb := #[.pointer (some ⟨B6 + 1, 0, none⟩)]) rfl (hfn _) (enters_of Try.func45 (by kernel_rfl) rfl)
    (bk_stops F (n - 1) (hfn _) hro (by omega) (B6 + 1) len cap N0 A ad es hN'.out hlen hbig hA W0 (by omega) bN.cell hAt0) belowK_t (belowK_b (Nat.le_refl _)) (Below.refl _ _) (fun _ => rfl)
    (fun pre W => (Miss u pre ∧ Boxed W w.heap.size 3 (.int .i64 0) ∧ Boxed W (w.heap.size + 1) 4 (.bool false) ∧ Boxed W B6 9 (.string u) ∧ Boxed W (B6 + 1) 23 (.slice A len cap)) ∧ Below w.heap.size w W)
    (fun c pre W => (c = .ret ∧ ∃ xi, Hit u pre xi ∧ Boxed W w.heap.size 3 (.int .i64 xi) ∧ Boxed W (w.heap.size + 1) 4 (.bool true)) ∧ Below w.heap.size w W)
    (OwnFrom.and (Own.from (fun s A B row hs hg hr => ⟨hs.1, boxed_own _ _ (fun _ : Unit => _) () A B row hs.2.1 hg hr, boxed_own _ _ (fun _ : Unit => _) () A B row hs.2.2.1 hg hr, boxed_own _ _ (fun _ : Unit => _) () A B row hs.2.2.2.1 hg hr, boxed_own _ _ (fun _ : Unit => _) () A B row hs.2.2.2.2 hg hr⟩) _) (ownFrom_below (Nat.le_refl _) (by omega)))
    (fun c => OwnFrom.and (Own.from (fun s A B row hs hg hr => by obtain ⟨hc, xi, e1, e4, e5⟩ := hs; exact ⟨hc, xi, e1, boxed_own _ _ (fun _ : Unit => _) () A B row e4 hg hr, boxed_own _ _ (fun _ : Unit => _) () A B row e5 hg hr⟩) _) (ownFrom_below (Nat.le_refl _) (by omega)))
    ⟨⟨fun _ h => (by cases h), bR1, bR2, bU, bN⟩, hB0⟩
    (fun x a' W => ∃ Bx, B6 < Bx ∧ W.cell? ⟨Bx, 0, none⟩ = some (.string x.2.n) ∧ a' = { tmps := #[.slice A len cap, .string s, undef, undef, .pointer (some ⟨w.heap.size, 0, none⟩), .pointer (some ⟨w.heap.size + 1, 0, none⟩), .pointer (some ⟨B6, 0, none⟩), .int .i64 x.1, .pointer (some ⟨Bx, 0, none⟩), .string s, .string u, .string u, .bool false, .slice A len cap, .func (.func 45) #[] #[.pointer (some ⟨B6 + 1, 0, none⟩)], .int .i64 x.1, x.2.val, undef, undef, undef, undef, undef], defers := [] })
    (fun x a' _ X Y row hs hg hr => by obtain ⟨Bx, h1, h2, h3⟩ := hs; exact ⟨Bx, h1, cell_kept h2 hg (fun r e => (hr r e).2), h3⟩)
    ?assign ?body ?done ?stop
  case assign =>
    rintro l pre x W K ⟨⟨hp, bA, bB, bC, bD⟩, hB⟩ hK
    obtain ⟨xi, xe⟩ := x
    obtain ⟨xn, xb, xk, xv, xt, xa⟩ := xe
    simp only [EN.val] at hK ⊢
    gi_wp2
    have hsW := bD.lt
    exact hK _ _ ((KeepsOthers.alloc _ _).from _) ((Below.refl _ W).alloc (by omega) _) ⟨⟨hp, bA.alloc _, bB.alloc _, bC.alloc _, bD.alloc _⟩, hB.alloc hB.size _⟩ ⟨W.heap.size, bC.lt, cell_first W _ _ _, rfl⟩
  case body =>
    rintro l pre x a' W hl _ ⟨⟨hp, bA, bB, bC, bD⟩, hB⟩ ⟨Bx, hBx, cX, rfl⟩ hlt
    have cC := bC.cell
    have cA := bA.cell
    have fA := bA.frozen
    have cB := bB.cell
    have fB := bB.frozen
    obtain ⟨xi, xe⟩ := x
    by_cases hh : xe.n.toList = u.toList
    · have c5b0 : (xe.n.toList == u.toList) = true := beq_iff_eq.mpr hh
      have hh' := Aside0.mk hh
      clear hh
      gi_wp2
      exact ⟨((KeepsOthers.setCell _ _ _).trans (KeepsOthers.setCell _ _ _)).from _, ⟨rfl, xi, ⟨pre, xe, rfl, hp, hh'.out⟩, (bA.set _).other (by omega) _, (bB.other (by omega) _).set _⟩, (hB.setCell (p := ⟨w.heap.size, 0, none⟩) (Nat.le_refl _) _).setCell (p := ⟨w.heap.size + 1, 0, none⟩) (by simp) _⟩
    · have c5b0 : (xe.n.toList == u.toList) = false := beq_eq_false_iff_ne.mpr hh
      have hh' := Aside0.mk hh
      clear hh
      gi_wp2
      exact ⟨KeepsFrom.refl _ _, Below.refl _ _, ⟨hp.snoc hh'.out, bA, bB, bC, bD⟩, hB⟩
  case done =>
    rintro D ys W hD rfl ⟨⟨hne, bA, bB, bC, bD⟩, hB⟩ hK
    have cA := bA.cell
    have fA := bA.frozen
    have cB := bB.cell
    have fB := bB.frozen
    gi_wp2
    have hK2 := (KeepsOthers.setCell (W.setCell ⟨w.heap.size, 0, none⟩ (.int .i64 0)) ⟨w.heap.size + 1, 0, none⟩ (.bool false)).same D _ ((KeepsOthers.setCell W ⟨w.heap.size, 0, none⟩ (.int .i64 0)).same D _ hK rfl) rfl
    have bA2 := (bA.set (.int .i64 0)).other (B' := w.heap.size + 1) (by omega) (.bool false)
    have bB2 := (bB.other (B' := w.heap.size) (by omega) (.int .i64 0)).set (.bool false)
    have hB2 := (hB.setCell (p := ⟨w.heap.size, 0, none⟩) (Nat.le_refl _) (.int .i64 0)).setCell (p := ⟨w.heap.size + 1, 0, none⟩) (by simp) (.bool false)
    refine ⟨by simp, .inl ⟨_, _, rfl, run_takeDeferred hK2, ?_⟩⟩
    have hc5 := cell_kept bA2.cell (grownBy_putObj' _ D (.deferred none)) (fun r e => by cases e; exact ⟨_, hK2, rfl⟩)
    have hc6 := cell_kept bB2.cell (grownBy_putObj' _ D (.deferred none)) (fun r e => by cases e; exact ⟨_, hK2, rfl⟩)
    refine ⟨.tuple #[.int .i64 0, .bool false], ?_, .inl ⟨rfl, fun j hj => hne ((j : Int), es j) ?_⟩, hB2.trans (belowK_b (w := w) (Nat.le_refl _) _ D _ _ (by omega) hK2 rfl rfl)⟩
    · simp [results, Try.f11, go_sem, hc5, hc6]
    · simp only [uptoF, List.mem_map, List.mem_range]
      refine ⟨N0 - 1 - j, by omega, ?_⟩
      have e1 : (N0 : Int) - 1 - ((N0 - 1 - j : Nat) : Int) = (j : Int) := by omega
      unfold back
      rw [e1]
      rfl
  case stop =>
    rintro D c pre W hD ⟨k, hk, rfl⟩ ⟨⟨rfl, xi, hhit, bA, bB⟩, hB⟩ hK
    gi_wp2
    refine ⟨by simp, .inl ⟨_, _, rfl, run_takeDeferred hK, ?_⟩⟩
    have hc5 := cell_kept bA.cell (grownBy_putObj' _ D (.deferred none)) (fun r e => by cases e; exact ⟨_, hK, rfl⟩)
    have hc6 := cell_kept bB.cell (grownBy_putObj' _ D (.deferred none)) (fun r e => by cases e; exact ⟨_, hK, rfl⟩)
    obtain ⟨ini, ee, e1, e2, e3⟩ := hhit
    obtain ⟨k', rfl⟩ : ∃ k', k = k' + 1 := by
      cases k with
      | zero => simp [uptoF] at e1
      | succ k' => exact ⟨k', rfl⟩
    rw [uptoF_succ] at e1
    obtain ⟨rfl, e5⟩ := List.append_inj' e1 rfl
    obtain e6 : back es N0 k' = (xi, ee) := by simpa using e5
    have hi : xi = ((N0 - 1 - k' : Nat) : Int) := by have := congrArg Prod.fst e6; simp only [back] at this; omega
    have he : ee = es (N0 - 1 - k') := by have := congrArg Prod.snd e6; simp only [back] at this; rw [← this]; congr 1; omega
    subst hi
    subst he
    refine ⟨.tuple #[.int .i64 ((N0 - 1 - k' : Nat) : Int), .bool true], ?_, .inr ⟨N0 - 1 - k', by omega, rfl, e3, fun j hj hj2 => e2 ((j : Int), es j) ?_⟩, hB.trans (belowK_b (w := w) (Nat.le_refl _) W D _ _ (by omega) hK rfl rfl)⟩
    · simp [results, Try.f11, go_sem, hc5, hc6]
    · simp only [uptoF, List.mem_map, List.mem_range]
      refine ⟨N0 - 1 - j, by omega, ?_⟩
      have e1 : (N0 : Int) - 1 - ((N0 - 1 - j : Nat) : Int) = (j : Int) := by omega
      unfold back
      rw [e1]
      rfl
end Go.Proofs.YtbgihgkobojfaaaR
