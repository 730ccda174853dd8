/- lin.keyOf as a prim. -/
import Derived.Test.YtipnedhclbopdaaDoorEvf22A4
import Derived.Test.YtipnedhclbopdaaDoorEvIs22
set_option linter.unusedVariables false
set_option linter.unusedSimpArgs false
namespace Go.Proofs.YtipnedhclbopdaaDoorR
open Go Go.Proofs.YtipnedhclbopdaaDoorEv Go.Proofs Go.RowKit
def boolsOf : List PV → Option (List Bool)
  | [] => some []
  | .bool b :: r => match boolsOf r with | some l => some (b :: l) | none => none
  | _ :: _ => none
def inI (x : Int) : Bool := decide (-9223372036854775808 ≤ x ∧ x ≤ 9223372036854775807)
def intsOf : List PV → Option (List Int)
  | [] => some []
  | .int .i64 n :: r => match intsOf r with | some l => some (n :: l) | none => none
  | _ :: _ => none
def keyG : List PV → List (Option Blk) → Option (PV × List (Option Blk)) := fun args H =>
  match norms args, H with
  | [.sl n _ xs, .sl m _ ys], [] => match boolsOf xs, intsOf ys with
    | some ds, some hs => if n = ds.length ∧ m = hs.length ∧ ds.length ≤ 1000 ∧ hs.length ≤ 1000 ∧ hs.all inI = true then some (.str ⟨(keyL ds hs).toArray⟩, []) else none
    | _, _ => none
  | _, _ => none
section
variable {w : World} {O : Nat → Option Nat} {F : Nat → Prop}
theorem bools_vals : ∀ {xs : List PV} {vs : List Value} {ds : List Bool}, VRs w O F xs vs → boolsOf xs = some ds → vs = ds.map Value.bool
  | [], _, ds, h, e => by cases h; simp [boolsOf] at e; subst e; rfl
  | x :: xs, _, ds, .cons h t, e => by
    cases x <;> simp only [boolsOf] at e <;> try (cases e; done)
    cases hr : boolsOf xs with
    | none => rw [hr] at e; cases e
    | some l => rw [hr] at e; cases e; rw [vr_bool h, bools_vals t hr]; rfl
theorem ints_vals : ∀ {xs : List PV} {vs : List Value} {hs : List Int}, VRs w O F xs vs → intsOf xs = some hs → vs = hs.map (Value.int .i64)
  | [], _, ds, h, e => by cases h; simp [intsOf] at e; subst e; rfl
  | x :: xs, _, ds, .cons h t, e => by
    cases x with
    | int k n =>
      cases k <;> simp only [intsOf] at e <;> try (cases e; done)
      cases hr : intsOf xs with
      | none => rw [hr] at e; cases e
      | some l => rw [hr] at e; cases e; rw [vr_int h, ints_vals t hr]; rfl
    | _ => simp [intsOf] at e
/-- a slice that is told: empty, or its cells lie in a row -/
theorem sl_shape {n : Nat} {t : Bool} {xs : List PV} {v : Value} (h : VR w O F (.sl n t xs) v) :
    (∃ base cap, n = 0 ∧ v = .slice base 0 cap) ∨ ∃ b off cap vs, v = .slice (some ⟨b, off, none⟩) n cap ∧ b < w.heap.size ∧ VRs w O F xs vs ∧ ∀ k u, vs[k]? = some u → w.cell? ⟨b, off + k, none⟩ = some u := by
  cases h with
  | slEmpty base cap tight q => exact .inl ⟨base, cap, rfl, rfl⟩
  | sl n hb q h1 hc ht hl hti =>
    refine .inr ⟨_, _, _, _, rfl, heap_lt hb, q, fun k u hk => ?_⟩
    have := cell_of_prefix hb ht k u hk
    rwa [Addr.add_mid] at this
end
theorem tab_is {w : World} {F : Nat → Prop} (h : TabF w F) : Lib.TabIs Tryd.prog w "internal/strconv.uint64pow10" .u64 Lib.pow10Tab := by
  obtain ⟨el, fz, hb⟩ := h.at0
  have hg : Tryd.prog.globalNamed "internal/strconv.uint64pow10" = some 0 := by kernel_rfl
  unfold Lib.TabIs World.var?
  rw [hg]
  simp only [Option.bind_some, hb]
  rfl
theorem key_ok (args : List PV) (H : List (Option Blk)) (r : PV) (H' : List (Option Blk)) (h : keyG args H = some (r, H')) : FSpec Tryd.prog 28 args H r H' := by
  unfold keyG at h
  split at h
  · next n t0 xs m t1 ys e0 =>
    split at h
    · next ds hs e1 e2 =>
      split at h
      · next hc =>
        cases h
        obtain ⟨rfl, rfl, hd, hh, hall⟩ := hc
        refine fspec_plain fun w O F vs hv hF => ?_
        have hw : ∀ x ∈ hs, -9223372036854775808 ≤ x ∧ x ≤ 9223372036854775807 := fun x hx => by
          have := List.all_eq_true.1 hall x hx
          simpa [inI] using this
        have hT := tab_is hF.tab
        have hn := hv.norm
        rw [e0] at hn
        cases hn with
        | cons h1 t =>
          cases t with
          | cons h2 t =>
            cases t
            have fin : ∀ {vs : Array Value}, Calls Tryd.prog 28 vs w (fun e w' => e = .returned (.string ⟨(keyL ds hs).toArray⟩) ∧ Below w.heap.size w w') → Calls Tryd.prog 28 vs w fun e w' => ∃ v, e = .returned v ∧ Below w.heap.size w w' ∧ VR w' O F (.str ⟨(keyL ds hs).toArray⟩) v := fun q =>
              q.mono fun e w' ⟨a, b⟩ => ⟨_, a, b, .str _⟩
            have cd : ∀ {b off : Nat} {us : List Value}, VRs w O F xs us → (∀ k u, us[k]? = some u → w.cell? ⟨b, off + k, none⟩ = some u) → ∀ k, k < ds.length → w.cell? ⟨b, off + k, none⟩ = some (.bool (ds.getD k false)) := fun q1 q2 k hk => by
              rw [bools_vals q1 e1] at q2
              refine q2 k _ ?_
              simp [List.getD, List.getElem?_eq_getElem hk]
            have ch : ∀ {b off : Nat} {us : List Value}, VRs w O F ys us → (∀ k u, us[k]? = some u → w.cell? ⟨b, off + k, none⟩ = some u) → ∀ k, k < hs.length → w.cell? ⟨b, off + k, none⟩ = some (.int .i64 (hs.getD k 0)) := fun q1 q2 k hk => by
              rw [ints_vals q1 e2] at q2
              refine q2 k _ ?_
              simp [List.getD, List.getElem?_eq_getElem hk]
            rcases sl_shape h1 with ⟨base0, c0, z0, rfl⟩ | ⟨b0, o0, c0, us0, rfl, l0, r0, k0⟩ <;> rcases sl_shape h2 with ⟨base1, c1, z1, rfl⟩ | ⟨b1, o1, c1, us1, rfl, l1, r1, k1⟩
            · have := key_EE base0 c0 c1 base1 ds hs w (by omega) (by omega) hd hh hw hT
              rw [z0, z1] at this
              exact fin this
            · have := key_ES base0 c0 b1 o1 c1 ds hs w (by omega) l1 (ch r1 k1) hd hh hw hT
              rw [z0] at this
              exact fin this
            · have := key_SE b0 o0 c0 c1 base1 ds hs w l0 (by omega) (cd r0 k0) hd hh hw hT
              rw [z1] at this
              exact fin this
            · exact fin (key_SS b0 o0 c0 b1 o1 c1 ds hs w l0 l1 (cd r0 k0) (ch r1 k1) hd hh hw hT)
      · cases h
    · cases h
  · cases h
noncomputable def env : Env := fun n => if n = 28 then some (.prim keyG) else envh n
theorem envOk : EnvOk Tryd.prog raws env := envOk_prim envhOk ⟨Tryd.f28, _, Tryd.func28, rfl, by decide⟩ key_ok
end Go.Proofs.YtipnedhclbopdaaDoorR
