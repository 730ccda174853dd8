/- The environment: scan.Lines and strings.Index by hand. -/
import Derived.Test.YtgiapbmeaobjiaaEvf06D1
set_option linter.unusedSimpArgs false
set_option linter.unusedVariables false
namespace Go.Proofs.YtgiapbmeaobjiaaR
open Go Go.Proofs.YtgiapbmeaobjiaaEv Go.RowKit Go.Proofs
def strsV (l : List ByteArray) : PV := .sl l.length false (l.map PV.str)
def linesG : List PV → List (Option Blk) → Option (PV × List (Option Blk)) := fun args H =>
  match args, H with
  | [.str s], [] => if s.size ≤ 1000000000 then some (strsV (pieces s.size s), []) else none
  | _, _ => none
theorem vrs_strs {w : World} {O : Nat → Option Nat} {F : Nat → Prop} : ∀ l : List ByteArray, VRs w O F (l.map PV.str) (l.map Value.string)
  | [] => .nil
  | x :: l => .cons (.str x) (vrs_strs l)
theorem closed_strs : ∀ l : List ByteArray, closedL (l.map PV.str) = true
  | [] => rfl
  | x :: l => by simp only [List.map_cons, closedL, PV.closed, closed_strs l, Bool.and_self]
theorem lines_ok (args : List PV) (H : List (Option Blk)) (r : PV) (H' : List (Option Blk)) (h : linesG args H = some (r, H')) : FSpec Try.prog 11 args H r H' := by
  unfold linesG at h
  split at h
  · next s =>
    split at h
    · next hs =>
      cases h
      refine fspec_plain fun w O F vs hv hF => ?_
      cases hv with
      | cons h1 t =>
        cases t
        obtain rfl := vr_str h1
        refine ((callsIn_wide (n := 4)).1 (lines_in Fence.wide (fun _ => trivial) rfl 4 (by omega) (fun cur W hc => callsIn_wide.2 (cut35 cur hc W)) s hs w)).mono ?_
        rintro e w' ⟨hb, g, cur, rfl, hg, hgb, htk⟩
        refine ⟨_, rfl, hb, .sl (vs := (pieces s.size s).map Value.string) (fun q => by have := hF g q; omega) hgb (vrs_strs _) (fun v hv => ?_) (closed_strs _) ?_ (Nat.le_refl _) (fun q => by cases q)⟩
        · obtain ⟨x, _, rfl⟩ := List.mem_map.1 hv
          rfl
        · rw [← htk, List.drop_zero]
          exact List.take_prefix _ _
    · cases h
  · cases h
noncomputable def env : Env := fun n => if n = 11 then some (.prim linesG) else env1 n
theorem envOk : EnvOk Try.prog raws env := envOk_prim env1Ok ⟨Try.f11, _, Try.func11, rfl, by decide⟩ lines_ok
theorem env11 : env 11 = some (.prim linesG) := rfl
theorem env3 : env 3 = some (.pub ir3) := by kernel_rfl
theorem env4 : env 4 = some (.pub ir4) := by kernel_rfl
theorem env5 : env 5 = some (.pub ir5) := by kernel_rfl
theorem env6 : env 6 = some (.pub ir6) := by kernel_rfl
theorem env7 : env 7 = some (.pub ir7) := by kernel_rfl
theorem env8 : env 8 = some (.pub ir8) := by kernel_rfl
theorem env9 : env 9 = some (.pub ir9) := by kernel_rfl
theorem env10 : env 10 = some (.pub ir10) := by kernel_rfl
theorem env12 : env 12 = some (.pub ir12) := by kernel_rfl
theorem env13 : env 13 = some (.pub ir13) := by kernel_rfl
theorem env14 : env 14 = some (.pub ir14) := by kernel_rfl
theorem env15 : env 15 = some (.pub ir15) := by kernel_rfl
theorem env16 : env 16 = some (.pub ir16) := by kernel_rfl
theorem env17 : env 17 = some (.pub ir17) := by kernel_rfl
theorem env18 : env 18 = some (.pub ir18) := by kernel_rfl
theorem env19 : env 19 = some (.pub ir19) := by kernel_rfl
theorem env20 : env 20 = some (.pub ir20) := by kernel_rfl
theorem env21 : env 21 = some (.pub ir21) := by kernel_rfl
theorem env22 : env 22 = some (.pub ir22) := by kernel_rfl
theorem env23 : env 23 = some (.pub ir23) := by kernel_rfl
theorem env24 : env 24 = some (.pub ir24) := by kernel_rfl
theorem env25 : env 25 = some (.pub ir25) := by kernel_rfl
theorem env26 : env 26 = some (.pub ir26) := by kernel_rfl
theorem env27 : env 27 = some (.body ir27) := by kernel_rfl
theorem env28 : env 28 = some (.pub ir28) := by kernel_rfl
theorem env29 : env 29 = some (.pub ir29) := by kernel_rfl
theorem env30 : env 30 = some (.body ir30) := by kernel_rfl
theorem env31 : env 31 = some (.pub ir31) := by kernel_rfl
theorem env32 : env 32 = some (.pub ir32) := by kernel_rfl
theorem env33 : env 33 = some (.pub ir33) := by kernel_rfl
theorem env34 : env 34 = some (.body ir34) := by kernel_rfl
theorem env35 : env 35 = some (.body ir35) := by kernel_rfl
theorem env36 : env 36 = some (.body ir36) := by kernel_rfl
end Go.Proofs.YtgiapbmeaobjiaaR
