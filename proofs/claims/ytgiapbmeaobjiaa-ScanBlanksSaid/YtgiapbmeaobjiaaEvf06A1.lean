/- strings.Index at one byte, by hand; then strings.Cut. -/
import Derived.Test.YtgiapbmeaobjiaaEvIs06
import Derived.Test.YtgiapbmeaobjiaaEv6
import Derived.Test.YtgiapbmeaobjiaaEvCln2
import Derived.WalkSpells
import Derived.Lib.Bytealg
import Derived.Lib.Strings
import Derived.Lib.Slices
import Derived.Lib.Walk
import Derived.Lib.IndexLaws
set_option linter.unusedVariables false
set_option linter.unusedSimpArgs false
namespace Go.Proofs.YtgiapbmeaobjiaaR
open Go Go.Proofs.YtgiapbmeaobjiaaEv Go.RowKit Go.Shelf Go.Proofs
theorem ib38 (s : ByteArray) (c : Int) (w : World) : Calls Try.prog 38 #[.string s, .int .u8 c] w fun e w' => e = .returned (.int .i64 (Lib.indexByte s.data.toList c.toNat.toUInt8)) ∧ w' = w := by
  go_enter Try.func38, Try.ntmps38
  go_wp2
  rw [run_callFunc_extern Try.func42 (by kernel_rfl) (by kernel_rfl) (by kernel_rfl) (e := Extern.BytealgIndexByte.indexByte) (by kernel_rfl), Lib.run_indexByteString]
  simp only [Result.andThen]
  rw [Oper.upon_value]
  go_wp2
  go_ret
  exact ⟨rfl, rfl⟩
theorem ix37 (s : ByteArray) (c : UInt8) (w : World) : Calls Try.prog 37 #[.string s, .string ⟨#[c]⟩] w fun e w' => e = .returned (.int .i64 (Lib.indexByte s.data.toList c)) ∧ w' = w := by
  go_enter Try.func37, Try.ntmps37
  go_wp2_with (go_at_call 38; refine (ib38 _ _ _).mono ?_; rintro e w' ⟨rfl, rfl⟩)
  · have h : ([c] == s.toList) = true := by assumption
    go_ret
    refine ⟨?_, rfl⟩
    have e : s.data.toList = [c] := by rw [← Lib.toList_data]; exact (beq_iff_eq.1 h).symm
    rw [e]
    simp [Lib.indexByte]
  · go_ret
    exact ⟨rfl, rfl⟩
def idxG : List PV → List (Option Blk) → Option (PV × List (Option Blk)) := fun args H =>
  match args, H with
  | [.str s, .str ⟨⟨[c]⟩⟩], [] => some (.int .i64 (Lib.indexByte s.data.toList c), [])
  | _, _ => none
theorem idx_ok (args : List PV) (H : List (Option Blk)) (r : PV) (H' : List (Option Blk)) (h : idxG args H = some (r, H')) : FSpec Try.prog 37 args H r H' := by
  unfold idxG at h
  split at h
  · next s c =>
    cases h
    refine fspec_plain fun w O F vs hv hF => ?_
    cases hv with
    | cons h1 t =>
      cases t with
      | cons h2 t =>
        cases t
        obtain rfl := vr_str h1
        obtain rfl := vr_str h2
        refine (ix37 s c w).mono ?_
        rintro e w' ⟨rfl, rfl⟩
        exact ⟨_, rfl, Below.refl _ _, .int _ _⟩
  · cases h
noncomputable def env1 : Env := fun n => if n = 37 then some (.prim idxG) else env0 n
theorem env1Ok : EnvOk Try.prog raws env1 := envOk_prim env0Ok ⟨Try.f37, _, Try.func37, rfl, by decide⟩ idx_ok
theorem env1_37 : env1 37 = some (.prim idxG) := rfl
theorem env1_35 : env1 35 = some (.body ir35) := by kernel_rfl
theorem env1_36 : env1 36 = some (.body ir36) := by kernel_rfl
/-- a text up to its first line's end, and behind it -/
def cutB (s : ByteArray) : ByteArray × ByteArray × Bool := if 0 ≤ Lib.indexByte s.data.toList 10 then (s.extract 0 (Lib.indexByte s.data.toList 10).toNat, s.extract ((Lib.indexByte s.data.toList 10).toNat + 1) s.size, true) else (s, ⟨#[]⟩, false)
end Go.Proofs.YtgiapbmeaobjiaaR
