/- DictBase: every operation that is not hidden is in the first dictionary: a closed check over the 111 numbers. -/
import Derived.Test.YtbgihgkobojfaaaPDictBasex6
import Derived.OpenShut
set_option linter.unusedVariables false
set_option linter.unusedSimpArgs false
namespace Go.Proofs.Ytbgihgkobojfaaa.Pure
open Go.RowKit Go.Proofs.Ytbgihgkobojfaaa.PDictBase Go.Proofs.YtbgihgkobojfaaaW.PrintWords Go.Proofs.YtbgihgkobojfaaaW.PrintLast

theorem i64_and65535 (n : Int) : bits .and .i64 n 65535 = n % 65536 := by
  have hm_ : (BitVec.ofInt 64 65535).toNat = 2 ^ 16 - 1 := by decide
  have key : (BitVec.ofInt 64 n &&& BitVec.ofInt 64 65535).toNat = (n % ((2 ^ 64 : Nat) : Int)).toNat % 2 ^ 16 := by
    rw [BitVec.toNat_and, BitVec.toNat_ofInt, hm_, Nat.and_two_pow_sub_one_eq_mod]
  show IntKind.i64.wrap ((BitVec.ofInt 64 n &&& BitVec.ofInt 64 65535).toNat : Nat) = n % 65536
  rw [key, IntKind.wrap_i64]
  omega

def baseL : List S35 := [⟨⟨#[69, 88, 73, 84]⟩, false, 0, 4, ⟨0, 0⟩⟩, ⟨⟨#[85, 78, 76, 79, 79, 80]⟩, false, 0, 9, ⟨0, 0⟩⟩, ⟨⟨#[73]⟩, false, 0, 10, ⟨0, 0⟩⟩, ⟨⟨#[74]⟩, false, 0, 11, ⟨0, 0⟩⟩, ⟨⟨#[62, 82]⟩, false, 0, 12, ⟨0, 0⟩⟩, ⟨⟨#[82, 62]⟩, false, 0, 13, ⟨0, 0⟩⟩, ⟨⟨#[82, 64]⟩, false, 0, 14, ⟨0, 0⟩⟩, ⟨⟨#[69, 88, 69, 67, 85, 84, 69]⟩, false, 0, 15, ⟨0, 0⟩⟩, ⟨⟨#[67, 65, 84, 67, 72]⟩, false, 0, 16, ⟨0, 0⟩⟩, ⟨⟨#[84, 72, 82, 79, 87]⟩, false, 0, 17, ⟨0, 0⟩⟩, ⟨⟨#[68, 85, 80]⟩, false, 0, 18, ⟨0, 0⟩⟩, ⟨⟨#[68, 82, 79, 80]⟩, false, 0, 19, ⟨0, 0⟩⟩, ⟨⟨#[83, 87, 65, 80]⟩, false, 0, 20, ⟨0, 0⟩⟩, ⟨⟨#[79, 86, 69, 82]⟩, false, 0, 21, ⟨0, 0⟩⟩, ⟨⟨#[82, 79, 84]⟩, false, 0, 22, ⟨0, 0⟩⟩, ⟨⟨#[78, 73, 80]⟩, false, 0, 23, ⟨0, 0⟩⟩, ⟨⟨#[84, 85, 67, 75]⟩, false, 0, 24, ⟨0, 0⟩⟩, ⟨⟨#[50, 68, 85, 80]⟩, false, 0, 25, ⟨0, 0⟩⟩, ⟨⟨#[50, 68, 82, 79, 80]⟩, false, 0, 26, ⟨0, 0⟩⟩, ⟨⟨#[50, 83, 87, 65, 80]⟩, false, 0, 27, ⟨0, 0⟩⟩, ⟨⟨#[50, 79, 86, 69, 82]⟩, false, 0, 28, ⟨0, 0⟩⟩, ⟨⟨#[63, 68, 85, 80]⟩, false, 0, 29, ⟨0, 0⟩⟩, ⟨⟨#[80, 73, 67, 75]⟩, false, 0, 30, ⟨0, 0⟩⟩, ⟨⟨#[82, 79, 76, 76]⟩, false, 0, 31, ⟨0, 0⟩⟩, ⟨⟨#[68, 69, 80, 84, 72]⟩, false, 0, 32, ⟨0, 0⟩⟩, ⟨⟨#[43]⟩, false, 0, 33, ⟨0, 0⟩⟩, ⟨⟨#[45]⟩, false, 0, 34, ⟨0, 0⟩⟩, ⟨⟨#[42]⟩, false, 0, 35, ⟨0, 0⟩⟩, ⟨⟨#[47]⟩, false, 0, 36, ⟨0, 0⟩⟩, ⟨⟨#[77, 79, 68]⟩, false, 0, 37, ⟨0, 0⟩⟩, ⟨⟨#[47, 77, 79, 68]⟩, false, 0, 38, ⟨0, 0⟩⟩, ⟨⟨#[42, 47]⟩, false, 0, 39, ⟨0, 0⟩⟩, ⟨⟨#[42, 47, 77, 79, 68]⟩, false, 0, 40, ⟨0, 0⟩⟩, ⟨⟨#[49, 43]⟩, false, 0, 41, ⟨0, 0⟩⟩, ⟨⟨#[49, 45]⟩, false, 0, 42, ⟨0, 0⟩⟩, ⟨⟨#[50, 42]⟩, false, 0, 43, ⟨0, 0⟩⟩, ⟨⟨#[50, 47]⟩, false, 0, 44, ⟨0, 0⟩⟩, ⟨⟨#[78, 69, 71, 65, 84, 69]⟩, false, 0, 45, ⟨0, 0⟩⟩, ⟨⟨#[65, 66, 83]⟩, false, 0, 46, ⟨0, 0⟩⟩, ⟨⟨#[77, 73, 78]⟩, false, 0, 47, ⟨0, 0⟩⟩, ⟨⟨#[77, 65, 88]⟩, false, 0, 48, ⟨0, 0⟩⟩, ⟨⟨#[65, 78, 68]⟩, false, 0, 49, ⟨0, 0⟩⟩, ⟨⟨#[79, 82]⟩, false, 0, 50, ⟨0, 0⟩⟩, ⟨⟨#[88, 79, 82]⟩, false, 0, 51, ⟨0, 0⟩⟩, ⟨⟨#[73, 78, 86, 69, 82, 84]⟩, false, 0, 52, ⟨0, 0⟩⟩, ⟨⟨#[76, 83, 72, 73, 70, 84]⟩, false, 0, 53, ⟨0, 0⟩⟩, ⟨⟨#[82, 83, 72, 73, 70, 84]⟩, false, 0, 54, ⟨0, 0⟩⟩, ⟨⟨#[61]⟩, false, 0, 55, ⟨0, 0⟩⟩, ⟨⟨#[60, 62]⟩, false, 0, 56, ⟨0, 0⟩⟩, ⟨⟨#[60]⟩, false, 0, 57, ⟨0, 0⟩⟩, ⟨⟨#[62]⟩, false, 0, 58, ⟨0, 0⟩⟩, ⟨⟨#[85, 60]⟩, false, 0, 59, ⟨0, 0⟩⟩, ⟨⟨#[48, 61]⟩, false, 0, 60, ⟨0, 0⟩⟩, ⟨⟨#[48, 60]⟩, false, 0, 61, ⟨0, 0⟩⟩, ⟨⟨#[87, 73, 84, 72, 73, 78]⟩, false, 0, 62, ⟨0, 0⟩⟩, ⟨⟨#[85, 77, 42]⟩, false, 0, 63, ⟨0, 0⟩⟩, ⟨⟨#[77, 42]⟩, false, 0, 64, ⟨0, 0⟩⟩, ⟨⟨#[85, 77, 47, 77, 79, 68]⟩, false, 0, 65, ⟨0, 0⟩⟩, ⟨⟨#[70, 77, 47, 77, 79, 68]⟩, false, 0, 66, ⟨0, 0⟩⟩, ⟨⟨#[83, 77, 47, 82, 69, 77]⟩, false, 0, 67, ⟨0, 0⟩⟩, ⟨⟨#[83, 62, 68]⟩, false, 0, 68, ⟨0, 0⟩⟩, ⟨⟨#[68, 43]⟩, false, 0, 69, ⟨0, 0⟩⟩, ⟨⟨#[68, 78, 69, 71, 65, 84, 69]⟩, false, 0, 70, ⟨0, 0⟩⟩, ⟨⟨#[67, 69, 76, 76, 83]⟩, false, 0, 71, ⟨0, 0⟩⟩, ⟨⟨#[67, 69, 76, 76, 43]⟩, false, 0, 72, ⟨0, 0⟩⟩, ⟨⟨#[67, 72, 65, 82, 43]⟩, false, 0, 73, ⟨0, 0⟩⟩, ⟨⟨#[65, 76, 73, 71, 78, 69, 68]⟩, false, 0, 74, ⟨0, 0⟩⟩, ⟨⟨#[64]⟩, false, 0, 75, ⟨0, 0⟩⟩, ⟨⟨#[33]⟩, false, 0, 76, ⟨0, 0⟩⟩, ⟨⟨#[67, 64]⟩, false, 0, 77, ⟨0, 0⟩⟩, ⟨⟨#[67, 33]⟩, false, 0, 78, ⟨0, 0⟩⟩, ⟨⟨#[43, 33]⟩, false, 0, 79, ⟨0, 0⟩⟩, ⟨⟨#[70, 73, 76, 76]⟩, false, 0, 80, ⟨0, 0⟩⟩, ⟨⟨#[77, 79, 86, 69]⟩, false, 0, 81, ⟨0, 0⟩⟩, ⟨⟨#[67, 65, 83]⟩, false, 0, 82, ⟨0, 0⟩⟩, ⟨⟨#[69, 77, 73, 84]⟩, false, 0, 83, ⟨0, 0⟩⟩, ⟨⟨#[84, 89, 80, 69]⟩, false, 0, 84, ⟨0, 0⟩⟩, ⟨⟨#[46]⟩, false, 0, 85, ⟨0, 0⟩⟩, ⟨⟨#[85, 46]⟩, false, 0, 86, ⟨0, 0⟩⟩, ⟨⟨#[67, 82]⟩, false, 0, 87, ⟨0, 0⟩⟩, ⟨⟨#[83, 80, 65, 67, 69]⟩, false, 0, 88, ⟨0, 0⟩⟩, ⟨⟨#[60, 35]⟩, false, 0, 89, ⟨0, 0⟩⟩, ⟨⟨#[35]⟩, false, 0, 90, ⟨0, 0⟩⟩, ⟨⟨#[35, 83]⟩, false, 0, 91, ⟨0, 0⟩⟩, ⟨⟨#[72, 79, 76, 68]⟩, false, 0, 92, ⟨0, 0⟩⟩, ⟨⟨#[83, 73, 71, 78]⟩, false, 0, 93, ⟨0, 0⟩⟩, ⟨⟨#[35, 62]⟩, false, 0, 94, ⟨0, 0⟩⟩, ⟨⟨#[66, 65, 83, 69]⟩, false, 0, 95, ⟨0, 0⟩⟩, ⟨⟨#[68, 69, 67, 73, 77, 65, 76]⟩, false, 0, 96, ⟨0, 0⟩⟩, ⟨⟨#[72, 69, 88]⟩, false, 0, 97, ⟨0, 0⟩⟩, ⟨⟨#[77, 69]⟩, false, 0, 98, ⟨0, 0⟩⟩, ⟨⟨#[84, 73, 67, 75, 83]⟩, false, 0, 99, ⟨0, 0⟩⟩, ⟨⟨#[80, 65, 85, 83, 69]⟩, false, 0, 100, ⟨0, 0⟩⟩, ⟨⟨#[83, 76, 69, 69, 80]⟩, false, 0, 101, ⟨0, 0⟩⟩, ⟨⟨#[66, 89, 69]⟩, false, 0, 102, ⟨0, 0⟩⟩, ⟨⟨#[78, 79, 84, 69]⟩, false, 0, 103, ⟨0, 0⟩⟩, ⟨⟨#[67, 82, 69, 65, 84, 69]⟩, false, 0, 104, ⟨0, 0⟩⟩, ⟨⟨#[72, 69, 82, 69]⟩, false, 0, 106, ⟨0, 0⟩⟩, ⟨⟨#[65, 76, 76, 79, 84]⟩, false, 0, 107, ⟨0, 0⟩⟩, ⟨⟨#[44]⟩, false, 0, 108, ⟨0, 0⟩⟩, ⟨⟨#[67, 79, 77, 80, 73, 76, 69, 44]⟩, false, 0, 109, ⟨0, 0⟩⟩, ⟨⟨#[73, 77, 77, 69, 68, 73, 65, 84, 69]⟩, false, 0, 110, ⟨0, 0⟩⟩]

theorem base_is : dict_Base.f 400 = some baseL := by kernel_rfl
theorem awake_is : tenterhooklaw11_awake.f 400 = some true := by decide +kernel
theorem bsome {α β : Type} (x : α) (f : α → Option β) : ((some x).bind f) = f x := rfl
def G (x : Int) : Option Bool := (op_Name.f x).bind fun t194 => ((dict_Find.f 400 baseL t194).bind fun bt195 => ((op_Hidden.f x).bind fun t197 => (if (bt195.2 == t197) = true then (tenterhooklaw11_DictBase.j0 400 true baseL x bt195.1 bt195.2 true) else (tenterhooklaw11_DictBase.j0 400 true baseL x bt195.1 bt195.2 ((baseL.length : Int) == 0)))))
theorem check : (List.range 111).all (fun x => G (x : Int) == some true) = true := by decide +kernel
theorem DictBase : tenterhooklaw11_DictBase.Pure := by
  intro a0 hw
  refine ⟨400, ?_⟩
  unfold tenterhooklaw11_DictBase.f
  rw [awake_is, base_is, bsome, bsome, i64_and65535]
  obtain ⟨x, hx, hxe⟩ : ∃ x : Nat, x < 111 ∧ (a0 % 65536).tmod 111 = (x : Int) := by
    refine ⟨((a0 % 65536).tmod 111).toNat, ?_, ?_⟩
    · have := Int.tmod_eq_emod_of_nonneg (a := a0 % 65536) (b := 111) (by omega)
      omega
    · have := Int.tmod_eq_emod_of_nonneg (a := a0 % 65536) (b := 111) (by omega)
      omega
  rw [hxe]
  have h := List.all_eq_true.mp check x (List.mem_range.mpr hx)
  exact eq_of_beq h


end Go.Proofs.Ytbgihgkobojfaaa.Pure
