-- Written by this session's wip/gen.py (it drives the kit's print over a plain variation's bodies of some functions; their contracts are proved by hand).
import Derived.Test.YtlfdempjfjgbdaaPOpIsx0
namespace Go.Proofs.Ytlfdempjfjgbdaa.POpIs
open Go.RowKit Go.Proofs.YtlfdempjfjgbdaaW.PrintWords Go.Proofs.YtlfdempjfjgbdaaW.PrintLast Go.Proofs.YtlfdempjfjgbdaaW.PrintMore
attribute [local go_sem] max2_int min2_int max_two min_two max_three min_three max_four min_four   -- for this text's walks alone
set_option linter.unusedVariables false
set_option linter.unusedSimpArgs false

/-! ### op_names: function 20 -/
def op_names.f  : Option (List ByteArray) := some (([(⟨#[40, 76, 73, 84, 41]⟩ : ByteArray), (⟨#[40, 66, 82, 65, 78, 67, 72, 41]⟩ : ByteArray), (⟨#[40, 48, 66, 82, 65, 78, 67, 72, 41]⟩ : ByteArray), (⟨#[40, 67, 65, 76, 76, 41]⟩ : ByteArray), (⟨#[69, 88, 73, 84]⟩ : ByteArray), (⟨#[40, 68, 79, 41]⟩ : ByteArray), (⟨#[40, 63, 68, 79, 41]⟩ : ByteArray), (⟨#[40, 76, 79, 79, 80, 41]⟩ : ByteArray), (⟨#[40, 43, 76, 79, 79, 80, 41]⟩ : ByteArray), (⟨#[85, 78, 76, 79, 79, 80]⟩ : ByteArray), (⟨#[73]⟩ : ByteArray), (⟨#[74]⟩ : ByteArray), (⟨#[62, 82]⟩ : ByteArray), (⟨#[82, 62]⟩ : ByteArray), (⟨#[82, 64]⟩ : ByteArray), (⟨#[69, 88, 69, 67, 85, 84, 69]⟩ : ByteArray), (⟨#[67, 65, 84, 67, 72]⟩ : ByteArray), (⟨#[84, 72, 82, 79, 87]⟩ : ByteArray), (⟨#[68, 85, 80]⟩ : ByteArray), (⟨#[68, 82, 79, 80]⟩ : ByteArray), (⟨#[83, 87, 65, 80]⟩ : ByteArray), (⟨#[79, 86, 69, 82]⟩ : ByteArray), (⟨#[82, 79, 84]⟩ : ByteArray), (⟨#[78, 73, 80]⟩ : ByteArray), (⟨#[84, 85, 67, 75]⟩ : ByteArray), (⟨#[50, 68, 85, 80]⟩ : ByteArray), (⟨#[50, 68, 82, 79, 80]⟩ : ByteArray), (⟨#[50, 83, 87, 65, 80]⟩ : ByteArray), (⟨#[50, 79, 86, 69, 82]⟩ : ByteArray), (⟨#[63, 68, 85, 80]⟩ : ByteArray), (⟨#[80, 73, 67, 75]⟩ : ByteArray), (⟨#[82, 79, 76, 76]⟩ : ByteArray), (⟨#[68, 69, 80, 84, 72]⟩ : ByteArray), (⟨#[43]⟩ : ByteArray), (⟨#[45]⟩ : ByteArray), (⟨#[42]⟩ : ByteArray), (⟨#[47]⟩ : ByteArray), (⟨#[77, 79, 68]⟩ : ByteArray), (⟨#[47, 77, 79, 68]⟩ : ByteArray), (⟨#[42, 47]⟩ : ByteArray), (⟨#[42, 47, 77, 79, 68]⟩ : ByteArray), (⟨#[49, 43]⟩ : ByteArray), (⟨#[49, 45]⟩ : ByteArray), (⟨#[50, 42]⟩ : ByteArray), (⟨#[50, 47]⟩ : ByteArray), (⟨#[78, 69, 71, 65, 84, 69]⟩ : ByteArray), (⟨#[65, 66, 83]⟩ : ByteArray), (⟨#[77, 73, 78]⟩ : ByteArray), (⟨#[77, 65, 88]⟩ : ByteArray), (⟨#[65, 78, 68]⟩ : ByteArray), (⟨#[79, 82]⟩ : ByteArray), (⟨#[88, 79, 82]⟩ : ByteArray), (⟨#[73, 78, 86, 69, 82, 84]⟩ : ByteArray), (⟨#[76, 83, 72, 73, 70, 84]⟩ : ByteArray), (⟨#[82, 83, 72, 73, 70, 84]⟩ : ByteArray), (⟨#[61]⟩ : ByteArray), (⟨#[60, 62]⟩ : ByteArray), (⟨#[60]⟩ : ByteArray), (⟨#[62]⟩ : ByteArray), (⟨#[85, 60]⟩ : ByteArray), (⟨#[48, 61]⟩ : ByteArray), (⟨#[48, 60]⟩ : ByteArray), (⟨#[87, 73, 84, 72, 73, 78]⟩ : ByteArray), (⟨#[85, 77, 42]⟩ : ByteArray), (⟨#[77, 42]⟩ : ByteArray), (⟨#[85, 77, 47, 77, 79, 68]⟩ : ByteArray), (⟨#[70, 77, 47, 77, 79, 68]⟩ : ByteArray), (⟨#[83, 77, 47, 82, 69, 77]⟩ : ByteArray), (⟨#[83, 62, 68]⟩ : ByteArray), (⟨#[68, 43]⟩ : ByteArray), (⟨#[68, 78, 69, 71, 65, 84, 69]⟩ : ByteArray), (⟨#[67, 69, 76, 76, 83]⟩ : ByteArray), (⟨#[67, 69, 76, 76, 43]⟩ : ByteArray), (⟨#[67, 72, 65, 82, 43]⟩ : ByteArray), (⟨#[65, 76, 73, 71, 78, 69, 68]⟩ : ByteArray), (⟨#[64]⟩ : ByteArray), (⟨#[33]⟩ : ByteArray), (⟨#[67, 64]⟩ : ByteArray), (⟨#[67, 33]⟩ : ByteArray), (⟨#[43, 33]⟩ : ByteArray), (⟨#[70, 73, 76, 76]⟩ : ByteArray), (⟨#[77, 79, 86, 69]⟩ : ByteArray), (⟨#[67, 65, 83]⟩ : ByteArray), (⟨#[69, 77, 73, 84]⟩ : ByteArray), (⟨#[84, 89, 80, 69]⟩ : ByteArray), (⟨#[46]⟩ : ByteArray), (⟨#[85, 46]⟩ : ByteArray), (⟨#[67, 82]⟩ : ByteArray), (⟨#[83, 80, 65, 67, 69]⟩ : ByteArray), (⟨#[60, 35]⟩ : ByteArray), (⟨#[35]⟩ : ByteArray), (⟨#[35, 83]⟩ : ByteArray), (⟨#[72, 79, 76, 68]⟩ : ByteArray), (⟨#[83, 73, 71, 78]⟩ : ByteArray), (⟨#[35, 62]⟩ : ByteArray), (⟨#[66, 65, 83, 69]⟩ : ByteArray), (⟨#[68, 69, 67, 73, 77, 65, 76]⟩ : ByteArray), (⟨#[72, 69, 88]⟩ : ByteArray), (⟨#[77, 69]⟩ : ByteArray), (⟨#[84, 73, 67, 75, 83]⟩ : ByteArray), (⟨#[80, 65, 85, 83, 69]⟩ : ByteArray), (⟨#[83, 76, 69, 69, 80]⟩ : ByteArray), (⟨#[66, 89, 69]⟩ : ByteArray), (⟨#[78, 79, 84, 69]⟩ : ByteArray), (⟨#[67, 82, 69, 65, 84, 69]⟩ : ByteArray), (⟨#[40, 68, 79, 69, 83, 41]⟩ : ByteArray), (⟨#[72, 69, 82, 69]⟩ : ByteArray), (⟨#[65, 76, 76, 79, 84]⟩ : ByteArray), (⟨#[44]⟩ : ByteArray), (⟨#[67, 79, 77, 80, 73, 76, 69, 44]⟩ : ByteArray), (⟨#[73, 77, 77, 69, 68, 73, 65, 84, 69]⟩ : ByteArray)] : List ByteArray))
set_option maxHeartbeats 8000000 in
set_option maxRecDepth 100000 in
theorem op_names.calls  (r : List ByteArray) (w : World) (h : op_names.f  = some r) :
    Calls Try.prog 20 #[] w fun e w' => ∃ v0_ : Value, e = .returned (v0_) ∧ Kd.R Kd.string 9 w' w.heap.size (fun _ => True) v0_ r ∧ Below w.heap.size w w' := by
  have HB := Aside0.mk (Below.refl w.heap.size w)
  have H : (some (([(⟨#[40, 76, 73, 84, 41]⟩ : ByteArray), (⟨#[40, 66, 82, 65, 78, 67, 72, 41]⟩ : ByteArray), (⟨#[40, 48, 66, 82, 65, 78, 67, 72, 41]⟩ : ByteArray), (⟨#[40, 67, 65, 76, 76, 41]⟩ : ByteArray), (⟨#[69, 88, 73, 84]⟩ : ByteArray), (⟨#[40, 68, 79, 41]⟩ : ByteArray), (⟨#[40, 63, 68, 79, 41]⟩ : ByteArray), (⟨#[40, 76, 79, 79, 80, 41]⟩ : ByteArray), (⟨#[40, 43, 76, 79, 79, 80, 41]⟩ : ByteArray), (⟨#[85, 78, 76, 79, 79, 80]⟩ : ByteArray), (⟨#[73]⟩ : ByteArray), (⟨#[74]⟩ : ByteArray), (⟨#[62, 82]⟩ : ByteArray), (⟨#[82, 62]⟩ : ByteArray), (⟨#[82, 64]⟩ : ByteArray), (⟨#[69, 88, 69, 67, 85, 84, 69]⟩ : ByteArray), (⟨#[67, 65, 84, 67, 72]⟩ : ByteArray), (⟨#[84, 72, 82, 79, 87]⟩ : ByteArray), (⟨#[68, 85, 80]⟩ : ByteArray), (⟨#[68, 82, 79, 80]⟩ : ByteArray), (⟨#[83, 87, 65, 80]⟩ : ByteArray), (⟨#[79, 86, 69, 82]⟩ : ByteArray), (⟨#[82, 79, 84]⟩ : ByteArray), (⟨#[78, 73, 80]⟩ : ByteArray), (⟨#[84, 85, 67, 75]⟩ : ByteArray), (⟨#[50, 68, 85, 80]⟩ : ByteArray), (⟨#[50, 68, 82, 79, 80]⟩ : ByteArray), (⟨#[50, 83, 87, 65, 80]⟩ : ByteArray), (⟨#[50, 79, 86, 69, 82]⟩ : ByteArray), (⟨#[63, 68, 85, 80]⟩ : ByteArray), (⟨#[80, 73, 67, 75]⟩ : ByteArray), (⟨#[82, 79, 76, 76]⟩ : ByteArray), (⟨#[68, 69, 80, 84, 72]⟩ : ByteArray), (⟨#[43]⟩ : ByteArray), (⟨#[45]⟩ : ByteArray), (⟨#[42]⟩ : ByteArray), (⟨#[47]⟩ : ByteArray), (⟨#[77, 79, 68]⟩ : ByteArray), (⟨#[47, 77, 79, 68]⟩ : ByteArray), (⟨#[42, 47]⟩ : ByteArray), (⟨#[42, 47, 77, 79, 68]⟩ : ByteArray), (⟨#[49, 43]⟩ : ByteArray), (⟨#[49, 45]⟩ : ByteArray), (⟨#[50, 42]⟩ : ByteArray), (⟨#[50, 47]⟩ : ByteArray), (⟨#[78, 69, 71, 65, 84, 69]⟩ : ByteArray), (⟨#[65, 66, 83]⟩ : ByteArray), (⟨#[77, 73, 78]⟩ : ByteArray), (⟨#[77, 65, 88]⟩ : ByteArray), (⟨#[65, 78, 68]⟩ : ByteArray), (⟨#[79, 82]⟩ : ByteArray), (⟨#[88, 79, 82]⟩ : ByteArray), (⟨#[73, 78, 86, 69, 82, 84]⟩ : ByteArray), (⟨#[76, 83, 72, 73, 70, 84]⟩ : ByteArray), (⟨#[82, 83, 72, 73, 70, 84]⟩ : ByteArray), (⟨#[61]⟩ : ByteArray), (⟨#[60, 62]⟩ : ByteArray), (⟨#[60]⟩ : ByteArray), (⟨#[62]⟩ : ByteArray), (⟨#[85, 60]⟩ : ByteArray), (⟨#[48, 61]⟩ : ByteArray), (⟨#[48, 60]⟩ : ByteArray), (⟨#[87, 73, 84, 72, 73, 78]⟩ : ByteArray), (⟨#[85, 77, 42]⟩ : ByteArray), (⟨#[77, 42]⟩ : ByteArray), (⟨#[85, 77, 47, 77, 79, 68]⟩ : ByteArray), (⟨#[70, 77, 47, 77, 79, 68]⟩ : ByteArray), (⟨#[83, 77, 47, 82, 69, 77]⟩ : ByteArray), (⟨#[83, 62, 68]⟩ : ByteArray), (⟨#[68, 43]⟩ : ByteArray), (⟨#[68, 78, 69, 71, 65, 84, 69]⟩ : ByteArray), (⟨#[67, 69, 76, 76, 83]⟩ : ByteArray), (⟨#[67, 69, 76, 76, 43]⟩ : ByteArray), (⟨#[67, 72, 65, 82, 43]⟩ : ByteArray), (⟨#[65, 76, 73, 71, 78, 69, 68]⟩ : ByteArray), (⟨#[64]⟩ : ByteArray), (⟨#[33]⟩ : ByteArray), (⟨#[67, 64]⟩ : ByteArray), (⟨#[67, 33]⟩ : ByteArray), (⟨#[43, 33]⟩ : ByteArray), (⟨#[70, 73, 76, 76]⟩ : ByteArray), (⟨#[77, 79, 86, 69]⟩ : ByteArray), (⟨#[67, 65, 83]⟩ : ByteArray), (⟨#[69, 77, 73, 84]⟩ : ByteArray), (⟨#[84, 89, 80, 69]⟩ : ByteArray), (⟨#[46]⟩ : ByteArray), (⟨#[85, 46]⟩ : ByteArray), (⟨#[67, 82]⟩ : ByteArray), (⟨#[83, 80, 65, 67, 69]⟩ : ByteArray), (⟨#[60, 35]⟩ : ByteArray), (⟨#[35]⟩ : ByteArray), (⟨#[35, 83]⟩ : ByteArray), (⟨#[72, 79, 76, 68]⟩ : ByteArray), (⟨#[83, 73, 71, 78]⟩ : ByteArray), (⟨#[35, 62]⟩ : ByteArray), (⟨#[66, 65, 83, 69]⟩ : ByteArray), (⟨#[68, 69, 67, 73, 77, 65, 76]⟩ : ByteArray), (⟨#[72, 69, 88]⟩ : ByteArray), (⟨#[77, 69]⟩ : ByteArray), (⟨#[84, 73, 67, 75, 83]⟩ : ByteArray), (⟨#[80, 65, 85, 83, 69]⟩ : ByteArray), (⟨#[83, 76, 69, 69, 80]⟩ : ByteArray), (⟨#[66, 89, 69]⟩ : ByteArray), (⟨#[78, 79, 84, 69]⟩ : ByteArray), (⟨#[67, 82, 69, 65, 84, 69]⟩ : ByteArray), (⟨#[40, 68, 79, 69, 83, 41]⟩ : ByteArray), (⟨#[72, 69, 82, 69]⟩ : ByteArray), (⟨#[65, 76, 76, 79, 84]⟩ : ByteArray), (⟨#[44]⟩ : ByteArray), (⟨#[67, 79, 77, 80, 73, 76, 69, 44]⟩ : ByteArray), (⟨#[73, 77, 77, 69, 68, 73, 65, 84, 69]⟩ : ByteArray)] : List ByteArray))) = some r := h
  clear h
  obtain ⟨y101, hy101⟩ : ∃ y_ : List ByteArray, y_ = (([(⟨#[40, 76, 73, 84, 41]⟩ : ByteArray), (⟨#[40, 66, 82, 65, 78, 67, 72, 41]⟩ : ByteArray), (⟨#[40, 48, 66, 82, 65, 78, 67, 72, 41]⟩ : ByteArray), (⟨#[40, 67, 65, 76, 76, 41]⟩ : ByteArray), (⟨#[69, 88, 73, 84]⟩ : ByteArray), (⟨#[40, 68, 79, 41]⟩ : ByteArray), (⟨#[40, 63, 68, 79, 41]⟩ : ByteArray), (⟨#[40, 76, 79, 79, 80, 41]⟩ : ByteArray), (⟨#[40, 43, 76, 79, 79, 80, 41]⟩ : ByteArray), (⟨#[85, 78, 76, 79, 79, 80]⟩ : ByteArray), (⟨#[73]⟩ : ByteArray), (⟨#[74]⟩ : ByteArray), (⟨#[62, 82]⟩ : ByteArray), (⟨#[82, 62]⟩ : ByteArray), (⟨#[82, 64]⟩ : ByteArray), (⟨#[69, 88, 69, 67, 85, 84, 69]⟩ : ByteArray), (⟨#[67, 65, 84, 67, 72]⟩ : ByteArray), (⟨#[84, 72, 82, 79, 87]⟩ : ByteArray), (⟨#[68, 85, 80]⟩ : ByteArray), (⟨#[68, 82, 79, 80]⟩ : ByteArray), (⟨#[83, 87, 65, 80]⟩ : ByteArray), (⟨#[79, 86, 69, 82]⟩ : ByteArray), (⟨#[82, 79, 84]⟩ : ByteArray), (⟨#[78, 73, 80]⟩ : ByteArray), (⟨#[84, 85, 67, 75]⟩ : ByteArray), (⟨#[50, 68, 85, 80]⟩ : ByteArray), (⟨#[50, 68, 82, 79, 80]⟩ : ByteArray), (⟨#[50, 83, 87, 65, 80]⟩ : ByteArray), (⟨#[50, 79, 86, 69, 82]⟩ : ByteArray), (⟨#[63, 68, 85, 80]⟩ : ByteArray), (⟨#[80, 73, 67, 75]⟩ : ByteArray), (⟨#[82, 79, 76, 76]⟩ : ByteArray), (⟨#[68, 69, 80, 84, 72]⟩ : ByteArray), (⟨#[43]⟩ : ByteArray), (⟨#[45]⟩ : ByteArray), (⟨#[42]⟩ : ByteArray), (⟨#[47]⟩ : ByteArray), (⟨#[77, 79, 68]⟩ : ByteArray), (⟨#[47, 77, 79, 68]⟩ : ByteArray), (⟨#[42, 47]⟩ : ByteArray), (⟨#[42, 47, 77, 79, 68]⟩ : ByteArray), (⟨#[49, 43]⟩ : ByteArray), (⟨#[49, 45]⟩ : ByteArray), (⟨#[50, 42]⟩ : ByteArray), (⟨#[50, 47]⟩ : ByteArray), (⟨#[78, 69, 71, 65, 84, 69]⟩ : ByteArray), (⟨#[65, 66, 83]⟩ : ByteArray), (⟨#[77, 73, 78]⟩ : ByteArray), (⟨#[77, 65, 88]⟩ : ByteArray), (⟨#[65, 78, 68]⟩ : ByteArray), (⟨#[79, 82]⟩ : ByteArray), (⟨#[88, 79, 82]⟩ : ByteArray), (⟨#[73, 78, 86, 69, 82, 84]⟩ : ByteArray), (⟨#[76, 83, 72, 73, 70, 84]⟩ : ByteArray), (⟨#[82, 83, 72, 73, 70, 84]⟩ : ByteArray), (⟨#[61]⟩ : ByteArray), (⟨#[60, 62]⟩ : ByteArray), (⟨#[60]⟩ : ByteArray), (⟨#[62]⟩ : ByteArray), (⟨#[85, 60]⟩ : ByteArray), (⟨#[48, 61]⟩ : ByteArray), (⟨#[48, 60]⟩ : ByteArray), (⟨#[87, 73, 84, 72, 73, 78]⟩ : ByteArray), (⟨#[85, 77, 42]⟩ : ByteArray), (⟨#[77, 42]⟩ : ByteArray), (⟨#[85, 77, 47, 77, 79, 68]⟩ : ByteArray), (⟨#[70, 77, 47, 77, 79, 68]⟩ : ByteArray), (⟨#[83, 77, 47, 82, 69, 77]⟩ : ByteArray), (⟨#[83, 62, 68]⟩ : ByteArray), (⟨#[68, 43]⟩ : ByteArray), (⟨#[68, 78, 69, 71, 65, 84, 69]⟩ : ByteArray), (⟨#[67, 69, 76, 76, 83]⟩ : ByteArray), (⟨#[67, 69, 76, 76, 43]⟩ : ByteArray), (⟨#[67, 72, 65, 82, 43]⟩ : ByteArray), (⟨#[65, 76, 73, 71, 78, 69, 68]⟩ : ByteArray), (⟨#[64]⟩ : ByteArray), (⟨#[33]⟩ : ByteArray), (⟨#[67, 64]⟩ : ByteArray), (⟨#[67, 33]⟩ : ByteArray), (⟨#[43, 33]⟩ : ByteArray), (⟨#[70, 73, 76, 76]⟩ : ByteArray), (⟨#[77, 79, 86, 69]⟩ : ByteArray), (⟨#[67, 65, 83]⟩ : ByteArray), (⟨#[69, 77, 73, 84]⟩ : ByteArray), (⟨#[84, 89, 80, 69]⟩ : ByteArray), (⟨#[46]⟩ : ByteArray), (⟨#[85, 46]⟩ : ByteArray), (⟨#[67, 82]⟩ : ByteArray), (⟨#[83, 80, 65, 67, 69]⟩ : ByteArray), (⟨#[60, 35]⟩ : ByteArray), (⟨#[35]⟩ : ByteArray), (⟨#[35, 83]⟩ : ByteArray), (⟨#[72, 79, 76, 68]⟩ : ByteArray), (⟨#[83, 73, 71, 78]⟩ : ByteArray), (⟨#[35, 62]⟩ : ByteArray), (⟨#[66, 65, 83, 69]⟩ : ByteArray), (⟨#[68, 69, 67, 73, 77, 65, 76]⟩ : ByteArray), (⟨#[72, 69, 88]⟩ : ByteArray), (⟨#[77, 69]⟩ : ByteArray), (⟨#[84, 73, 67, 75, 83]⟩ : ByteArray), (⟨#[80, 65, 85, 83, 69]⟩ : ByteArray), (⟨#[83, 76, 69, 69, 80]⟩ : ByteArray), (⟨#[66, 89, 69]⟩ : ByteArray), (⟨#[78, 79, 84, 69]⟩ : ByteArray), (⟨#[67, 82, 69, 65, 84, 69]⟩ : ByteArray), (⟨#[40, 68, 79, 69, 83, 41]⟩ : ByteArray), (⟨#[72, 69, 82, 69]⟩ : ByteArray), (⟨#[65, 76, 76, 79, 84]⟩ : ByteArray), (⟨#[44]⟩ : ByteArray), (⟨#[67, 79, 77, 80, 73, 76, 69, 44]⟩ : ByteArray), (⟨#[73, 77, 77, 69, 68, 73, 65, 84, 69]⟩ : ByteArray)] : List ByteArray)) := ⟨_, rfl⟩
  replace H : (some y101) = some r := by first | (rw [hy101]; with_reducible exact H) | (have H2_ := (Option.bind_some _ _).symm.trans H; rw [hy101]; with_reducible exact H2_) | (have H2_ := (Option.bind_some _ _).symm.trans H; with_reducible exact H2_) | with_reducible exact H | (rw [hy101]; exact H) | exact H
  have Ny101 := Aside0.mk hy101
  clear hy101
  obtain rfl := Option.some.inj H
  go_enter Try.func20, Try.ntmps20
  go_wp2_with (first | ((with_reducible refine gate_dst (N := 1) rfl ?_); refine Kd.R_lit Kd.string _ 9 ?hg (N := 1) ?hd (xs := ([(⟨#[40, 76, 73, 84, 41]⟩ : ByteArray), (⟨#[40, 66, 82, 65, 78, 67, 72, 41]⟩ : ByteArray), (⟨#[40, 48, 66, 82, 65, 78, 67, 72, 41]⟩ : ByteArray), (⟨#[40, 67, 65, 76, 76, 41]⟩ : ByteArray), (⟨#[69, 88, 73, 84]⟩ : ByteArray), (⟨#[40, 68, 79, 41]⟩ : ByteArray), (⟨#[40, 63, 68, 79, 41]⟩ : ByteArray), (⟨#[40, 76, 79, 79, 80, 41]⟩ : ByteArray), (⟨#[40, 43, 76, 79, 79, 80, 41]⟩ : ByteArray), (⟨#[85, 78, 76, 79, 79, 80]⟩ : ByteArray), (⟨#[73]⟩ : ByteArray), (⟨#[74]⟩ : ByteArray), (⟨#[62, 82]⟩ : ByteArray), (⟨#[82, 62]⟩ : ByteArray), (⟨#[82, 64]⟩ : ByteArray), (⟨#[69, 88, 69, 67, 85, 84, 69]⟩ : ByteArray), (⟨#[67, 65, 84, 67, 72]⟩ : ByteArray), (⟨#[84, 72, 82, 79, 87]⟩ : ByteArray), (⟨#[68, 85, 80]⟩ : ByteArray), (⟨#[68, 82, 79, 80]⟩ : ByteArray), (⟨#[83, 87, 65, 80]⟩ : ByteArray), (⟨#[79, 86, 69, 82]⟩ : ByteArray), (⟨#[82, 79, 84]⟩ : ByteArray), (⟨#[78, 73, 80]⟩ : ByteArray), (⟨#[84, 85, 67, 75]⟩ : ByteArray), (⟨#[50, 68, 85, 80]⟩ : ByteArray), (⟨#[50, 68, 82, 79, 80]⟩ : ByteArray), (⟨#[50, 83, 87, 65, 80]⟩ : ByteArray), (⟨#[50, 79, 86, 69, 82]⟩ : ByteArray), (⟨#[63, 68, 85, 80]⟩ : ByteArray), (⟨#[80, 73, 67, 75]⟩ : ByteArray), (⟨#[82, 79, 76, 76]⟩ : ByteArray), (⟨#[68, 69, 80, 84, 72]⟩ : ByteArray), (⟨#[43]⟩ : ByteArray), (⟨#[45]⟩ : ByteArray), (⟨#[42]⟩ : ByteArray), (⟨#[47]⟩ : ByteArray), (⟨#[77, 79, 68]⟩ : ByteArray), (⟨#[47, 77, 79, 68]⟩ : ByteArray), (⟨#[42, 47]⟩ : ByteArray), (⟨#[42, 47, 77, 79, 68]⟩ : ByteArray), (⟨#[49, 43]⟩ : ByteArray), (⟨#[49, 45]⟩ : ByteArray), (⟨#[50, 42]⟩ : ByteArray), (⟨#[50, 47]⟩ : ByteArray), (⟨#[78, 69, 71, 65, 84, 69]⟩ : ByteArray), (⟨#[65, 66, 83]⟩ : ByteArray), (⟨#[77, 73, 78]⟩ : ByteArray), (⟨#[77, 65, 88]⟩ : ByteArray), (⟨#[65, 78, 68]⟩ : ByteArray), (⟨#[79, 82]⟩ : ByteArray), (⟨#[88, 79, 82]⟩ : ByteArray), (⟨#[73, 78, 86, 69, 82, 84]⟩ : ByteArray), (⟨#[76, 83, 72, 73, 70, 84]⟩ : ByteArray), (⟨#[82, 83, 72, 73, 70, 84]⟩ : ByteArray), (⟨#[61]⟩ : ByteArray), (⟨#[60, 62]⟩ : ByteArray), (⟨#[60]⟩ : ByteArray), (⟨#[62]⟩ : ByteArray), (⟨#[85, 60]⟩ : ByteArray), (⟨#[48, 61]⟩ : ByteArray), (⟨#[48, 60]⟩ : ByteArray), (⟨#[87, 73, 84, 72, 73, 78]⟩ : ByteArray), (⟨#[85, 77, 42]⟩ : ByteArray), (⟨#[77, 42]⟩ : ByteArray), (⟨#[85, 77, 47, 77, 79, 68]⟩ : ByteArray), (⟨#[70, 77, 47, 77, 79, 68]⟩ : ByteArray), (⟨#[83, 77, 47, 82, 69, 77]⟩ : ByteArray), (⟨#[83, 62, 68]⟩ : ByteArray), (⟨#[68, 43]⟩ : ByteArray), (⟨#[68, 78, 69, 71, 65, 84, 69]⟩ : ByteArray), (⟨#[67, 69, 76, 76, 83]⟩ : ByteArray), (⟨#[67, 69, 76, 76, 43]⟩ : ByteArray), (⟨#[67, 72, 65, 82, 43]⟩ : ByteArray), (⟨#[65, 76, 73, 71, 78, 69, 68]⟩ : ByteArray), (⟨#[64]⟩ : ByteArray), (⟨#[33]⟩ : ByteArray), (⟨#[67, 64]⟩ : ByteArray), (⟨#[67, 33]⟩ : ByteArray), (⟨#[43, 33]⟩ : ByteArray), (⟨#[70, 73, 76, 76]⟩ : ByteArray), (⟨#[77, 79, 86, 69]⟩ : ByteArray), (⟨#[67, 65, 83]⟩ : ByteArray), (⟨#[69, 77, 73, 84]⟩ : ByteArray), (⟨#[84, 89, 80, 69]⟩ : ByteArray), (⟨#[46]⟩ : ByteArray), (⟨#[85, 46]⟩ : ByteArray), (⟨#[67, 82]⟩ : ByteArray), (⟨#[83, 80, 65, 67, 69]⟩ : ByteArray), (⟨#[60, 35]⟩ : ByteArray), (⟨#[35]⟩ : ByteArray), (⟨#[35, 83]⟩ : ByteArray), (⟨#[72, 79, 76, 68]⟩ : ByteArray), (⟨#[83, 73, 71, 78]⟩ : ByteArray), (⟨#[35, 62]⟩ : ByteArray), (⟨#[66, 65, 83, 69]⟩ : ByteArray), (⟨#[68, 69, 67, 73, 77, 65, 76]⟩ : ByteArray), (⟨#[72, 69, 88]⟩ : ByteArray), (⟨#[77, 69]⟩ : ByteArray), (⟨#[84, 73, 67, 75, 83]⟩ : ByteArray), (⟨#[80, 65, 85, 83, 69]⟩ : ByteArray), (⟨#[83, 76, 69, 69, 80]⟩ : ByteArray), (⟨#[66, 89, 69]⟩ : ByteArray), (⟨#[78, 79, 84, 69]⟩ : ByteArray), (⟨#[67, 82, 69, 65, 84, 69]⟩ : ByteArray), (⟨#[40, 68, 79, 69, 83, 41]⟩ : ByteArray), (⟨#[72, 69, 82, 69]⟩ : ByteArray), (⟨#[65, 76, 76, 79, 84]⟩ : ByteArray), (⟨#[44]⟩ : ByteArray), (⟨#[67, 79, 77, 80, 73, 76, 69, 44]⟩ : ByteArray), (⟨#[73, 77, 77, 69, 68, 73, 65, 84, 69]⟩ : ByteArray)] : List ByteArray)) (inner := [.string (⟨#[40, 76, 73, 84, 41]⟩ : ByteArray), .string (⟨#[40, 66, 82, 65, 78, 67, 72, 41]⟩ : ByteArray), .string (⟨#[40, 48, 66, 82, 65, 78, 67, 72, 41]⟩ : ByteArray), .string (⟨#[40, 67, 65, 76, 76, 41]⟩ : ByteArray), .string (⟨#[69, 88, 73, 84]⟩ : ByteArray), .string (⟨#[40, 68, 79, 41]⟩ : ByteArray), .string (⟨#[40, 63, 68, 79, 41]⟩ : ByteArray), .string (⟨#[40, 76, 79, 79, 80, 41]⟩ : ByteArray), .string (⟨#[40, 43, 76, 79, 79, 80, 41]⟩ : ByteArray), .string (⟨#[85, 78, 76, 79, 79, 80]⟩ : ByteArray), .string (⟨#[73]⟩ : ByteArray), .string (⟨#[74]⟩ : ByteArray), .string (⟨#[62, 82]⟩ : ByteArray), .string (⟨#[82, 62]⟩ : ByteArray), .string (⟨#[82, 64]⟩ : ByteArray), .string (⟨#[69, 88, 69, 67, 85, 84, 69]⟩ : ByteArray), .string (⟨#[67, 65, 84, 67, 72]⟩ : ByteArray), .string (⟨#[84, 72, 82, 79, 87]⟩ : ByteArray), .string (⟨#[68, 85, 80]⟩ : ByteArray), .string (⟨#[68, 82, 79, 80]⟩ : ByteArray), .string (⟨#[83, 87, 65, 80]⟩ : ByteArray), .string (⟨#[79, 86, 69, 82]⟩ : ByteArray), .string (⟨#[82, 79, 84]⟩ : ByteArray), .string (⟨#[78, 73, 80]⟩ : ByteArray), .string (⟨#[84, 85, 67, 75]⟩ : ByteArray), .string (⟨#[50, 68, 85, 80]⟩ : ByteArray), .string (⟨#[50, 68, 82, 79, 80]⟩ : ByteArray), .string (⟨#[50, 83, 87, 65, 80]⟩ : ByteArray), .string (⟨#[50, 79, 86, 69, 82]⟩ : ByteArray), .string (⟨#[63, 68, 85, 80]⟩ : ByteArray), .string (⟨#[80, 73, 67, 75]⟩ : ByteArray), .string (⟨#[82, 79, 76, 76]⟩ : ByteArray), .string (⟨#[68, 69, 80, 84, 72]⟩ : ByteArray), .string (⟨#[43]⟩ : ByteArray), .string (⟨#[45]⟩ : ByteArray), .string (⟨#[42]⟩ : ByteArray), .string (⟨#[47]⟩ : ByteArray), .string (⟨#[77, 79, 68]⟩ : ByteArray), .string (⟨#[47, 77, 79, 68]⟩ : ByteArray), .string (⟨#[42, 47]⟩ : ByteArray), .string (⟨#[42, 47, 77, 79, 68]⟩ : ByteArray), .string (⟨#[49, 43]⟩ : ByteArray), .string (⟨#[49, 45]⟩ : ByteArray), .string (⟨#[50, 42]⟩ : ByteArray), .string (⟨#[50, 47]⟩ : ByteArray), .string (⟨#[78, 69, 71, 65, 84, 69]⟩ : ByteArray), .string (⟨#[65, 66, 83]⟩ : ByteArray), .string (⟨#[77, 73, 78]⟩ : ByteArray), .string (⟨#[77, 65, 88]⟩ : ByteArray), .string (⟨#[65, 78, 68]⟩ : ByteArray), .string (⟨#[79, 82]⟩ : ByteArray), .string (⟨#[88, 79, 82]⟩ : ByteArray), .string (⟨#[73, 78, 86, 69, 82, 84]⟩ : ByteArray), .string (⟨#[76, 83, 72, 73, 70, 84]⟩ : ByteArray), .string (⟨#[82, 83, 72, 73, 70, 84]⟩ : ByteArray), .string (⟨#[61]⟩ : ByteArray), .string (⟨#[60, 62]⟩ : ByteArray), .string (⟨#[60]⟩ : ByteArray), .string (⟨#[62]⟩ : ByteArray), .string (⟨#[85, 60]⟩ : ByteArray), .string (⟨#[48, 61]⟩ : ByteArray), .string (⟨#[48, 60]⟩ : ByteArray), .string (⟨#[87, 73, 84, 72, 73, 78]⟩ : ByteArray), .string (⟨#[85, 77, 42]⟩ : ByteArray), .string (⟨#[77, 42]⟩ : ByteArray), .string (⟨#[85, 77, 47, 77, 79, 68]⟩ : ByteArray), .string (⟨#[70, 77, 47, 77, 79, 68]⟩ : ByteArray), .string (⟨#[83, 77, 47, 82, 69, 77]⟩ : ByteArray), .string (⟨#[83, 62, 68]⟩ : ByteArray), .string (⟨#[68, 43]⟩ : ByteArray), .string (⟨#[68, 78, 69, 71, 65, 84, 69]⟩ : ByteArray), .string (⟨#[67, 69, 76, 76, 83]⟩ : ByteArray), .string (⟨#[67, 69, 76, 76, 43]⟩ : ByteArray), .string (⟨#[67, 72, 65, 82, 43]⟩ : ByteArray), .string (⟨#[65, 76, 73, 71, 78, 69, 68]⟩ : ByteArray), .string (⟨#[64]⟩ : ByteArray), .string (⟨#[33]⟩ : ByteArray), .string (⟨#[67, 64]⟩ : ByteArray), .string (⟨#[67, 33]⟩ : ByteArray), .string (⟨#[43, 33]⟩ : ByteArray), .string (⟨#[70, 73, 76, 76]⟩ : ByteArray), .string (⟨#[77, 79, 86, 69]⟩ : ByteArray), .string (⟨#[67, 65, 83]⟩ : ByteArray), .string (⟨#[69, 77, 73, 84]⟩ : ByteArray), .string (⟨#[84, 89, 80, 69]⟩ : ByteArray), .string (⟨#[46]⟩ : ByteArray), .string (⟨#[85, 46]⟩ : ByteArray), .string (⟨#[67, 82]⟩ : ByteArray), .string (⟨#[83, 80, 65, 67, 69]⟩ : ByteArray), .string (⟨#[60, 35]⟩ : ByteArray), .string (⟨#[35]⟩ : ByteArray), .string (⟨#[35, 83]⟩ : ByteArray), .string (⟨#[72, 79, 76, 68]⟩ : ByteArray), .string (⟨#[83, 73, 71, 78]⟩ : ByteArray), .string (⟨#[35, 62]⟩ : ByteArray), .string (⟨#[66, 65, 83, 69]⟩ : ByteArray), .string (⟨#[68, 69, 67, 73, 77, 65, 76]⟩ : ByteArray), .string (⟨#[72, 69, 88]⟩ : ByteArray), .string (⟨#[77, 69]⟩ : ByteArray), .string (⟨#[84, 73, 67, 75, 83]⟩ : ByteArray), .string (⟨#[80, 65, 85, 83, 69]⟩ : ByteArray), .string (⟨#[83, 76, 69, 69, 80]⟩ : ByteArray), .string (⟨#[66, 89, 69]⟩ : ByteArray), .string (⟨#[78, 79, 84, 69]⟩ : ByteArray), .string (⟨#[67, 82, 69, 65, 84, 69]⟩ : ByteArray), .string (⟨#[40, 68, 79, 69, 83, 41]⟩ : ByteArray), .string (⟨#[72, 69, 82, 69]⟩ : ByteArray), .string (⟨#[65, 76, 76, 79, 84]⟩ : ByteArray), .string (⟨#[44]⟩ : ByteArray), .string (⟨#[67, 79, 77, 80, 73, 76, 69, 44]⟩ : ByteArray), .string (⟨#[73, 77, 77, 69, 68, 73, 65, 84, 69]⟩ : ByteArray)]) (ok := fun _ => True) (okp := fun _ => True) ?hr ?hp (fun _ hk => hk) trivial (Below.refl _ _) (Nat.le_refl _) (by simp) ?_; (case hd => rfl); (case hg => rfl); (case hr => kernel_rfl); (case hp => exact (Reps.one (show Kd.M Kd.string _ _ _ (⟨#[40, 76, 73, 84, 41]⟩ : ByteArray) [.string (⟨#[40, 76, 73, 84, 41]⟩ : ByteArray)] from rfl) (Reps.one (show Kd.M Kd.string _ _ _ (⟨#[40, 66, 82, 65, 78, 67, 72, 41]⟩ : ByteArray) [.string (⟨#[40, 66, 82, 65, 78, 67, 72, 41]⟩ : ByteArray)] from rfl) (Reps.one (show Kd.M Kd.string _ _ _ (⟨#[40, 48, 66, 82, 65, 78, 67, 72, 41]⟩ : ByteArray) [.string (⟨#[40, 48, 66, 82, 65, 78, 67, 72, 41]⟩ : ByteArray)] from rfl) (Reps.one (show Kd.M Kd.string _ _ _ (⟨#[40, 67, 65, 76, 76, 41]⟩ : ByteArray) [.string (⟨#[40, 67, 65, 76, 76, 41]⟩ : ByteArray)] from rfl) (Reps.one (show Kd.M Kd.string _ _ _ (⟨#[69, 88, 73, 84]⟩ : ByteArray) [.string (⟨#[69, 88, 73, 84]⟩ : ByteArray)] from rfl) (Reps.one (show Kd.M Kd.string _ _ _ (⟨#[40, 68, 79, 41]⟩ : ByteArray) [.string (⟨#[40, 68, 79, 41]⟩ : ByteArray)] from rfl) (Reps.one (show Kd.M Kd.string _ _ _ (⟨#[40, 63, 68, 79, 41]⟩ : ByteArray) [.string (⟨#[40, 63, 68, 79, 41]⟩ : ByteArray)] from rfl) (Reps.one (show Kd.M Kd.string _ _ _ (⟨#[40, 76, 79, 79, 80, 41]⟩ : ByteArray) [.string (⟨#[40, 76, 79, 79, 80, 41]⟩ : ByteArray)] from rfl) (Reps.one (show Kd.M Kd.string _ _ _ (⟨#[40, 43, 76, 79, 79, 80, 41]⟩ : ByteArray) [.string (⟨#[40, 43, 76, 79, 79, 80, 41]⟩ : ByteArray)] from rfl) (Reps.one (show Kd.M Kd.string _ _ _ (⟨#[85, 78, 76, 79, 79, 80]⟩ : ByteArray) [.string (⟨#[85, 78, 76, 79, 79, 80]⟩ : ByteArray)] from rfl) (Reps.one (show Kd.M Kd.string _ _ _ (⟨#[73]⟩ : ByteArray) [.string (⟨#[73]⟩ : ByteArray)] from rfl) (Reps.one (show Kd.M Kd.string _ _ _ (⟨#[74]⟩ : ByteArray) [.string (⟨#[74]⟩ : ByteArray)] from rfl) (Reps.one (show Kd.M Kd.string _ _ _ (⟨#[62, 82]⟩ : ByteArray) [.string (⟨#[62, 82]⟩ : ByteArray)] from rfl) (Reps.one (show Kd.M Kd.string _ _ _ (⟨#[82, 62]⟩ : ByteArray) [.string (⟨#[82, 62]⟩ : ByteArray)] from rfl) (Reps.one (show Kd.M Kd.string _ _ _ (⟨#[82, 64]⟩ : ByteArray) [.string (⟨#[82, 64]⟩ : ByteArray)] from rfl) (Reps.one (show Kd.M Kd.string _ _ _ (⟨#[69, 88, 69, 67, 85, 84, 69]⟩ : ByteArray) [.string (⟨#[69, 88, 69, 67, 85, 84, 69]⟩ : ByteArray)] from rfl) (Reps.one (show Kd.M Kd.string _ _ _ (⟨#[67, 65, 84, 67, 72]⟩ : ByteArray) [.string (⟨#[67, 65, 84, 67, 72]⟩ : ByteArray)] from rfl) (Reps.one (show Kd.M Kd.string _ _ _ (⟨#[84, 72, 82, 79, 87]⟩ : ByteArray) [.string (⟨#[84, 72, 82, 79, 87]⟩ : ByteArray)] from rfl) (Reps.one (show Kd.M Kd.string _ _ _ (⟨#[68, 85, 80]⟩ : ByteArray) [.string (⟨#[68, 85, 80]⟩ : ByteArray)] from rfl) (Reps.one (show Kd.M Kd.string _ _ _ (⟨#[68, 82, 79, 80]⟩ : ByteArray) [.string (⟨#[68, 82, 79, 80]⟩ : ByteArray)] from rfl) (Reps.one (show Kd.M Kd.string _ _ _ (⟨#[83, 87, 65, 80]⟩ : ByteArray) [.string (⟨#[83, 87, 65, 80]⟩ : ByteArray)] from rfl) (Reps.one (show Kd.M Kd.string _ _ _ (⟨#[79, 86, 69, 82]⟩ : ByteArray) [.string (⟨#[79, 86, 69, 82]⟩ : ByteArray)] from rfl) (Reps.one (show Kd.M Kd.string _ _ _ (⟨#[82, 79, 84]⟩ : ByteArray) [.string (⟨#[82, 79, 84]⟩ : ByteArray)] from rfl) (Reps.one (show Kd.M Kd.string _ _ _ (⟨#[78, 73, 80]⟩ : ByteArray) [.string (⟨#[78, 73, 80]⟩ : ByteArray)] from rfl) (Reps.one (show Kd.M Kd.string _ _ _ (⟨#[84, 85, 67, 75]⟩ : ByteArray) [.string (⟨#[84, 85, 67, 75]⟩ : ByteArray)] from rfl) (Reps.one (show Kd.M Kd.string _ _ _ (⟨#[50, 68, 85, 80]⟩ : ByteArray) [.string (⟨#[50, 68, 85, 80]⟩ : ByteArray)] from rfl) (Reps.one (show Kd.M Kd.string _ _ _ (⟨#[50, 68, 82, 79, 80]⟩ : ByteArray) [.string (⟨#[50, 68, 82, 79, 80]⟩ : ByteArray)] from rfl) (Reps.one (show Kd.M Kd.string _ _ _ (⟨#[50, 83, 87, 65, 80]⟩ : ByteArray) [.string (⟨#[50, 83, 87, 65, 80]⟩ : ByteArray)] from rfl) (Reps.one (show Kd.M Kd.string _ _ _ (⟨#[50, 79, 86, 69, 82]⟩ : ByteArray) [.string (⟨#[50, 79, 86, 69, 82]⟩ : ByteArray)] from rfl) (Reps.one (show Kd.M Kd.string _ _ _ (⟨#[63, 68, 85, 80]⟩ : ByteArray) [.string (⟨#[63, 68, 85, 80]⟩ : ByteArray)] from rfl) (Reps.one (show Kd.M Kd.string _ _ _ (⟨#[80, 73, 67, 75]⟩ : ByteArray) [.string (⟨#[80, 73, 67, 75]⟩ : ByteArray)] from rfl) (Reps.one (show Kd.M Kd.string _ _ _ (⟨#[82, 79, 76, 76]⟩ : ByteArray) [.string (⟨#[82, 79, 76, 76]⟩ : ByteArray)] from rfl) (Reps.one (show Kd.M Kd.string _ _ _ (⟨#[68, 69, 80, 84, 72]⟩ : ByteArray) [.string (⟨#[68, 69, 80, 84, 72]⟩ : ByteArray)] from rfl) (Reps.one (show Kd.M Kd.string _ _ _ (⟨#[43]⟩ : ByteArray) [.string (⟨#[43]⟩ : ByteArray)] from rfl) (Reps.one (show Kd.M Kd.string _ _ _ (⟨#[45]⟩ : ByteArray) [.string (⟨#[45]⟩ : ByteArray)] from rfl) (Reps.one (show Kd.M Kd.string _ _ _ (⟨#[42]⟩ : ByteArray) [.string (⟨#[42]⟩ : ByteArray)] from rfl) (Reps.one (show Kd.M Kd.string _ _ _ (⟨#[47]⟩ : ByteArray) [.string (⟨#[47]⟩ : ByteArray)] from rfl) (Reps.one (show Kd.M Kd.string _ _ _ (⟨#[77, 79, 68]⟩ : ByteArray) [.string (⟨#[77, 79, 68]⟩ : ByteArray)] from rfl) (Reps.one (show Kd.M Kd.string _ _ _ (⟨#[47, 77, 79, 68]⟩ : ByteArray) [.string (⟨#[47, 77, 79, 68]⟩ : ByteArray)] from rfl) (Reps.one (show Kd.M Kd.string _ _ _ (⟨#[42, 47]⟩ : ByteArray) [.string (⟨#[42, 47]⟩ : ByteArray)] from rfl) (Reps.one (show Kd.M Kd.string _ _ _ (⟨#[42, 47, 77, 79, 68]⟩ : ByteArray) [.string (⟨#[42, 47, 77, 79, 68]⟩ : ByteArray)] from rfl) (Reps.one (show Kd.M Kd.string _ _ _ (⟨#[49, 43]⟩ : ByteArray) [.string (⟨#[49, 43]⟩ : ByteArray)] from rfl) (Reps.one (show Kd.M Kd.string _ _ _ (⟨#[49, 45]⟩ : ByteArray) [.string (⟨#[49, 45]⟩ : ByteArray)] from rfl) (Reps.one (show Kd.M Kd.string _ _ _ (⟨#[50, 42]⟩ : ByteArray) [.string (⟨#[50, 42]⟩ : ByteArray)] from rfl) (Reps.one (show Kd.M Kd.string _ _ _ (⟨#[50, 47]⟩ : ByteArray) [.string (⟨#[50, 47]⟩ : ByteArray)] from rfl) (Reps.one (show Kd.M Kd.string _ _ _ (⟨#[78, 69, 71, 65, 84, 69]⟩ : ByteArray) [.string (⟨#[78, 69, 71, 65, 84, 69]⟩ : ByteArray)] from rfl) (Reps.one (show Kd.M Kd.string _ _ _ (⟨#[65, 66, 83]⟩ : ByteArray) [.string (⟨#[65, 66, 83]⟩ : ByteArray)] from rfl) (Reps.one (show Kd.M Kd.string _ _ _ (⟨#[77, 73, 78]⟩ : ByteArray) [.string (⟨#[77, 73, 78]⟩ : ByteArray)] from rfl) (Reps.one (show Kd.M Kd.string _ _ _ (⟨#[77, 65, 88]⟩ : ByteArray) [.string (⟨#[77, 65, 88]⟩ : ByteArray)] from rfl) (Reps.one (show Kd.M Kd.string _ _ _ (⟨#[65, 78, 68]⟩ : ByteArray) [.string (⟨#[65, 78, 68]⟩ : ByteArray)] from rfl) (Reps.one (show Kd.M Kd.string _ _ _ (⟨#[79, 82]⟩ : ByteArray) [.string (⟨#[79, 82]⟩ : ByteArray)] from rfl) (Reps.one (show Kd.M Kd.string _ _ _ (⟨#[88, 79, 82]⟩ : ByteArray) [.string (⟨#[88, 79, 82]⟩ : ByteArray)] from rfl) (Reps.one (show Kd.M Kd.string _ _ _ (⟨#[73, 78, 86, 69, 82, 84]⟩ : ByteArray) [.string (⟨#[73, 78, 86, 69, 82, 84]⟩ : ByteArray)] from rfl) (Reps.one (show Kd.M Kd.string _ _ _ (⟨#[76, 83, 72, 73, 70, 84]⟩ : ByteArray) [.string (⟨#[76, 83, 72, 73, 70, 84]⟩ : ByteArray)] from rfl) (Reps.one (show Kd.M Kd.string _ _ _ (⟨#[82, 83, 72, 73, 70, 84]⟩ : ByteArray) [.string (⟨#[82, 83, 72, 73, 70, 84]⟩ : ByteArray)] from rfl) (Reps.one (show Kd.M Kd.string _ _ _ (⟨#[61]⟩ : ByteArray) [.string (⟨#[61]⟩ : ByteArray)] from rfl) (Reps.one (show Kd.M Kd.string _ _ _ (⟨#[60, 62]⟩ : ByteArray) [.string (⟨#[60, 62]⟩ : ByteArray)] from rfl) (Reps.one (show Kd.M Kd.string _ _ _ (⟨#[60]⟩ : ByteArray) [.string (⟨#[60]⟩ : ByteArray)] from rfl) (Reps.one (show Kd.M Kd.string _ _ _ (⟨#[62]⟩ : ByteArray) [.string (⟨#[62]⟩ : ByteArray)] from rfl) (Reps.one (show Kd.M Kd.string _ _ _ (⟨#[85, 60]⟩ : ByteArray) [.string (⟨#[85, 60]⟩ : ByteArray)] from rfl) (Reps.one (show Kd.M Kd.string _ _ _ (⟨#[48, 61]⟩ : ByteArray) [.string (⟨#[48, 61]⟩ : ByteArray)] from rfl) (Reps.one (show Kd.M Kd.string _ _ _ (⟨#[48, 60]⟩ : ByteArray) [.string (⟨#[48, 60]⟩ : ByteArray)] from rfl) (Reps.one (show Kd.M Kd.string _ _ _ (⟨#[87, 73, 84, 72, 73, 78]⟩ : ByteArray) [.string (⟨#[87, 73, 84, 72, 73, 78]⟩ : ByteArray)] from rfl) (Reps.one (show Kd.M Kd.string _ _ _ (⟨#[85, 77, 42]⟩ : ByteArray) [.string (⟨#[85, 77, 42]⟩ : ByteArray)] from rfl) (Reps.one (show Kd.M Kd.string _ _ _ (⟨#[77, 42]⟩ : ByteArray) [.string (⟨#[77, 42]⟩ : ByteArray)] from rfl) (Reps.one (show Kd.M Kd.string _ _ _ (⟨#[85, 77, 47, 77, 79, 68]⟩ : ByteArray) [.string (⟨#[85, 77, 47, 77, 79, 68]⟩ : ByteArray)] from rfl) (Reps.one (show Kd.M Kd.string _ _ _ (⟨#[70, 77, 47, 77, 79, 68]⟩ : ByteArray) [.string (⟨#[70, 77, 47, 77, 79, 68]⟩ : ByteArray)] from rfl) (Reps.one (show Kd.M Kd.string _ _ _ (⟨#[83, 77, 47, 82, 69, 77]⟩ : ByteArray) [.string (⟨#[83, 77, 47, 82, 69, 77]⟩ : ByteArray)] from rfl) (Reps.one (show Kd.M Kd.string _ _ _ (⟨#[83, 62, 68]⟩ : ByteArray) [.string (⟨#[83, 62, 68]⟩ : ByteArray)] from rfl) (Reps.one (show Kd.M Kd.string _ _ _ (⟨#[68, 43]⟩ : ByteArray) [.string (⟨#[68, 43]⟩ : ByteArray)] from rfl) (Reps.one (show Kd.M Kd.string _ _ _ (⟨#[68, 78, 69, 71, 65, 84, 69]⟩ : ByteArray) [.string (⟨#[68, 78, 69, 71, 65, 84, 69]⟩ : ByteArray)] from rfl) (Reps.one (show Kd.M Kd.string _ _ _ (⟨#[67, 69, 76, 76, 83]⟩ : ByteArray) [.string (⟨#[67, 69, 76, 76, 83]⟩ : ByteArray)] from rfl) (Reps.one (show Kd.M Kd.string _ _ _ (⟨#[67, 69, 76, 76, 43]⟩ : ByteArray) [.string (⟨#[67, 69, 76, 76, 43]⟩ : ByteArray)] from rfl) (Reps.one (show Kd.M Kd.string _ _ _ (⟨#[67, 72, 65, 82, 43]⟩ : ByteArray) [.string (⟨#[67, 72, 65, 82, 43]⟩ : ByteArray)] from rfl) (Reps.one (show Kd.M Kd.string _ _ _ (⟨#[65, 76, 73, 71, 78, 69, 68]⟩ : ByteArray) [.string (⟨#[65, 76, 73, 71, 78, 69, 68]⟩ : ByteArray)] from rfl) (Reps.one (show Kd.M Kd.string _ _ _ (⟨#[64]⟩ : ByteArray) [.string (⟨#[64]⟩ : ByteArray)] from rfl) (Reps.one (show Kd.M Kd.string _ _ _ (⟨#[33]⟩ : ByteArray) [.string (⟨#[33]⟩ : ByteArray)] from rfl) (Reps.one (show Kd.M Kd.string _ _ _ (⟨#[67, 64]⟩ : ByteArray) [.string (⟨#[67, 64]⟩ : ByteArray)] from rfl) (Reps.one (show Kd.M Kd.string _ _ _ (⟨#[67, 33]⟩ : ByteArray) [.string (⟨#[67, 33]⟩ : ByteArray)] from rfl) (Reps.one (show Kd.M Kd.string _ _ _ (⟨#[43, 33]⟩ : ByteArray) [.string (⟨#[43, 33]⟩ : ByteArray)] from rfl) (Reps.one (show Kd.M Kd.string _ _ _ (⟨#[70, 73, 76, 76]⟩ : ByteArray) [.string (⟨#[70, 73, 76, 76]⟩ : ByteArray)] from rfl) (Reps.one (show Kd.M Kd.string _ _ _ (⟨#[77, 79, 86, 69]⟩ : ByteArray) [.string (⟨#[77, 79, 86, 69]⟩ : ByteArray)] from rfl) (Reps.one (show Kd.M Kd.string _ _ _ (⟨#[67, 65, 83]⟩ : ByteArray) [.string (⟨#[67, 65, 83]⟩ : ByteArray)] from rfl) (Reps.one (show Kd.M Kd.string _ _ _ (⟨#[69, 77, 73, 84]⟩ : ByteArray) [.string (⟨#[69, 77, 73, 84]⟩ : ByteArray)] from rfl) (Reps.one (show Kd.M Kd.string _ _ _ (⟨#[84, 89, 80, 69]⟩ : ByteArray) [.string (⟨#[84, 89, 80, 69]⟩ : ByteArray)] from rfl) (Reps.one (show Kd.M Kd.string _ _ _ (⟨#[46]⟩ : ByteArray) [.string (⟨#[46]⟩ : ByteArray)] from rfl) (Reps.one (show Kd.M Kd.string _ _ _ (⟨#[85, 46]⟩ : ByteArray) [.string (⟨#[85, 46]⟩ : ByteArray)] from rfl) (Reps.one (show Kd.M Kd.string _ _ _ (⟨#[67, 82]⟩ : ByteArray) [.string (⟨#[67, 82]⟩ : ByteArray)] from rfl) (Reps.one (show Kd.M Kd.string _ _ _ (⟨#[83, 80, 65, 67, 69]⟩ : ByteArray) [.string (⟨#[83, 80, 65, 67, 69]⟩ : ByteArray)] from rfl) (Reps.one (show Kd.M Kd.string _ _ _ (⟨#[60, 35]⟩ : ByteArray) [.string (⟨#[60, 35]⟩ : ByteArray)] from rfl) (Reps.one (show Kd.M Kd.string _ _ _ (⟨#[35]⟩ : ByteArray) [.string (⟨#[35]⟩ : ByteArray)] from rfl) (Reps.one (show Kd.M Kd.string _ _ _ (⟨#[35, 83]⟩ : ByteArray) [.string (⟨#[35, 83]⟩ : ByteArray)] from rfl) (Reps.one (show Kd.M Kd.string _ _ _ (⟨#[72, 79, 76, 68]⟩ : ByteArray) [.string (⟨#[72, 79, 76, 68]⟩ : ByteArray)] from rfl) (Reps.one (show Kd.M Kd.string _ _ _ (⟨#[83, 73, 71, 78]⟩ : ByteArray) [.string (⟨#[83, 73, 71, 78]⟩ : ByteArray)] from rfl) (Reps.one (show Kd.M Kd.string _ _ _ (⟨#[35, 62]⟩ : ByteArray) [.string (⟨#[35, 62]⟩ : ByteArray)] from rfl) (Reps.one (show Kd.M Kd.string _ _ _ (⟨#[66, 65, 83, 69]⟩ : ByteArray) [.string (⟨#[66, 65, 83, 69]⟩ : ByteArray)] from rfl) (Reps.one (show Kd.M Kd.string _ _ _ (⟨#[68, 69, 67, 73, 77, 65, 76]⟩ : ByteArray) [.string (⟨#[68, 69, 67, 73, 77, 65, 76]⟩ : ByteArray)] from rfl) (Reps.one (show Kd.M Kd.string _ _ _ (⟨#[72, 69, 88]⟩ : ByteArray) [.string (⟨#[72, 69, 88]⟩ : ByteArray)] from rfl) (Reps.one (show Kd.M Kd.string _ _ _ (⟨#[77, 69]⟩ : ByteArray) [.string (⟨#[77, 69]⟩ : ByteArray)] from rfl) (Reps.one (show Kd.M Kd.string _ _ _ (⟨#[84, 73, 67, 75, 83]⟩ : ByteArray) [.string (⟨#[84, 73, 67, 75, 83]⟩ : ByteArray)] from rfl) (Reps.one (show Kd.M Kd.string _ _ _ (⟨#[80, 65, 85, 83, 69]⟩ : ByteArray) [.string (⟨#[80, 65, 85, 83, 69]⟩ : ByteArray)] from rfl) (Reps.one (show Kd.M Kd.string _ _ _ (⟨#[83, 76, 69, 69, 80]⟩ : ByteArray) [.string (⟨#[83, 76, 69, 69, 80]⟩ : ByteArray)] from rfl) (Reps.one (show Kd.M Kd.string _ _ _ (⟨#[66, 89, 69]⟩ : ByteArray) [.string (⟨#[66, 89, 69]⟩ : ByteArray)] from rfl) (Reps.one (show Kd.M Kd.string _ _ _ (⟨#[78, 79, 84, 69]⟩ : ByteArray) [.string (⟨#[78, 79, 84, 69]⟩ : ByteArray)] from rfl) (Reps.one (show Kd.M Kd.string _ _ _ (⟨#[67, 82, 69, 65, 84, 69]⟩ : ByteArray) [.string (⟨#[67, 82, 69, 65, 84, 69]⟩ : ByteArray)] from rfl) (Reps.one (show Kd.M Kd.string _ _ _ (⟨#[40, 68, 79, 69, 83, 41]⟩ : ByteArray) [.string (⟨#[40, 68, 79, 69, 83, 41]⟩ : ByteArray)] from rfl) (Reps.one (show Kd.M Kd.string _ _ _ (⟨#[72, 69, 82, 69]⟩ : ByteArray) [.string (⟨#[72, 69, 82, 69]⟩ : ByteArray)] from rfl) (Reps.one (show Kd.M Kd.string _ _ _ (⟨#[65, 76, 76, 79, 84]⟩ : ByteArray) [.string (⟨#[65, 76, 76, 79, 84]⟩ : ByteArray)] from rfl) (Reps.one (show Kd.M Kd.string _ _ _ (⟨#[44]⟩ : ByteArray) [.string (⟨#[44]⟩ : ByteArray)] from rfl) (Reps.one (show Kd.M Kd.string _ _ _ (⟨#[67, 79, 77, 80, 73, 76, 69, 44]⟩ : ByteArray) [.string (⟨#[67, 79, 77, 80, 73, 76, 69, 44]⟩ : ByteArray)] from rfl) (Reps.one (show Kd.M Kd.string _ _ _ (⟨#[73, 77, 77, 69, 68, 73, 65, 84, 69]⟩ : ByteArray) [.string (⟨#[73, 77, 77, 69, 68, 73, 65, 84, 69]⟩ : ByteArray)] from rfl) (Reps.none _ _))))))))))))))))))))))))))))))))))))))))))))))))))))))))))))))))))))))))))))))))))))))))))))))))))))))))))))))))); intro v102 w1 ho2 hb hg_ hnew_; clear hg_ hnew_; (first | rw [← Ny101.out] at ho2 | (simp only [Int.reduceToNat] at ho2; rw [← Ny101.out] at ho2)); have n0_ := Aside0.mk (Kd.R_lower ho2 (below_size (by repeat (first | (with_reducible first | exact HB.out | apply below_alloc | apply pw_below_drewN | apply below_drew1) | exact HB.out)))); have n1_ := Aside0.mk (below_step (by repeat (first | (with_reducible first | exact HB.out | apply below_alloc | apply pw_below_drewN | apply below_drew1) | exact HB.out)) hb); clear HB; have HO103 := n0_; have HB := n1_; clear n0_ n1_; clear hb ho2))
  go_ret
  exact ⟨_, by first | rfl | (simp [errW_none, errW_some] <;> rfl) | (simp [*, errW_none, errW_some] <;> rfl), by (with_reducible repeat (first | apply Kd.R_alloc | apply Kd.R_drewN | apply Kd.R_drew)); exact HO103.out, by repeat (first | (with_reducible first | exact HB.out | apply below_alloc | apply pw_below_drewN | apply below_drew1) | exact HB.out)⟩

/-! ### op_in: function 27 -/
def op_in.f (a0 : Int) : Option (Bool) := if a0 ≥ 0 then (some (decide (a0 < 111))) else (some false)
set_option maxHeartbeats 8000000 in
set_option maxRecDepth 100000 in
theorem op_in.calls (a0 : Int) (r : Bool) (w : World) (h : op_in.f a0 = some r) :
    Calls Try.prog 27 #[.int .i64 a0] w fun e w' => e = .returned (.bool r) ∧ Drawn0 w w' := by
  have H : (if a0 ≥ 0 then (some (decide (a0 < 111))) else (some false)) = some r := h
  clear h
  by_cases c2 : a0 ≥ 0
  · rw [if_pos c2] at H
    have c2b0 : decide (0 ≤ a0) = true := decide_eq_true c2
    clear c2
    obtain rfl := Option.some.inj H
    go_enter Try.func27, Try.ntmps27
    go_wp2
    go_ret
    exact ⟨by first | rfl | (simp; done) | (simp [*]; done), by repeat (first | exact Drawn0.refl _ | apply Drawn0.step)⟩
  · rw [if_neg c2] at H
    have c2b0 : decide (0 ≤ a0) = false := decide_eq_false c2
    clear c2
    obtain rfl := Option.some.inj H
    go_enter Try.func27, Try.ntmps27
    go_wp2
    go_ret
    exact ⟨by first | rfl | (simp; done) | (simp [*]; done), by repeat (first | exact Drawn0.refl _ | apply Drawn0.step)⟩

/-! ### op_Name: function 11 -/
def op_Name.f (a0 : Int) : Option (ByteArray) := (op_in.f a0).bind fun t104 => (if t104 = true then ((op_names.f).bind fun t105 => (if 0 ≤ a0 then (if a0 < (t105.length : Int) then (some (rdOf ByteArray.empty t105 a0)) else (none)) else (none))) else (some (⟨#[]⟩ : ByteArray)))
set_option maxHeartbeats 8000000 in
set_option maxRecDepth 100000 in
theorem op_Name.calls (a0 : Int) (r : ByteArray) (w : World) (h : op_Name.f a0 = some r) :
    Calls Try.prog 11 #[.int .i64 a0] w fun e w' => e = .returned (.string r) ∧ Below w.heap.size w w' := by
  have HB := Aside0.mk (Below.refl w.heap.size w)
  have H : ((op_in.f a0).bind fun t104 => (if t104 = true then ((op_names.f).bind fun t105 => (if 0 ≤ a0 then (if a0 < (t105.length : Int) then (some (rdOf ByteArray.empty t105 a0)) else (none)) else (none))) else (some (⟨#[]⟩ : ByteArray)))) = some r := h
  clear h
  replace H := Option.bind_eq_some_iff.mp H
  obtain ⟨t104, A20, H⟩ := H
  replace H : (if t104 = true then ((op_names.f).bind fun t105 => (if 0 ≤ a0 then (if a0 < (t105.length : Int) then (some (rdOf ByteArray.empty t105 a0)) else (none)) else (none))) else (some (⟨#[]⟩ : ByteArray))) = some r := H
  have A2 := Aside0.mk A20
  clear A20
  by_cases c3 : t104 = true
  · subst c3
    have H1 : ((op_names.f).bind fun t105 => (if 0 ≤ a0 then (if a0 < (t105.length : Int) then (some (rdOf ByteArray.empty t105 a0)) else (none)) else (none))) = some r := by rw [if_pos rfl] at H; exact H
    clear H
    have H := H1
    clear H1
    replace H := Option.bind_eq_some_iff.mp H
    obtain ⟨t105, A40, H⟩ := H
    replace H : (if 0 ≤ a0 then (if a0 < (t105.length : Int) then (some (rdOf ByteArray.empty t105 a0)) else (none)) else (none)) = some r := H
    have A4 := Aside0.mk A40
    clear A40
    by_cases c5 : 0 ≤ a0
    · rw [if_pos c5] at H
      have c5b0 : decide (0 ≤ a0) = true := decide_eq_true c5
      clear c5
      by_cases c6 : a0 < (t105.length : Int)
      · rw [if_pos c6] at H
        have c6b0 : decide (a0 < (t105.length : Int)) = true := decide_eq_true c6
        clear c6
        obtain rfl := Option.some.inj H
        go_enter Try.func11, Try.ntmps11
        go_wp2_with (first | ((with_reducible refine gate_callee (f := 27) rfl ?_); refine goesL_ (some 4) rfl rfl Try.func27 (by kernel_rfl) rfl #[.int .i64 a0] rfl (by (try simp only [List.map_toArray, List.map_cons, List.map_nil]); first | done | rfl | (simp only [List.length_drop, List.length_take]; rfl)) ?_; (with_reducible refine (op_in.calls a0 true _ A2.out).mono ?_); rintro e w' ⟨rfl, ⟨nd, rfl⟩⟩; refine ⟨_, rfl, ?_⟩) | ((with_reducible refine gate_callee (f := 20) rfl ?_); refine goesL_ (some 6) rfl rfl Try.func20 (by kernel_rfl) rfl #[] rfl (by (try simp only [List.map_toArray, List.map_cons, List.map_nil]); first | done | rfl | (simp only [List.length_drop, List.length_take]; rfl)) ?_; (with_reducible refine (op_names.calls  t105 _ A4.out).mono ?_); rintro e w7 ⟨v106, rfl, ho0, hb⟩; refine ⟨_, rfl, ?_⟩; have n0_ := Aside0.mk (Kd.R_lower ho0 (below_size (by repeat (first | (with_reducible first | exact HB.out | apply below_alloc | apply pw_below_drewN | apply below_drew1) | exact HB.out)))); have n1_ := Aside0.mk (below_step (by repeat (first | (with_reducible first | exact HB.out | apply below_alloc | apply pw_below_drewN | apply below_drew1) | exact HB.out)) hb); clear HB; have HO107 := n0_; have HB := n1_; clear n0_ n1_; (try clear hb); (try clear hb2); (try clear hk); (try clear hi); (try clear ho0); obtain ⟨Ao8, co8, eo8⟩ := Kd.R_slice HO107.out; subst eo8; have p108 : 0 ≤ (a0 : Int) := of_decide_eq_true (by first | (with_reducible assumption) | assumption); have q108 : a0 < (t105.length : Int) := of_decide_eq_true (by first | (with_reducible assumption) | assumption); obtain ⟨ad108, e108, hx108_0⟩ := Kd.at_string (Kd.R_reads' HO107.out).2.2 a0 p108 q108; cases e108; replace p108 := eq_true p108; replace q108 := eq_true q108))
        go_ret
        exact ⟨by first | rfl | (simp [errW_none, errW_some] <;> rfl) | (simp [*, errW_none, errW_some] <;> rfl), by repeat (first | (with_reducible first | exact HB.out | apply below_alloc | apply pw_below_drewN | apply below_drew1) | exact HB.out)⟩
      · rw [if_neg c6] at H
        exact absurd H (by simp)
    · rw [if_neg c5] at H
      exact absurd H (by simp)
  · replace c3 := Bool.eq_false_iff.mpr c3
    subst c3
    have H1 : (some (⟨#[]⟩ : ByteArray)) = some r := by rw [if_neg (show ¬ (false = true) by decide)] at H; exact H
    clear H
    have H := H1
    clear H1
    obtain rfl := Option.some.inj H
    go_enter Try.func11, Try.ntmps11
    go_wp2_with (first | ((with_reducible refine gate_callee (f := 27) rfl ?_); refine goesL_ (some 4) rfl rfl Try.func27 (by kernel_rfl) rfl #[.int .i64 a0] rfl (by (try simp only [List.map_toArray, List.map_cons, List.map_nil]); first | done | rfl | (simp only [List.length_drop, List.length_take]; rfl)) ?_; (with_reducible refine (op_in.calls a0 false _ A2.out).mono ?_); rintro e w' ⟨rfl, ⟨nd, rfl⟩⟩; refine ⟨_, rfl, ?_⟩))
    go_ret
    exact ⟨by first | rfl | (simp [errW_none, errW_some] <;> rfl) | (simp [*, errW_none, errW_some] <;> rfl), by repeat (first | (with_reducible first | exact HB.out | apply below_alloc | apply pw_below_drewN | apply below_drew1) | exact HB.out)⟩

/-! ### stringslite_HasPrefix: function 35 -/
def stringslite_HasPrefix.f (a0 : ByteArray) (a1 : ByteArray) : Option (Bool) := if (a0.size : Int) ≥ (a1.size : Int) then (if 0 ≤ (a1.size : Int) then (if (a1.size : Int) ≤ (a0.size : Int) then (some ((a0.extract 0 ((a1.size : Int) : Int).toNat).toList == a1.toList)) else (none)) else (none)) else (some false)
set_option maxHeartbeats 8000000 in
set_option maxRecDepth 100000 in
theorem stringslite_HasPrefix.calls (a0 : ByteArray) (a1 : ByteArray) (r : Bool) (w : World) (h : stringslite_HasPrefix.f a0 a1 = some r) :
    Calls Try.prog 35 #[.string a0, .string a1] w fun e w' => e = .returned (.bool r) ∧ Drawn0 w w' := by
  have H : (if (a0.size : Int) ≥ (a1.size : Int) then (if 0 ≤ (a1.size : Int) then (if (a1.size : Int) ≤ (a0.size : Int) then (some ((a0.extract 0 ((a1.size : Int) : Int).toNat).toList == a1.toList)) else (none)) else (none)) else (some false)) = some r := h
  clear h
  by_cases c3 : (a0.size : Int) ≥ (a1.size : Int)
  · rw [if_pos c3] at H
    have c3b0 : decide ((a1.size : Int) ≤ (a0.size : Int)) = true := decide_eq_true c3
    have c3b1 : decide (a1.size ≤ a0.size) = true := decide_eq_true (Int.ofNat_le.mp c3)
    clear c3
    by_cases c4 : 0 ≤ (a1.size : Int)
    · rw [if_pos c4] at H
      have c4b0 := eq_true c4
      have c4b1 : decide (0 ≤ (a1.size : Int)) = true := decide_eq_true c4
      clear c4
      by_cases c5 : (a1.size : Int) ≤ (a0.size : Int)
      · rw [if_pos c5] at H
        have c5b0 := eq_true c5
        have c5b1 : decide ((a1.size : Int) ≤ (a0.size : Int)) = true := decide_eq_true c5
        clear c5
        obtain rfl := Option.some.inj H
        go_enter Try.func35, Try.ntmps35
        go_wp2
        go_ret
        exact ⟨by first | rfl | (simp; done) | (simp [*]; done), by repeat (first | exact Drawn0.refl _ | apply Drawn0.step)⟩
      · rw [if_neg c5] at H
        exact absurd H (by simp)
    · rw [if_neg c4] at H
      exact absurd H (by simp)
  · rw [if_neg c3] at H
    have c3b0 : decide ((a1.size : Int) ≤ (a0.size : Int)) = false := decide_eq_false c3
    have c3b1 : decide (a1.size ≤ a0.size) = false := decide_eq_false (fun h => c3 (Int.ofNat_le.mpr h))
    clear c3
    obtain rfl := Option.some.inj H
    go_enter Try.func35, Try.ntmps35
    go_wp2
    go_ret
    exact ⟨by first | rfl | (simp; done) | (simp [*]; done), by repeat (first | exact Drawn0.refl _ | apply Drawn0.step)⟩

/-! ### strings_HasPrefix: function 30 -/
def strings_HasPrefix.f (a0 : ByteArray) (a1 : ByteArray) : Option (Bool) := (stringslite_HasPrefix.f a0 a1).bind fun t109 => (some t109)
set_option maxHeartbeats 8000000 in
set_option maxRecDepth 100000 in
theorem strings_HasPrefix.calls (a0 : ByteArray) (a1 : ByteArray) (r : Bool) (w : World) (h : strings_HasPrefix.f a0 a1 = some r) :
    Calls Try.prog 30 #[.string a0, .string a1] w fun e w' => e = .returned (.bool r) ∧ Drawn0 w w' := by
  have H : ((stringslite_HasPrefix.f a0 a1).bind fun t109 => (some t109)) = some r := h
  clear h
  replace H := Option.bind_eq_some_iff.mp H
  obtain ⟨t109, A30, H⟩ := H
  replace H : (some t109) = some r := H
  have A3 := Aside0.mk A30
  clear A30
  obtain rfl := Option.some.inj H
  go_enter Try.func30, Try.ntmps30
  go_wp2_with (first | ((with_reducible refine gate_callee (f := 35) rfl ?_); refine goesL_ (some 7) rfl rfl Try.func35 (by kernel_rfl) rfl #[.string a0, .string a1] rfl (by (try simp only [List.map_toArray, List.map_cons, List.map_nil]); first | done | rfl | (simp only [List.length_drop, List.length_take]; rfl)) ?_; (with_reducible refine (stringslite_HasPrefix.calls a0 a1 t109 _ A3.out).mono ?_); rintro e w' ⟨rfl, ⟨nd, rfl⟩⟩; refine ⟨_, rfl, ?_⟩))
  go_ret
  exact ⟨by first | rfl | (simp; done) | (simp [*]; done), by repeat (first | exact Drawn0.refl _ | apply Drawn0.step)⟩

/-! ### op_Hidden: function 17 -/
def op_Hidden.f (a0 : Int) : Option (Bool) := (op_Name.f a0).bind fun t110 => ((strings_HasPrefix.f t110 (⟨#[40]⟩ : ByteArray)).bind fun t111 => (some t111))
set_option maxHeartbeats 8000000 in
set_option maxRecDepth 100000 in
theorem op_Hidden.calls (a0 : Int) (r : Bool) (w : World) (h : op_Hidden.f a0 = some r) :
    Calls Try.prog 17 #[.int .i64 a0] w fun e w' => e = .returned (.bool r) ∧ Below w.heap.size w w' := by
  have HB := Aside0.mk (Below.refl w.heap.size w)
  have H : ((op_Name.f a0).bind fun t110 => ((strings_HasPrefix.f t110 (⟨#[40]⟩ : ByteArray)).bind fun t111 => (some t111))) = some r := h
  clear h
  replace H := Option.bind_eq_some_iff.mp H
  obtain ⟨t110, A20, H⟩ := H
  replace H : ((strings_HasPrefix.f t110 (⟨#[40]⟩ : ByteArray)).bind fun t111 => (some t111)) = some r := H
  have A2 := Aside0.mk A20
  clear A20
  replace H := Option.bind_eq_some_iff.mp H
  obtain ⟨t111, A30, H⟩ := H
  replace H : (some t111) = some r := H
  have A3 := Aside0.mk A30
  clear A30
  obtain rfl := Option.some.inj H
  go_enter Try.func17, Try.ntmps17
  go_wp2_with (first | ((with_reducible refine gate_callee (f := 11) rfl ?_); refine goesL_ (some 4) rfl rfl Try.func11 (by kernel_rfl) rfl #[.int .i64 a0] rfl (by (try simp only [List.map_toArray, List.map_cons, List.map_nil]); first | done | rfl | (simp only [List.length_drop, List.length_take]; rfl)) ?_; (with_reducible refine (op_Name.calls a0 t110 _ A2.out).mono ?_); rintro e w4 ⟨rfl, hb⟩; refine ⟨_, rfl, ?_⟩; have n0_ := Aside0.mk (below_step (by repeat (first | (with_reducible first | exact HB.out | apply below_alloc | apply pw_below_drewN | apply below_drew1) | exact HB.out)) hb); clear HB; have HB := n0_; clear n0_; (try clear hb); (try clear hb2); (try clear hk); (try clear hi)) | ((with_reducible refine gate_callee (f := 30) rfl ?_); refine goesL_ (some 5) rfl rfl Try.func30 (by kernel_rfl) rfl #[.string t110, .string (⟨#[40]⟩ : ByteArray)] rfl (by (try simp only [List.map_toArray, List.map_cons, List.map_nil]); first | done | rfl | (simp only [List.length_drop, List.length_take]; rfl)) ?_; (with_reducible refine (strings_HasPrefix.calls t110 (⟨#[40]⟩ : ByteArray) t111 _ A3.out).mono ?_); rintro e w' ⟨rfl, ⟨nd, rfl⟩⟩; refine ⟨_, rfl, ?_⟩))
  go_ret
  exact ⟨by first | rfl | (simp [errW_none, errW_some] <;> rfl) | (simp [*, errW_none, errW_some] <;> rfl), by repeat (first | (with_reducible first | exact HB.out | apply below_alloc | apply pw_below_drewN | apply below_drew1) | exact HB.out)⟩

/-! ### scan_capital: function 31 -/
def scan_capital.f (a0 : Int) : Option (Int) := if a0 ≥ 97 then (if a0 ≤ 122 then (some ((((a0 - 97) % 256) + 65) % 256)) else (some a0)) else (some a0)
set_option maxHeartbeats 8000000 in
set_option maxRecDepth 100000 in
theorem scan_capital.calls (a0 : Int) (r : Int) (w : World) (h : scan_capital.f a0 = some r) :
    Calls Try.prog 31 #[.int .u8 a0] w fun e w' => e = .returned (.int .u8 r) ∧ Drawn0 w w' := by
  have H : (if a0 ≥ 97 then (if a0 ≤ 122 then (some ((((a0 - 97) % 256) + 65) % 256)) else (some a0)) else (some a0)) = some r := h
  clear h
  by_cases c2 : a0 ≥ 97
  · rw [if_pos c2] at H
    have c2b0 : decide (97 ≤ a0) = true := decide_eq_true c2
    clear c2
    by_cases c3 : a0 ≤ 122
    · rw [if_pos c3] at H
      have c3b0 : decide (a0 ≤ 122) = true := decide_eq_true c3
      clear c3
      obtain rfl := Option.some.inj H
      go_enter Try.func31, Try.ntmps31
      go_wp2
      go_ret
      exact ⟨by first | rfl | (simp; done) | (simp [*]; done), by repeat (first | exact Drawn0.refl _ | apply Drawn0.step)⟩
    · rw [if_neg c3] at H
      have c3b0 : decide (a0 ≤ 122) = false := decide_eq_false c3
      clear c3
      obtain rfl := Option.some.inj H
      go_enter Try.func31, Try.ntmps31
      go_wp2
      go_ret
      exact ⟨by first | rfl | (simp; done) | (simp [*]; done), by repeat (first | exact Drawn0.refl _ | apply Drawn0.step)⟩
  · rw [if_neg c2] at H
    have c2b0 : decide (97 ≤ a0) = false := decide_eq_false c2
    clear c2
    obtain rfl := Option.some.inj H
    go_enter Try.func31, Try.ntmps31
    go_wp2
    go_ret
    exact ⟨by first | rfl | (simp; done) | (simp [*]; done), by repeat (first | exact Drawn0.refl _ | apply Drawn0.step)⟩

/-! ### scan_Upper: function 19 -/
def scan_Upper.l1 : Nat → ByteArray → List Int → Int → Option (ByteArray)
  | 0, _, _, _ => none
  | k + 1, x0, x6, x7 => if x7 < (x0.size : Int) then (if 0 ≤ x7 then ((scan_capital.f (bt x0 x7)).bind fun t112 => (if x6.length < 140737488355328 then (scan_Upper.l1 k x0 (x6 ++ [t112]) (wrap64 (x7 + 1))) else (none))) else (none)) else (some (strOfNums x6))
def scan_Upper.f (k : Nat) (a0 : ByteArray) : Option (ByteArray) := scan_Upper.l1 k a0 ([] : List Int) 0
theorem scan_Upper.mono_l : ∀ k, (∀ y0 y1 y2, LeO (scan_Upper.l1 k y0 y1 y2) (scan_Upper.l1 (k + 1) y0 y1 y2))
  | 0 => fun _ _ _ r h => by simp [scan_Upper.l1] at h
  | k + 1 => by
    have ih0 := scan_Upper.mono_l k
    · intro y0 y1 y2
      unfold scan_Upper.l1
      repeat' first
      | (with_reducible exact ih0 _ _ _)
      | (with_reducible exact LeO.refl _)
      | (with_reducible exact LeO.none _)
      | (with_reducible refine LeO.ite ?_ ?_)
      | (with_reducible refine LeO.bind ?_ (fun _ => ?_))
      | exact ih0 _ _ _
      | exact LeO.none _
      | refine LeO.ite ?_ ?_
      | refine LeO.bind ?_ (fun _ => ?_)
theorem scan_Upper.mono : ∀ a0 k, LeO (scan_Upper.f k a0) (scan_Upper.f (k + 1) a0) := by
  intro a0 k
  have ih0 := scan_Upper.mono_l k
  unfold scan_Upper.f
  repeat' first
      | (with_reducible exact ih0 _ _ _)
      | (with_reducible exact LeO.refl _)
      | (with_reducible exact LeO.none _)
      | (with_reducible refine LeO.ite ?_ ?_)
      | (with_reducible refine LeO.bind ?_ (fun _ => ?_))
      | exact ih0 _ _ _
      | exact LeO.none _
      | refine LeO.ite ?_ ?_
      | refine LeO.bind ?_ (fun _ => ?_)
theorem scan_Upper_is : ∀ (k : Nat) (s : ByteArray) (acc : List Int) (i : Int) (r : ByteArray), (acc.length : Int) = i → i ≤ s.size → acc.length ≤ 140737488355328 →
    scan_Upper.l1 k s acc i = some r → s.size ≤ 140737488355328 ∧ r = strOfNums (acc ++ ((Go.Proofs.YtlfdempjfjgbdaaH.ints s).drop i.toNat).map Go.Proofs.YtlfdempjfjgbdaaH.up1)
  | 0, _, _, _, _, _, _, _, h => by simp [scan_Upper.l1] at h
  | k + 1, s, acc, i, r, h0, h1, hx, h => by
    have hil := Go.Proofs.YtlfdempjfjgbdaaH.ints_length s
    simp only [scan_Upper.l1] at h
    by_cases c : i < (s.size : Int)
    · rw [if_pos c, if_pos (by omega)] at h
      have hb := bt_range s i
      have hcap : scan_capital.f (bt s i) = some (Go.Proofs.YtlfdempjfjgbdaaH.up1 (bt s i)) := by
        unfold scan_capital.f Go.Proofs.YtlfdempjfjgbdaaH.up1
        by_cases a : bt s i ≥ 97
        · rw [if_pos a]
          by_cases b : bt s i ≤ 122
          · rw [if_pos b, if_pos ⟨a, b⟩]; congr 1; omega
          · rw [if_neg b, if_neg (fun hh => b hh.2)]
        · rw [if_neg a, if_neg (fun hh => a hh.1)]
      rw [hcap, Option.bind_some] at h
      by_cases d : acc.length < 140737488355328
      · rw [if_pos d, show wrap64 (i + 1) = i + 1 by unfold wrap64; omega] at h
        obtain ⟨h3, h2⟩ := scan_Upper_is k s _ (i + 1) r (by simp; omega) (by omega) (by simp; omega) h
        have hlt : i.toNat < (Go.Proofs.YtlfdempjfjgbdaaH.ints s).length := by omega
        have hg : (Go.Proofs.YtlfdempjfjgbdaaH.ints s)[i.toNat] = bt s i := by
          have := Go.Proofs.YtlfdempjfjgbdaaH.ints_get s i.toNat (by omega)
          rw [List.getD_eq_getElem?_getD, List.getElem?_eq_getElem hlt] at this
          rw [show ((i.toNat : Nat) : Int) = i by omega] at this
          simpa using this
        refine ⟨h3, ?_⟩
        rw [h2, List.drop_eq_getElem_cons hlt, hg, show (i + 1).toNat = i.toNat + 1 by omega]
        simp
      · rw [if_neg d] at h; cases h
    · rw [if_neg c] at h
      cases h
      rw [List.drop_eq_nil_of_le (by omega)]
      exact ⟨by omega, by simp⟩
theorem scan_capital_is (c : Int) (w : World) (h0 : 0 ≤ c) (h1 : c ≤ 255) :
    Calls Try.prog 31 #[.int .u8 c] w fun e w' => e = .returned (.int .u8 (Go.Proofs.YtlfdempjfjgbdaaH.up1 c)) ∧ Drawn0 w w' :=
  scan_capital.calls c _ w (by
    unfold scan_capital.f Go.Proofs.YtlfdempjfjgbdaaH.up1
    by_cases a : c ≥ 97
    · rw [if_pos a]
      by_cases b : c ≤ 122
      · rw [if_pos b, if_pos ⟨a, b⟩]; congr 1; omega
      · rw [if_neg b, if_neg (fun hh => b hh.2)]
    · rw [if_neg a, if_neg (fun hh => a hh.1)])
set_option maxHeartbeats 8000000 in
set_option maxRecDepth 100000 in
theorem scan_Upper.calls (k : Nat) (a0 : ByteArray) (r : ByteArray) (w : World) (h : scan_Upper.f k a0 = some r) :
    Calls Try.prog 19 #[.string a0] w fun e w' => e = .returned (.string r) ∧ Below w.heap.size w w' := by
  obtain ⟨hsz, hr⟩ := scan_Upper_is k a0 [] 0 r (by simp) (by omega) (by simp) h
  clear h
  simp only [List.nil_append, Int.toNat_zero, List.drop_zero] at hr
  obtain ⟨xs, hxs⟩ : ∃ xs, xs = Go.Proofs.YtlfdempjfjgbdaaH.ints a0 := ⟨_, rfl⟩
  rw [← hxs] at hr
  subst hr
  have Hsz := Aside0.mk hsz
  have hil := Aside0.mk (Go.Proofs.YtlfdempjfjgbdaaH.ints_length a0)
  clear hsz
  have Hxs := Aside0.mk hxs
  clear hxs
  have hconv : ∀ W : World, (convert 9 44 (.string a0)).run Try.prog W = .ok (.slice (some ⟨W.heap.size, 0, none⟩) a0.size (grownCap W a0.size 0 5)) (Lib.bytesWorld W 5 a0) := fun W => Lib.run_convert_string_bytes W 9 44 5 a0 Try.underlying9 Try.underlying44 Try.underlying5
  go_enter Try.func19, Try.ntmps19
  go_wp2
  clear hconv
  obtain ⟨cap, hcap⟩ : ∃ c, c = grownCap w a0.size 0 5 := ⟨_, rfl⟩
  rw [← hcap]
  clear hcap
  have hxs := Hxs.out
  clear Hxs
  have hrow := Aside0.mk (show Go.Proofs.YtlfdempjfjgbdaaH.BRow (Lib.bytesWorld w 5 a0) w.heap.size (Go.Proofs.YtlfdempjfjgbdaaH.upTo xs 0) from by rw [Go.Proofs.YtlfdempjfjgbdaaH.upTo_zero, hxs]; exact Go.Proofs.YtlfdempjfjgbdaaH.conv_row w _ a0)
  have hbel := Aside0.mk (Go.Proofs.YtlfdempjfjgbdaaH.conv_below w 5 a0)
  rw [← hxs] at hil
  have hrng := Aside0.mk (show ∀ i : Nat, i < xs.length → 0 ≤ xs.getD i 0 ∧ xs.getD i 0 ≤ 255 from by
    intro i hi
    rw [hxs, Go.Proofs.YtlfdempjfjgbdaaH.ints_length] at hi
    rw [hxs, Go.Proofs.YtlfdempjfjgbdaaH.ints_get a0 i hi]
    exact bt_range a0 i)
  clear hxs
  generalize Lib.bytesWorld w 5 a0 = w1 at hrow hbel ⊢
  go_loopg [10] a0.size (fun g v10 w' => ∃ (x : Int), 0 ≤ x ∧ Aside0 ((g : Int) + x = (a0.size : Int)) ∧ v10 = .int .i64 x ∧ Aside0 (Go.Proofs.YtlfdempjfjgbdaaH.BRow w' w.heap.size (Go.Proofs.YtlfdempjfjgbdaaH.upTo xs x.toNat)) ∧ Aside0 (Below w.heap.size w w'))
  case atStart => exact ⟨0, by omega, ⟨by omega⟩, (by first | rfl | (simp; done)), hrow, hbel⟩
  case round =>
    clear hrow hbel
    obtain ⟨x, hx0, hg, rfl, hrow, hbel⟩ := hrel
    by_cases hlt : x < (a0.size : Int)
    · have c0 : decide (x < (a0.size : Int)) = true := decide_eq_true hlt
      have hle : xs.length = a0.size := hil.out
      have hsz := Hsz.out
      have hwx : wrap64 (x + 1) = x + 1 := by unfold wrap64; omega
      have hx1 : x.toNat < (Go.Proofs.YtlfdempjfjgbdaaH.upTo xs x.toNat).length := by rw [Go.Proofs.YtlfdempjfjgbdaaH.upTo_length]; omega
      have hx2 : x.toNat < xs.length := by omega
      obtain ⟨hc, hf⟩ := hrow.out x.toNat hx1
      rw [Go.Proofs.YtlfdempjfjgbdaaH.upTo_get xs x.toNat hx2] at hc
      obtain ⟨hc0, hc1⟩ := hrng.out x.toNat hx2
      have hput := Go.Proofs.YtlfdempjfjgbdaaH.BRow.put hrow.out x.toNat hx1
      have hnext := Go.Proofs.YtlfdempjfjgbdaaH.upTo_succ xs x.toNat hx2
      generalize xs.getD x.toNat 0 = c at hc hc0 hc1 hnext
      have Hput := Aside0.mk (show Go.Proofs.YtlfdempjfjgbdaaH.BRow (wr.setCell ⟨w.heap.size, x.toNat, none⟩ (.int .u8 (Go.Proofs.YtlfdempjfjgbdaaH.up1 c))) w.heap.size (Go.Proofs.YtlfdempjfjgbdaaH.upTo xs (x + 1).toNat) from by
        have := hput (Go.Proofs.YtlfdempjfjgbdaaH.up1 c); rw [hnext] at this; rwa [show (x + 1).toNat = x.toNat + 1 by omega])
      have Hwx := Aside0.mk hwx
      have hx0' := eq_true hx0
      have hlt' := eq_true hlt
      clear hput hnext hx1 hx2 hle hsz hwx hx0 hlt
      go_wp2_with (go_at_call 31; (with_reducible refine (scan_capital_is c _ hc0 hc1).mono ?_); rintro e w2 ⟨rfl, ⟨nd, rfl⟩⟩)
      cases gk with
      | zero => exact absurd hg.out (by have := of_eq_true hlt'; omega)
      | succ k1 =>
        go_roundg k1
        case measure => omega
        case rel => exact ⟨_, (by have h1_ := Hwx.out; have h2_ := of_eq_true hx0'; show 0 ≤ wrap64 (x + 1); omega), ⟨by have := hg.out; have h1_ := Hwx.out; show (k1 : Int) + wrap64 (x + 1) = _; omega⟩, (by first | rfl | (simp; done) | (simp [*]; done)), ⟨by have h1_ := Hwx.out; rw [h1_]; exact Go.Proofs.YtlfdempjfjgbdaaH.BRow.drewN Hput.out nd⟩, ⟨below_set (pw_below_drewN hbel.out nd) (Nat.le_refl _)⟩⟩
    · have c0 : decide (x < (a0.size : Int)) = false := decide_eq_false hlt
      have hle : xs.length = a0.size := hil.out
      have hrow2 := hrow.out
      rw [Go.Proofs.YtlfdempjfjgbdaaH.upTo_all xs x.toNat (by omega)] at hrow2
      have hl3 : (xs.map Go.Proofs.YtlfdempjfjgbdaaH.up1).length = a0.size := by rw [List.length_map]; exact hle
      have hstr := Go.Proofs.YtlfdempjfjgbdaaH.BRow.str (P := Try.prog) hrow2 44 9 5 Try.underlying44 Try.underlying5 Try.underlying9 cap
      rw [hl3] at hstr
      clear hrow2 hl3 hle hlt
      go_wp2
      go_ret
      exact ⟨by first | rfl | (simp; done), hbel.out⟩

def op_Find.l0 : Nat → ByteArray → List ByteArray → Int → Int → Option (Int × Bool)
  | 0, _, _, _, _ => none
  | k + 1, x4, x9, x10, x11 => if x11 < x10 then (if 0 ≤ x11 then (if x11 < (x9.length : Int) then (if (rdOf ByteArray.empty x9 x11).toList = x4.toList then ((op_Hidden.f x11).bind fun t121 => (if t121 = true then (op_Find.l0 k x4 x9 x10 (wrap64 (x11 + 1))) else (some (x11, true)))) else (op_Find.l0 k x4 x9 x10 (wrap64 (x11 + 1)))) else (none)) else (none)) else (some (0, false))
def op_Find.f (k : Nat) (a0 : ByteArray) : Option (Int × Bool) := (scan_Upper.f k a0).bind fun t116 => ((op_names.f).bind fun t117 => (op_Find.l0 k t116 t117 (t117.length : Int) 0))
theorem op_Find.mono_l : ∀ k, (∀ y0 y1 y2 y3, LeO (op_Find.l0 k y0 y1 y2 y3) (op_Find.l0 (k + 1) y0 y1 y2 y3))
  | 0 => fun _ _ _ _ r h => by simp [op_Find.l0] at h
  | k + 1 => by
    have ih0 := op_Find.mono_l k
    · intro y0 y1 y2 y3
      unfold op_Find.l0
      repeat' first
      | (with_reducible exact ih0 _ _ _ _)
      | (with_reducible exact scan_Upper.mono _ _)
      | (with_reducible exact LeO.refl _)
      | (with_reducible exact LeO.none _)
      | (with_reducible refine LeO.ite ?_ ?_)
      | (with_reducible refine LeO.bind ?_ (fun _ => ?_))
      | exact ih0 _ _ _ _
      | exact scan_Upper.mono _ _
      | exact LeO.none _
      | refine LeO.ite ?_ ?_
      | refine LeO.bind ?_ (fun _ => ?_)
theorem op_Find.mono : ∀ a0 k, LeO (op_Find.f k a0) (op_Find.f (k + 1) a0) := by
  intro a0 k
  have ih0 := op_Find.mono_l k
  unfold op_Find.f
  repeat' first
      | (with_reducible exact ih0 _ _ _ _)
      | (with_reducible exact scan_Upper.mono _ _)
      | (with_reducible exact LeO.refl _)
      | (with_reducible exact LeO.none _)
      | (with_reducible refine LeO.ite ?_ ?_)
      | (with_reducible refine LeO.bind ?_ (fun _ => ?_))
      | exact ih0 _ _ _ _
      | exact scan_Upper.mono _ _
      | exact LeO.none _
      | refine LeO.ite ?_ ?_
      | refine LeO.bind ?_ (fun _ => ?_)
set_option maxHeartbeats 8000000 in
set_option maxRecDepth 100000 in
theorem op_Find.calls (k : Nat) (a0 : ByteArray) (r1 : Int) (r2 : Bool) (w : World) (h : op_Find.f k a0 = some (r1, r2)) :
    Calls Try.prog 7 #[.string a0] w fun e w' => e = .returned (.tuple #[.int .i64 r1, .bool r2]) ∧ Below w.heap.size w w' := by
  have HB := Aside0.mk (Below.refl w.heap.size w)
  have H : ((scan_Upper.f k a0).bind fun t116 => ((op_names.f).bind fun t117 => (op_Find.l0 k t116 t117 (t117.length : Int) 0))) = some (r1, r2) := h
  clear h
  replace H := Option.bind_eq_some_iff.mp H
  obtain ⟨t116, A20, H⟩ := H
  replace H : ((op_names.f).bind fun t117 => (op_Find.l0 k t116 t117 (t117.length : Int) 0)) = some (r1, r2) := H
  have A2 := Aside0.mk A20
  clear A20
  replace H := Option.bind_eq_some_iff.mp H
  obtain ⟨t117, A30, H⟩ := H
  replace H : (op_Find.l0 k t116 t117 (t117.length : Int) 0) = some (r1, r2) := H
  have A3 := Aside0.mk A30
  clear A30
  have H' := Aside0.mk H
  clear H
  go_enter Try.func7, Try.ntmps7
  go_wp2_with (first | ((with_reducible refine gate_callee (f := 19) rfl ?_); refine goesL_ (some 8) rfl rfl Try.func19 (by kernel_rfl) rfl #[.string a0] rfl (by (try simp only [List.map_toArray, List.map_cons, List.map_nil]); first | done | rfl | (simp only [List.length_drop, List.length_take]; rfl)) ?_; (with_reducible refine (scan_Upper.calls k a0 t116 _ A2.out).mono ?_); rintro e w4 ⟨rfl, hb⟩; refine ⟨_, rfl, ?_⟩; have n0_ := Aside0.mk (below_step (by repeat (first | (with_reducible first | exact HB.out | apply below_alloc | apply pw_below_drewN | apply below_drew1) | exact HB.out)) hb); clear HB; have HB := n0_; clear n0_; (try clear hb); (try clear hb2); (try clear hk); (try clear hi)) | ((with_reducible refine gate_callee (f := 20) rfl ?_); refine goesL_ (some 9) rfl rfl Try.func20 (by kernel_rfl) rfl #[] rfl (by (try simp only [List.map_toArray, List.map_cons, List.map_nil]); first | done | rfl | (simp only [List.length_drop, List.length_take]; rfl)) ?_; (with_reducible refine (op_names.calls  t117 _ A3.out).mono ?_); rintro e w5 ⟨v118, rfl, ho0, hb⟩; refine ⟨_, rfl, ?_⟩; have n0_ := Aside0.mk (Kd.R_lower ho0 (below_size (by repeat (first | (with_reducible first | exact HB.out | apply below_alloc | apply pw_below_drewN | apply below_drew1) | exact HB.out)))); have n1_ := Aside0.mk (below_step (by repeat (first | (with_reducible first | exact HB.out | apply below_alloc | apply pw_below_drewN | apply below_drew1) | exact HB.out)) hb); clear HB; have HO119 := n0_; have HB := n1_; clear n0_ n1_; (try clear hb); (try clear hb2); (try clear hk); (try clear hi); (try clear ho0); obtain ⟨Ao6, co6, eo6⟩ := Kd.R_slice HO119.out; subst eo6))
  go_loopg [11] k (fun kq v11 w' => ∃ (x11_1 : Int), v11 = .int .i64 x11_1 ∧ Aside0 (op_Find.l0 kq t116 t117 (t117.length : Int) x11_1 = some (r1, r2)) ∧ Aside0 (kq ≤ k) ∧ Aside0 (Kd.R Kd.string 9 w' w.heap.size (fun _ => True) (.slice Ao6 t117.length co6) t117) ∧ Aside0 (Below w.heap.size w w'))
  case atStart => exact ⟨(0), (by first | rfl | (simp; done) | (simp [*]; done)), H', ⟨Nat.le_refl _⟩, ⟨by (with_reducible repeat (first | apply Kd.R_alloc | apply Kd.R_drewN | apply Kd.R_drew)); exact HO119.out⟩, ⟨by repeat (first | (with_reducible first | exact HB.out | apply below_alloc | apply pw_below_drewN | apply below_drew1) | exact HB.out)⟩⟩
  case round =>
    clear H'
    try clear c1
    try clear c2
    try clear p2
    obtain ⟨x11_1, rfl, HA, HK1, HO_9, HB⟩ := hrel
    cases gk with
    | zero => exact absurd HA.out (by simp [op_Find.l0])
    | succ k1 =>
      have H := HA.out
      clear HA
      simp only [op_Find.l0] at H
      by_cases c7 : x11_1 < (t117.length : Int)
      · rw [if_pos c7] at H
        have c7b0 : decide (x11_1 < (t117.length : Int)) = true := decide_eq_true c7
        clear c7
        by_cases c8 : 0 ≤ x11_1
        · rw [if_pos c8] at H
          have c8b0 : decide (0 ≤ x11_1) = true := decide_eq_true c8
          clear c8
          by_cases c9 : x11_1 < (t117.length : Int)
          · rw [if_pos c9] at H
            have c9b0 : decide (x11_1 < (t117.length : Int)) = true := decide_eq_true c9
            clear c9
            by_cases c10 : (rdOf ByteArray.empty t117 x11_1).toList = t116.toList
            · rw [if_pos c10] at H
              have c10b0 : ((rdOf ByteArray.empty t117 x11_1).toList == t116.toList) = true := beq_iff_eq.mpr c10
              have c10b1 : ((rdOf ByteArray.empty t117 x11_1).toList != t116.toList) = false := bne_eq_false_iff_eq.mpr c10
              clear c10
              replace H := Option.bind_eq_some_iff.mp H
              obtain ⟨t121, A110, H⟩ := H
              replace H : (if t121 = true then (op_Find.l0 k1 t116 t117 (t117.length : Int) (wrap64 (x11_1 + 1))) else (some (x11_1, true))) = some (r1, r2) := H
              have A11 := Aside0.mk A110
              clear A110
              by_cases c12 : t121 = true
              · subst c12
                have H1 : (op_Find.l0 k1 t116 t117 (t117.length : Int) (wrap64 (x11_1 + 1))) = some (r1, r2) := by rw [if_pos rfl] at H; exact H
                clear H
                have H := H1
                clear H1
                have H' := Aside0.mk H
                clear H
                have p120 : 0 ≤ (x11_1 : Int) := of_decide_eq_true (by first | (with_reducible assumption) | assumption)
                have q120 : x11_1 < (t117.length : Int) := of_decide_eq_true (by first | (with_reducible assumption) | assumption)
                obtain ⟨ad120, e120, hx120_0⟩ := Kd.at_string (Kd.R_reads' HO_9.out).2.2 x11_1 p120 q120
                cases e120
                replace p120 := eq_true p120
                replace q120 := eq_true q120
                go_wp2_with (first | (go_at_call 17; (with_reducible refine (op_Hidden.calls x11_1 true _ A11.out).mono ?_); rintro e w13 ⟨rfl, hb⟩; have n0_ := Aside0.mk (Kd.R_below (by (with_reducible repeat (first | apply Kd.R_alloc | apply Kd.R_drewN | apply Kd.R_drew)); exact HO_9.out) hb); have n1_ := Aside0.mk (below_step (by repeat (first | (with_reducible first | exact HB.out | apply below_alloc | apply pw_below_drewN | apply below_drew1) | exact HB.out)) hb); clear HO_9; clear HB; have HO_9 := n0_; have HB := n1_; clear n0_ n1_; (try clear hb); (try clear hb2); (try clear hk); (try clear hi)))
                go_roundg k1
                case measure => have := HK1.out; omega
                case rel => exact ⟨(wrap64 (x11_1 + 1)), (by first | rfl | (simp; done) | (simp [*]; done)), H', ⟨by have := HK1.out; omega⟩, ⟨by (with_reducible repeat (first | apply Kd.R_alloc | apply Kd.R_drewN | apply Kd.R_drew)); exact HO_9.out⟩, ⟨by repeat (first | (with_reducible first | exact HB.out | apply below_alloc | apply pw_below_drewN | apply below_drew1) | exact HB.out)⟩⟩
              · replace c12 := Bool.eq_false_iff.mpr c12
                subst c12
                have H1 : (some (x11_1, true)) = some (r1, r2) := by rw [if_neg (show ¬ (false = true) by decide)] at H; exact H
                clear H
                have H := H1
                clear H1
                simp only [Option.some.injEq, Prod.mk.injEq] at H
                obtain ⟨rfl, rfl⟩ := H
                have p120 : 0 ≤ (x11_1 : Int) := of_decide_eq_true (by first | (with_reducible assumption) | assumption)
                have q120 : x11_1 < (t117.length : Int) := of_decide_eq_true (by first | (with_reducible assumption) | assumption)
                obtain ⟨ad120, e120, hx120_0⟩ := Kd.at_string (Kd.R_reads' HO_9.out).2.2 x11_1 p120 q120
                cases e120
                replace p120 := eq_true p120
                replace q120 := eq_true q120
                go_wp2_with (first | (go_at_call 17; (with_reducible refine (op_Hidden.calls x11_1 false _ A11.out).mono ?_); rintro e w14 ⟨rfl, hb⟩; have n0_ := Aside0.mk (Kd.R_below (by (with_reducible repeat (first | apply Kd.R_alloc | apply Kd.R_drewN | apply Kd.R_drew)); exact HO_9.out) hb); have n1_ := Aside0.mk (below_step (by repeat (first | (with_reducible first | exact HB.out | apply below_alloc | apply pw_below_drewN | apply below_drew1) | exact HB.out)) hb); clear HO_9; clear HB; have HO_9 := n0_; have HB := n1_; clear n0_ n1_; (try clear hb); (try clear hb2); (try clear hk); (try clear hi)))
                go_ret2
                exact ⟨by first | rfl | (simp [errW_none, errW_some] <;> rfl) | (simp [*, errW_none, errW_some] <;> rfl), by repeat (first | (with_reducible first | exact HB.out | apply below_alloc | apply pw_below_drewN | apply below_drew1) | exact HB.out)⟩
            · rw [if_neg c10] at H
              have c10b0 : ((rdOf ByteArray.empty t117 x11_1).toList == t116.toList) = false := beq_eq_false_iff_ne.mpr c10
              have c10b1 : ((rdOf ByteArray.empty t117 x11_1).toList != t116.toList) = true := bne_iff_ne.mpr c10
              have H' := Aside0.mk H
              clear H
              have p120 : 0 ≤ (x11_1 : Int) := of_decide_eq_true (by first | (with_reducible assumption) | assumption)
              have q120 : x11_1 < (t117.length : Int) := of_decide_eq_true (by first | (with_reducible assumption) | assumption)
              obtain ⟨ad120, e120, hx120_0⟩ := Kd.at_string (Kd.R_reads' HO_9.out).2.2 x11_1 p120 q120
              cases e120
              replace p120 := eq_true p120
              replace q120 := eq_true q120
              go_wp2
              go_roundg k1
              case measure => have := HK1.out; omega
              case rel => exact ⟨(wrap64 (x11_1 + 1)), (by first | rfl | (simp; done) | (simp [*]; done)), H', ⟨by have := HK1.out; omega⟩, ⟨by (with_reducible repeat (first | apply Kd.R_alloc | apply Kd.R_drewN | apply Kd.R_drew)); exact HO_9.out⟩, ⟨by repeat (first | (with_reducible first | exact HB.out | apply below_alloc | apply pw_below_drewN | apply below_drew1) | exact HB.out)⟩⟩
          · rw [if_neg c9] at H
            exact absurd H (by simp)
        · rw [if_neg c8] at H
          exact absurd H (by simp)
      · rw [if_neg c7] at H
        have c7b0 : decide (x11_1 < (t117.length : Int)) = false := decide_eq_false c7
        clear c7
        simp only [Option.some.injEq, Prod.mk.injEq] at H
        obtain ⟨rfl, rfl⟩ := H
        go_wp2
        go_ret2
        exact ⟨by first | rfl | (simp [errW_none, errW_some] <;> rfl) | (simp [*, errW_none, errW_some] <;> rfl), by repeat (first | (with_reducible first | exact HB.out | apply below_alloc | apply pw_below_drewN | apply below_drew1) | exact HB.out)⟩

/-! ### op_digit: function 34 -/
def op_digit.f (a0 : Int) : Option (Int) := if a0 = 63 then (some (-1)) else (some ((a0 - 48) % 256))
set_option maxHeartbeats 8000000 in
set_option maxRecDepth 100000 in
theorem op_digit.calls (a0 : Int) (r : Int) (w : World) (h : op_digit.f a0 = some r) :
    Calls Try.prog 34 #[.int .u8 a0] w fun e w' => e = .returned (.int .i64 r) ∧ Drawn0 w w' := by
  have H : (if a0 = 63 then (some (-1)) else (some ((a0 - 48) % 256))) = some r := h
  clear h
  by_cases c2 : a0 = 63
  · rw [if_pos c2] at H
    have c2b0 : (a0 == 63) = true := beq_iff_eq.mpr c2
    have c2b1 : (a0 != 63) = false := bne_eq_false_iff_eq.mpr c2
    clear c2
    obtain rfl := Option.some.inj H
    go_enter Try.func34, Try.ntmps34
    go_wp2
    go_ret
    exact ⟨by first | rfl | (simp; done) | (simp [*]; done), by repeat (first | exact Drawn0.refl _ | apply Drawn0.step)⟩
  · rw [if_neg c2] at H
    have c2b0 : (a0 == 63) = false := beq_eq_false_iff_ne.mpr c2
    have c2b1 : (a0 != 63) = true := bne_iff_ne.mpr c2
    obtain rfl := Option.some.inj H
    go_enter Try.func34, Try.ntmps34
    go_wp2
    go_ret
    exact ⟨by first | rfl | (simp; done) | (simp [*]; done), by repeat (first | exact Drawn0.refl _ | apply Drawn0.step)⟩

/-! ### op_of: function 24 -/
def op_of.f (a0 : Int) : Option (Int × Int × Int × Bool) := (op_in.f a0).bind fun t123 => (if t123 = true then (if 0 ≤ a0 then (if a0 < 111 then ((op_digit.f (bt (⟨#[48, 48, 49, 48, 48, 50, 50, 48, 49, 48, 48, 48, 49, 48, 48, 49, 49, 49, 49, 49, 50, 50, 51, 50, 50, 50, 50, 52, 52, 49, 49, 49, 48, 50, 50, 50, 50, 50, 50, 51, 51, 49, 49, 49, 49, 49, 49, 50, 50, 50, 50, 50, 49, 50, 50, 50, 50, 50, 50, 50, 49, 49, 51, 50, 50, 51, 51, 51, 49, 52, 50, 49, 49, 49, 49, 49, 50, 49, 50, 50, 51, 51, 51, 49, 50, 49, 49, 48, 48, 48, 50, 50, 49, 49, 50, 48, 48, 48, 48, 48, 48, 49, 48, 51, 48, 48, 48, 49, 49, 49, 48]⟩ : ByteArray) a0)).bind fun t124 => ((op_digit.f (bt (⟨#[49, 48, 48, 63, 48, 48, 48, 48, 48, 48, 49, 49, 48, 49, 49, 63, 63, 63, 50, 48, 50, 51, 51, 49, 51, 52, 48, 52, 54, 63, 49, 48, 49, 49, 49, 49, 49, 49, 50, 49, 50, 49, 49, 49, 49, 49, 49, 49, 49, 49, 49, 49, 49, 49, 49, 49, 49, 49, 49, 49, 49, 49, 49, 50, 50, 50, 50, 50, 50, 50, 50, 49, 49, 49, 49, 49, 48, 49, 48, 48, 48, 48, 49, 48, 48, 48, 48, 48, 48, 48, 50, 50, 48, 48, 50, 49, 48, 48, 49, 49, 48, 48, 48, 48, 48, 48, 49, 48, 48, 48, 48]⟩ : ByteArray) a0)).bind fun t125 => ((op_digit.f (bt (⟨#[48, 48, 48, 48, 48, 48, 48, 48, 48, 48, 48, 48, 48, 48, 48, 48, 48, 48, 49, 49, 49, 49, 49, 49, 49, 49, 49, 49, 49, 49, 49, 49, 49, 49, 49, 49, 49, 49, 49, 49, 49, 49, 49, 49, 49, 49, 49, 49, 49, 49, 49, 49, 49, 49, 49, 49, 49, 49, 49, 49, 49, 49, 49, 49, 49, 49, 49, 49, 49, 49, 49, 49, 49, 49, 49, 50, 50, 50, 50, 50, 50, 50, 50, 51, 51, 51, 51, 51, 51, 52, 52, 52, 52, 52, 52, 53, 53, 53, 54, 54, 54, 54, 54, 54, 55, 55, 55, 55, 55, 55, 55]⟩ : ByteArray) a0)).bind fun t126 => (some (t124, t125, t126, true))))) else (none)) else (none)) else (some (0, (-1), (-1), false)))
def op_of.T3 : Bool × List (List Nat × List Nat) := (true, [([], []), ([0], [0]), ([1], [1]), ([], []), ([3], [3]), ([4, 2], [4]), ([], []), ([6], [6]), ([7, 5], [7]), ([2, 5, 8], [2, 5, 8]), ([9, 8, 0, 1, 2, 3, 4, 5, 6, 7, 8, 9], [9]), ([10, 0, 1, 2, 3, 4, 5, 6, 7, 8, 9, 10], [])])
def op_of.B3 : List Nat := [0, 1, 3, 0, 8, 31, 0, 64, 255, 511, 1023, 2047]
theorem op_of.tab3 : rtab .any (opsOf Try.f24 3) = op_of.T3 := by kernel_rfl
theorem op_of.bits3 : waitsOk op_of.T3.2 op_of.B3 = true := by kernel_rfl
set_option maxHeartbeats 8000000 in
set_option maxRecDepth 100000 in
theorem op_of.calls (a0 : Int) (r1 : Int) (r2 : Int) (r3 : Int) (r4 : Bool) (w : World) (h : op_of.f a0 = some (r1, r2, r3, r4)) :
    Calls Try.prog 24 #[.int .i64 a0] w fun e w' => e = .returned (.tuple #[.agg #[.int .i64 r1, .int .i64 r2, .int .i64 r3], .bool r4]) ∧ Below w.heap.size w w' := by
  have hu40 := Try.underlying40
  have HB := Aside0.mk (Below.refl w.heap.size w)
  have H : ((op_in.f a0).bind fun t123 => (if t123 = true then (if 0 ≤ a0 then (if a0 < 111 then ((op_digit.f (bt (⟨#[48, 48, 49, 48, 48, 50, 50, 48, 49, 48, 48, 48, 49, 48, 48, 49, 49, 49, 49, 49, 50, 50, 51, 50, 50, 50, 50, 52, 52, 49, 49, 49, 48, 50, 50, 50, 50, 50, 50, 51, 51, 49, 49, 49, 49, 49, 49, 50, 50, 50, 50, 50, 49, 50, 50, 50, 50, 50, 50, 50, 49, 49, 51, 50, 50, 51, 51, 51, 49, 52, 50, 49, 49, 49, 49, 49, 50, 49, 50, 50, 51, 51, 51, 49, 50, 49, 49, 48, 48, 48, 50, 50, 49, 49, 50, 48, 48, 48, 48, 48, 48, 49, 48, 51, 48, 48, 48, 49, 49, 49, 48]⟩ : ByteArray) a0)).bind fun t124 => ((op_digit.f (bt (⟨#[49, 48, 48, 63, 48, 48, 48, 48, 48, 48, 49, 49, 48, 49, 49, 63, 63, 63, 50, 48, 50, 51, 51, 49, 51, 52, 48, 52, 54, 63, 49, 48, 49, 49, 49, 49, 49, 49, 50, 49, 50, 49, 49, 49, 49, 49, 49, 49, 49, 49, 49, 49, 49, 49, 49, 49, 49, 49, 49, 49, 49, 49, 49, 50, 50, 50, 50, 50, 50, 50, 50, 49, 49, 49, 49, 49, 48, 49, 48, 48, 48, 48, 49, 48, 48, 48, 48, 48, 48, 48, 50, 50, 48, 48, 50, 49, 48, 48, 49, 49, 48, 48, 48, 48, 48, 48, 49, 48, 48, 48, 48]⟩ : ByteArray) a0)).bind fun t125 => ((op_digit.f (bt (⟨#[48, 48, 48, 48, 48, 48, 48, 48, 48, 48, 48, 48, 48, 48, 48, 48, 48, 48, 49, 49, 49, 49, 49, 49, 49, 49, 49, 49, 49, 49, 49, 49, 49, 49, 49, 49, 49, 49, 49, 49, 49, 49, 49, 49, 49, 49, 49, 49, 49, 49, 49, 49, 49, 49, 49, 49, 49, 49, 49, 49, 49, 49, 49, 49, 49, 49, 49, 49, 49, 49, 49, 49, 49, 49, 49, 50, 50, 50, 50, 50, 50, 50, 50, 51, 51, 51, 51, 51, 51, 52, 52, 52, 52, 52, 52, 53, 53, 53, 54, 54, 54, 54, 54, 54, 55, 55, 55, 55, 55, 55, 55]⟩ : ByteArray) a0)).bind fun t126 => (some (t124, t125, t126, true))))) else (none)) else (none)) else (some (0, (-1), (-1), false)))) = some (r1, r2, r3, r4) := h
  clear h
  replace H := Option.bind_eq_some_iff.mp H
  obtain ⟨t123, A20, H⟩ := H
  replace H : (if t123 = true then (if 0 ≤ a0 then (if a0 < 111 then ((op_digit.f (bt (⟨#[48, 48, 49, 48, 48, 50, 50, 48, 49, 48, 48, 48, 49, 48, 48, 49, 49, 49, 49, 49, 50, 50, 51, 50, 50, 50, 50, 52, 52, 49, 49, 49, 48, 50, 50, 50, 50, 50, 50, 51, 51, 49, 49, 49, 49, 49, 49, 50, 50, 50, 50, 50, 49, 50, 50, 50, 50, 50, 50, 50, 49, 49, 51, 50, 50, 51, 51, 51, 49, 52, 50, 49, 49, 49, 49, 49, 50, 49, 50, 50, 51, 51, 51, 49, 50, 49, 49, 48, 48, 48, 50, 50, 49, 49, 50, 48, 48, 48, 48, 48, 48, 49, 48, 51, 48, 48, 48, 49, 49, 49, 48]⟩ : ByteArray) a0)).bind fun t124 => ((op_digit.f (bt (⟨#[49, 48, 48, 63, 48, 48, 48, 48, 48, 48, 49, 49, 48, 49, 49, 63, 63, 63, 50, 48, 50, 51, 51, 49, 51, 52, 48, 52, 54, 63, 49, 48, 49, 49, 49, 49, 49, 49, 50, 49, 50, 49, 49, 49, 49, 49, 49, 49, 49, 49, 49, 49, 49, 49, 49, 49, 49, 49, 49, 49, 49, 49, 49, 50, 50, 50, 50, 50, 50, 50, 50, 49, 49, 49, 49, 49, 48, 49, 48, 48, 48, 48, 49, 48, 48, 48, 48, 48, 48, 48, 50, 50, 48, 48, 50, 49, 48, 48, 49, 49, 48, 48, 48, 48, 48, 48, 49, 48, 48, 48, 48]⟩ : ByteArray) a0)).bind fun t125 => ((op_digit.f (bt (⟨#[48, 48, 48, 48, 48, 48, 48, 48, 48, 48, 48, 48, 48, 48, 48, 48, 48, 48, 49, 49, 49, 49, 49, 49, 49, 49, 49, 49, 49, 49, 49, 49, 49, 49, 49, 49, 49, 49, 49, 49, 49, 49, 49, 49, 49, 49, 49, 49, 49, 49, 49, 49, 49, 49, 49, 49, 49, 49, 49, 49, 49, 49, 49, 49, 49, 49, 49, 49, 49, 49, 49, 49, 49, 49, 49, 50, 50, 50, 50, 50, 50, 50, 50, 51, 51, 51, 51, 51, 51, 52, 52, 52, 52, 52, 52, 53, 53, 53, 54, 54, 54, 54, 54, 54, 55, 55, 55, 55, 55, 55, 55]⟩ : ByteArray) a0)).bind fun t126 => (some (t124, t125, t126, true))))) else (none)) else (none)) else (some (0, (-1), (-1), false))) = some (r1, r2, r3, r4) := H
  have A2 := Aside0.mk A20
  clear A20
  by_cases c3 : t123 = true
  · subst c3
    have H1 : (if 0 ≤ a0 then (if a0 < 111 then ((op_digit.f (bt (⟨#[48, 48, 49, 48, 48, 50, 50, 48, 49, 48, 48, 48, 49, 48, 48, 49, 49, 49, 49, 49, 50, 50, 51, 50, 50, 50, 50, 52, 52, 49, 49, 49, 48, 50, 50, 50, 50, 50, 50, 51, 51, 49, 49, 49, 49, 49, 49, 50, 50, 50, 50, 50, 49, 50, 50, 50, 50, 50, 50, 50, 49, 49, 51, 50, 50, 51, 51, 51, 49, 52, 50, 49, 49, 49, 49, 49, 50, 49, 50, 50, 51, 51, 51, 49, 50, 49, 49, 48, 48, 48, 50, 50, 49, 49, 50, 48, 48, 48, 48, 48, 48, 49, 48, 51, 48, 48, 48, 49, 49, 49, 48]⟩ : ByteArray) a0)).bind fun t124 => ((op_digit.f (bt (⟨#[49, 48, 48, 63, 48, 48, 48, 48, 48, 48, 49, 49, 48, 49, 49, 63, 63, 63, 50, 48, 50, 51, 51, 49, 51, 52, 48, 52, 54, 63, 49, 48, 49, 49, 49, 49, 49, 49, 50, 49, 50, 49, 49, 49, 49, 49, 49, 49, 49, 49, 49, 49, 49, 49, 49, 49, 49, 49, 49, 49, 49, 49, 49, 50, 50, 50, 50, 50, 50, 50, 50, 49, 49, 49, 49, 49, 48, 49, 48, 48, 48, 48, 49, 48, 48, 48, 48, 48, 48, 48, 50, 50, 48, 48, 50, 49, 48, 48, 49, 49, 48, 48, 48, 48, 48, 48, 49, 48, 48, 48, 48]⟩ : ByteArray) a0)).bind fun t125 => ((op_digit.f (bt (⟨#[48, 48, 48, 48, 48, 48, 48, 48, 48, 48, 48, 48, 48, 48, 48, 48, 48, 48, 49, 49, 49, 49, 49, 49, 49, 49, 49, 49, 49, 49, 49, 49, 49, 49, 49, 49, 49, 49, 49, 49, 49, 49, 49, 49, 49, 49, 49, 49, 49, 49, 49, 49, 49, 49, 49, 49, 49, 49, 49, 49, 49, 49, 49, 49, 49, 49, 49, 49, 49, 49, 49, 49, 49, 49, 49, 50, 50, 50, 50, 50, 50, 50, 50, 51, 51, 51, 51, 51, 51, 52, 52, 52, 52, 52, 52, 53, 53, 53, 54, 54, 54, 54, 54, 54, 55, 55, 55, 55, 55, 55, 55]⟩ : ByteArray) a0)).bind fun t126 => (some (t124, t125, t126, true))))) else (none)) else (none)) = some (r1, r2, r3, r4) := by rw [if_pos rfl] at H; exact H
    clear H
    have H := H1
    clear H1
    by_cases c4 : 0 ≤ a0
    · rw [if_pos c4] at H
      have c4b0 : decide (0 ≤ a0) = true := decide_eq_true c4
      clear c4
      by_cases c5 : a0 < 111
      · rw [if_pos c5] at H
        have c5b0 : decide (a0 < 111) = true := decide_eq_true c5
        clear c5
        replace H := Option.bind_eq_some_iff.mp H
        obtain ⟨t124, A70, H⟩ := H
        replace H : ((op_digit.f (bt (⟨#[49, 48, 48, 63, 48, 48, 48, 48, 48, 48, 49, 49, 48, 49, 49, 63, 63, 63, 50, 48, 50, 51, 51, 49, 51, 52, 48, 52, 54, 63, 49, 48, 49, 49, 49, 49, 49, 49, 50, 49, 50, 49, 49, 49, 49, 49, 49, 49, 49, 49, 49, 49, 49, 49, 49, 49, 49, 49, 49, 49, 49, 49, 49, 50, 50, 50, 50, 50, 50, 50, 50, 49, 49, 49, 49, 49, 48, 49, 48, 48, 48, 48, 49, 48, 48, 48, 48, 48, 48, 48, 50, 50, 48, 48, 50, 49, 48, 48, 49, 49, 48, 48, 48, 48, 48, 48, 49, 48, 48, 48, 48]⟩ : ByteArray) a0)).bind fun t125 => ((op_digit.f (bt (⟨#[48, 48, 48, 48, 48, 48, 48, 48, 48, 48, 48, 48, 48, 48, 48, 48, 48, 48, 49, 49, 49, 49, 49, 49, 49, 49, 49, 49, 49, 49, 49, 49, 49, 49, 49, 49, 49, 49, 49, 49, 49, 49, 49, 49, 49, 49, 49, 49, 49, 49, 49, 49, 49, 49, 49, 49, 49, 49, 49, 49, 49, 49, 49, 49, 49, 49, 49, 49, 49, 49, 49, 49, 49, 49, 49, 50, 50, 50, 50, 50, 50, 50, 50, 51, 51, 51, 51, 51, 51, 52, 52, 52, 52, 52, 52, 53, 53, 53, 54, 54, 54, 54, 54, 54, 55, 55, 55, 55, 55, 55, 55]⟩ : ByteArray) a0)).bind fun t126 => (some (t124, t125, t126, true)))) = some (r1, r2, r3, r4) := H
        have A7 := Aside0.mk A70
        clear A70
        replace H := Option.bind_eq_some_iff.mp H
        obtain ⟨t125, A90, H⟩ := H
        replace H : ((op_digit.f (bt (⟨#[48, 48, 48, 48, 48, 48, 48, 48, 48, 48, 48, 48, 48, 48, 48, 48, 48, 48, 49, 49, 49, 49, 49, 49, 49, 49, 49, 49, 49, 49, 49, 49, 49, 49, 49, 49, 49, 49, 49, 49, 49, 49, 49, 49, 49, 49, 49, 49, 49, 49, 49, 49, 49, 49, 49, 49, 49, 49, 49, 49, 49, 49, 49, 49, 49, 49, 49, 49, 49, 49, 49, 49, 49, 49, 49, 50, 50, 50, 50, 50, 50, 50, 50, 51, 51, 51, 51, 51, 51, 52, 52, 52, 52, 52, 52, 53, 53, 53, 54, 54, 54, 54, 54, 54, 55, 55, 55, 55, 55, 55, 55]⟩ : ByteArray) a0)).bind fun t126 => (some (t124, t125, t126, true))) = some (r1, r2, r3, r4) := H
        have A9 := Aside0.mk A90
        clear A90
        replace H := Option.bind_eq_some_iff.mp H
        obtain ⟨t126, A110, H⟩ := H
        replace H : (some (t124, t125, t126, true)) = some (r1, r2, r3, r4) := H
        have A11 := Aside0.mk A110
        clear A110
        simp only [Option.some.injEq, Prod.mk.injEq] at H
        obtain ⟨rfl, rfl, rfl, rfl⟩ := H
        go_enter Try.func24, Try.ntmps24
        try go_wp2_with (first | ((with_reducible refine gate_dst (N := 2) rfl ?_); refine box_event ?hg (N := 2) ?hd (cs := #[.int .i64 0, .int .i64 0, .int .i64 0]) (t := 40) ?hr ?_; (case hd => rfl); (case hg => rfl); (case hr => first | (go_simp; done) | (go_simp; rfl)); intro gb122 hg w12 hbox hb; have n0_ := Aside0.mk (below_step (by repeat (first | (with_reducible first | exact HB.out | apply below_alloc | apply pw_below_drewN | apply below_drew1) | exact HB.out)) hb); have n1_ := Aside0.mk (hbox); have n2_ := Aside0.mk ((by rw [hg]; exact (below_size (by repeat (first | (with_reducible first | exact HB.out | apply below_alloc | apply pw_below_drewN | apply below_drew1) | exact HB.out))) : w.heap.size ≤ gb122)); have n3_ := Aside0.mk ((by rw [hg]; exact (below_size (by repeat (first | (with_reducible first | exact HB.out | apply below_alloc | apply pw_below_drewN | apply below_drew1) | exact HB.out))) : w.heap.size ≤ gb122)); clear HB; have HB := n0_; have BK122 := n1_; have GW122 := n2_; have GE122 := n3_; clear n0_ n1_ n2_ n3_; clear hb hbox hg) | ((with_reducible refine gate_callee (f := 27) rfl ?_); refine goesL_ (some 5) rfl rfl Try.func27 (by kernel_rfl) rfl #[.int .i64 a0] rfl (by (try simp only [List.map_toArray, List.map_cons, List.map_nil]); first | done | rfl | (simp only [List.length_drop, List.length_take]; rfl)) ?_; (with_reducible refine (op_in.calls a0 true _ A2.out).mono ?_); rintro e w' ⟨rfl, ⟨nd, rfl⟩⟩; refine ⟨_, rfl, ?_⟩; (try (rw [drewN_self w12]; generalize hq_ : World.drewN w12 _ = w12; have n0_ : Aside0 (w12.heap[gb122]? = some (.cells #[.int .i64 0, .int .i64 0, .int .i64 0] 40 (0, 0))) := ⟨by rw [← hq_]; exact (by (with_reducible repeat (first | refine blk_drewN ?_ _ | refine blk_drew ?_ | refine blk_alloc ?_ _)); exact BK122.out)⟩; have n1_ : Aside0 (Below w.heap.size w w12) := ⟨by rw [← hq_]; exact (by repeat (first | (with_reducible first | exact HB.out | apply below_alloc | apply pw_below_drewN | apply below_drew1 | refine below_set ?_ GE122.out) | exact HB.out))⟩; clear BK122 HB hq_; have BK122 := n0_; have HB := n1_; clear n0_ n1_))))
        have n0_ := Aside0.mk (blk_drew BK122.out)
        have n1_ := Aside0.mk (below_drew1 HB.out)
        clear BK122
        clear HB
        have BK122 := n0_
        have HB := n1_
        clear n0_ n1_
        have p6 : 0 ≤ (a0 : Int) := of_decide_eq_true (by first | (with_reducible assumption) | assumption)
        have q6 : a0 < (111 : Int) := of_decide_eq_true (by first | (with_reducible assumption) | assumption)
        have hx6 := bt_at (⟨#[48, 48, 49, 48, 48, 50, 50, 48, 49, 48, 48, 48, 49, 48, 48, 49, 49, 49, 49, 49, 50, 50, 51, 50, 50, 50, 50, 52, 52, 49, 49, 49, 48, 50, 50, 50, 50, 50, 50, 51, 51, 49, 49, 49, 49, 49, 49, 50, 50, 50, 50, 50, 49, 50, 50, 50, 50, 50, 50, 50, 49, 49, 51, 50, 50, 51, 51, 51, 49, 52, 50, 49, 49, 49, 49, 49, 50, 49, 50, 50, 51, 51, 51, 49, 50, 49, 49, 48, 48, 48, 50, 50, 49, 49, 50, 48, 48, 48, 48, 48, 48, 49, 48, 51, 48, 48, 48, 49, 49, 49, 48]⟩ : ByteArray) a0
        replace p6 := eq_true p6
        replace q6 := eq_true q6
        have p8 : 0 ≤ (a0 : Int) := of_decide_eq_true (by first | (with_reducible assumption) | assumption)
        have q8 : a0 < (111 : Int) := of_decide_eq_true (by first | (with_reducible assumption) | assumption)
        have hx8 := bt_at (⟨#[49, 48, 48, 63, 48, 48, 48, 48, 48, 48, 49, 49, 48, 49, 49, 63, 63, 63, 50, 48, 50, 51, 51, 49, 51, 52, 48, 52, 54, 63, 49, 48, 49, 49, 49, 49, 49, 49, 50, 49, 50, 49, 49, 49, 49, 49, 49, 49, 49, 49, 49, 49, 49, 49, 49, 49, 49, 49, 49, 49, 49, 49, 49, 50, 50, 50, 50, 50, 50, 50, 50, 49, 49, 49, 49, 49, 48, 49, 48, 48, 48, 48, 49, 48, 48, 48, 48, 48, 48, 48, 50, 50, 48, 48, 50, 49, 48, 48, 49, 49, 48, 48, 48, 48, 48, 48, 49, 48, 48, 48, 48]⟩ : ByteArray) a0
        replace p8 := eq_true p8
        replace q8 := eq_true q8
        have p10 : 0 ≤ (a0 : Int) := of_decide_eq_true (by first | (with_reducible assumption) | assumption)
        have q10 : a0 < (111 : Int) := of_decide_eq_true (by first | (with_reducible assumption) | assumption)
        have hx10 := bt_at (⟨#[48, 48, 48, 48, 48, 48, 48, 48, 48, 48, 48, 48, 48, 48, 48, 48, 48, 48, 49, 49, 49, 49, 49, 49, 49, 49, 49, 49, 49, 49, 49, 49, 49, 49, 49, 49, 49, 49, 49, 49, 49, 49, 49, 49, 49, 49, 49, 49, 49, 49, 49, 49, 49, 49, 49, 49, 49, 49, 49, 49, 49, 49, 49, 49, 49, 49, 49, 49, 49, 49, 49, 49, 49, 49, 49, 50, 50, 50, 50, 50, 50, 50, 50, 51, 51, 51, 51, 51, 51, 52, 52, 52, 52, 52, 52, 53, 53, 53, 54, 54, 54, 54, 54, 54, 55, 55, 55, 55, 55, 55, 55]⟩ : ByteArray) a0
        replace p10 := eq_true p10
        replace q10 := eq_true q10
        refine start_ (n := 12) (S := fun w' => True) (ds := []) #[false, false, false, false, false, false, false, false, false, false, false, false] (by kernel_rfl) rfl rfl trivial (fun hHeld => ?_); refine with_tabW op_of.tab3 op_of.bits3 (fun HT_ HW_ => ?_)
        generalize w12.drew = w13 at BK122 HB hHeld ⊢
        refine pure_ (i := 0) (N := some 8) (v := ?_) (a' := ?_) #[true, false, false, false, false, false, false, false, false, false, false, false] rfl rfl (any_of HT_.out (by kernel_rfl)) (fun _ _ _ h => h) (Or.inl ⟨by rfl, ?_⟩) ?_ ?_
        rotate_left
        · intro w'
          go_simp
          with_reducible rfl
        rotate_left
        · simp only [Act.put, List.setIfInBounds_toArray, List.set_cons_zero, List.set_cons_succ, i64_w, i32_w]
          rfl
        refine pure_ (i := 3) (N := some 11) (v := ?_) (a' := ?_) #[true, false, false, true, false, false, false, false, false, false, false, false] rfl rfl (any_of HT_.out (by kernel_rfl)) (fun _ _ _ h => h) (Or.inl ⟨by rfl, ?_⟩) ?_ ?_
        rotate_left
        · intro w'
          go_simp
          with_reducible rfl
        rotate_left
        · simp only [Act.put, List.setIfInBounds_toArray, List.set_cons_zero, List.set_cons_succ, i64_w, i32_w]
          rfl
        refine pure_ (i := 6) (N := some 14) (v := ?_) (a' := ?_) #[true, false, false, true, false, false, true, false, false, false, false, false] rfl rfl (any_of HT_.out (by kernel_rfl)) (fun _ _ _ h => h) (Or.inl ⟨by rfl, ?_⟩) ?_ ?_
        rotate_left
        · intro w'
          go_simp
          with_reducible rfl
        rotate_left
        · simp only [Act.put, List.setIfInBounds_toArray, List.set_cons_zero, List.set_cons_succ, i64_w, i32_w]
          rfl
        refine take_ (i := 1) (N := some 9) (v := ?_) (a' := ?_) #[true, true, false, true, false, false, true, false, false, false, false, false] rfl rfl (take_ofW HT_.out HW_.out (by kernel_rfl)) (fun _ _ _ h => h) (Or.inl ⟨by rfl, ?_⟩) hHeld ?_ ?_
        rotate_left
        · intro w' _
          go_simp
          with_reducible rfl
        rotate_left
        · simp only [Act.put, List.setIfInBounds_toArray, List.set_cons_zero, List.set_cons_succ, i64_w, i32_w]
          rfl
        refine take_ (i := 4) (N := some 12) (v := ?_) (a' := ?_) #[true, true, false, true, true, false, true, false, false, false, false, false] rfl rfl (take_ofW HT_.out HW_.out (by kernel_rfl)) (fun _ _ _ h => h) (Or.inl ⟨by rfl, ?_⟩) hHeld ?_ ?_
        rotate_left
        · intro w' _
          go_simp
          with_reducible rfl
        rotate_left
        · simp only [Act.put, List.setIfInBounds_toArray, List.set_cons_zero, List.set_cons_succ, i64_w, i32_w]
          rfl
        refine take_ (i := 7) (N := some 15) (v := ?_) (a' := ?_) #[true, true, false, true, true, false, true, true, false, false, false, false] rfl rfl (take_ofW HT_.out HW_.out (by kernel_rfl)) (fun _ _ _ h => h) (Or.inl ⟨by rfl, ?_⟩) hHeld ?_ ?_
        rotate_left
        · intro w' _
          go_simp
          with_reducible rfl
        rotate_left
        · simp only [Act.put, List.setIfInBounds_toArray, List.set_cons_zero, List.set_cons_succ, i64_w, i32_w]
          rfl
        refine one_ (i := 2) (N := some 10) #[true, true, true, true, true, false, true, true, false, false, false, false] rfl rfl (one_of HT_.out (by kernel_rfl)) (by decide) (fun K hK => ?_)
        refine goes_ Try.func34 (by kernel_rfl) rfl #[.int .u8 (bt (⟨#[48, 48, 49, 48, 48, 50, 50, 48, 49, 48, 48, 48, 49, 48, 48, 49, 49, 49, 49, 49, 50, 50, 51, 50, 50, 50, 50, 52, 52, 49, 49, 49, 48, 50, 50, 50, 50, 50, 50, 51, 51, 49, 49, 49, 49, 49, 49, 50, 50, 50, 50, 50, 49, 50, 50, 50, 50, 50, 50, 50, 49, 49, 51, 50, 50, 51, 51, 51, 49, 52, 50, 49, 49, 49, 49, 49, 50, 49, 50, 50, 51, 51, 51, 49, 50, 49, 49, 48, 48, 48, 50, 50, 49, 49, 50, 48, 48, 48, 48, 48, 48, 49, 48, 51, 48, 48, 48, 49, 49, 49, 48]⟩ : ByteArray) a0)] (by rfl) rfl rfl (by (try simp only [List.map_toArray, List.map_cons, List.map_nil]); first | done | rfl | (simp only [List.length_drop, List.length_take]; rfl)) ?_
        with_reducible refine (op_digit.calls (bt (⟨#[48, 48, 49, 48, 48, 50, 50, 48, 49, 48, 48, 48, 49, 48, 48, 49, 49, 49, 49, 49, 50, 50, 51, 50, 50, 50, 50, 52, 52, 49, 49, 49, 48, 50, 50, 50, 50, 50, 50, 51, 51, 49, 49, 49, 49, 49, 49, 50, 50, 50, 50, 50, 49, 50, 50, 50, 50, 50, 50, 50, 49, 49, 51, 50, 50, 51, 51, 51, 49, 52, 50, 49, 49, 49, 49, 49, 50, 49, 50, 50, 51, 51, 51, 49, 50, 49, 49, 48, 48, 48, 50, 50, 49, 49, 50, 48, 48, 48, 48, 48, 48, 49, 48, 51, 48, 48, 48, 49, 49, 49, 48]⟩ : ByteArray) a0) t124 _ A7.out).mono ?_
        rintro e w' ⟨rfl, ⟨nd, rfl⟩⟩
        refine ⟨_, rfl, ?_⟩
        refine hK.out _ _ trivial (fun hHeld => ?_)
        clear hK K
        refine norm_ (a' := ?_) ?_ ?_
        rotate_left
        · show Act.put _ (some 10) _ = _
          simp only [Act.put, List.setIfInBounds_toArray, List.set_cons_zero, List.set_cons_succ, i64_w, i32_w]
          rfl
        refine one_ (i := 5) (N := some 13) #[true, true, true, true, true, true, true, true, false, false, false, false] rfl rfl (one_of HT_.out (by kernel_rfl)) (by decide) (fun K hK => ?_)
        refine goes_ Try.func34 (by kernel_rfl) rfl #[.int .u8 (bt (⟨#[49, 48, 48, 63, 48, 48, 48, 48, 48, 48, 49, 49, 48, 49, 49, 63, 63, 63, 50, 48, 50, 51, 51, 49, 51, 52, 48, 52, 54, 63, 49, 48, 49, 49, 49, 49, 49, 49, 50, 49, 50, 49, 49, 49, 49, 49, 49, 49, 49, 49, 49, 49, 49, 49, 49, 49, 49, 49, 49, 49, 49, 49, 49, 50, 50, 50, 50, 50, 50, 50, 50, 49, 49, 49, 49, 49, 48, 49, 48, 48, 48, 48, 49, 48, 48, 48, 48, 48, 48, 48, 50, 50, 48, 48, 50, 49, 48, 48, 49, 49, 48, 48, 48, 48, 48, 48, 49, 48, 48, 48, 48]⟩ : ByteArray) a0)] (by rfl) rfl rfl (by (try simp only [List.map_toArray, List.map_cons, List.map_nil]); first | done | rfl | (simp only [List.length_drop, List.length_take]; rfl)) ?_
        with_reducible refine (op_digit.calls (bt (⟨#[49, 48, 48, 63, 48, 48, 48, 48, 48, 48, 49, 49, 48, 49, 49, 63, 63, 63, 50, 48, 50, 51, 51, 49, 51, 52, 48, 52, 54, 63, 49, 48, 49, 49, 49, 49, 49, 49, 50, 49, 50, 49, 49, 49, 49, 49, 49, 49, 49, 49, 49, 49, 49, 49, 49, 49, 49, 49, 49, 49, 49, 49, 49, 50, 50, 50, 50, 50, 50, 50, 50, 49, 49, 49, 49, 49, 48, 49, 48, 48, 48, 48, 49, 48, 48, 48, 48, 48, 48, 48, 50, 50, 48, 48, 50, 49, 48, 48, 49, 49, 48, 48, 48, 48, 48, 48, 49, 48, 48, 48, 48]⟩ : ByteArray) a0) t125 _ A9.out).mono ?_
        rintro e w' ⟨rfl, ⟨nd, rfl⟩⟩
        refine ⟨_, rfl, ?_⟩
        refine hK.out _ _ trivial (fun hHeld => ?_)
        clear hK K
        refine norm_ (a' := ?_) ?_ ?_
        rotate_left
        · show Act.put _ (some 13) _ = _
          simp only [Act.put, List.setIfInBounds_toArray, List.set_cons_zero, List.set_cons_succ, i64_w, i32_w]
          rfl
        refine one_ (i := 8) (N := some 16) #[true, true, true, true, true, true, true, true, true, false, false, false] rfl rfl (one_of HT_.out (by kernel_rfl)) (by decide) (fun K hK => ?_)
        refine goes_ Try.func34 (by kernel_rfl) rfl #[.int .u8 (bt (⟨#[48, 48, 48, 48, 48, 48, 48, 48, 48, 48, 48, 48, 48, 48, 48, 48, 48, 48, 49, 49, 49, 49, 49, 49, 49, 49, 49, 49, 49, 49, 49, 49, 49, 49, 49, 49, 49, 49, 49, 49, 49, 49, 49, 49, 49, 49, 49, 49, 49, 49, 49, 49, 49, 49, 49, 49, 49, 49, 49, 49, 49, 49, 49, 49, 49, 49, 49, 49, 49, 49, 49, 49, 49, 49, 49, 50, 50, 50, 50, 50, 50, 50, 50, 51, 51, 51, 51, 51, 51, 52, 52, 52, 52, 52, 52, 53, 53, 53, 54, 54, 54, 54, 54, 54, 55, 55, 55, 55, 55, 55, 55]⟩ : ByteArray) a0)] (by rfl) rfl rfl (by (try simp only [List.map_toArray, List.map_cons, List.map_nil]); first | done | rfl | (simp only [List.length_drop, List.length_take]; rfl)) ?_
        with_reducible refine (op_digit.calls (bt (⟨#[48, 48, 48, 48, 48, 48, 48, 48, 48, 48, 48, 48, 48, 48, 48, 48, 48, 48, 49, 49, 49, 49, 49, 49, 49, 49, 49, 49, 49, 49, 49, 49, 49, 49, 49, 49, 49, 49, 49, 49, 49, 49, 49, 49, 49, 49, 49, 49, 49, 49, 49, 49, 49, 49, 49, 49, 49, 49, 49, 49, 49, 49, 49, 49, 49, 49, 49, 49, 49, 49, 49, 49, 49, 49, 49, 50, 50, 50, 50, 50, 50, 50, 50, 51, 51, 51, 51, 51, 51, 52, 52, 52, 52, 52, 52, 53, 53, 53, 54, 54, 54, 54, 54, 54, 55, 55, 55, 55, 55, 55, 55]⟩ : ByteArray) a0) t126 _ A11.out).mono ?_
        rintro e w' ⟨rfl, ⟨nd, rfl⟩⟩
        refine ⟨_, rfl, ?_⟩
        refine hK.out _ _ trivial (fun hHeld => ?_)
        clear hK K
        refine norm_ (a' := ?_) ?_ ?_
        rotate_left
        · show Act.put _ (some 16) _ = _
          simp only [Act.put, List.setIfInBounds_toArray, List.set_cons_zero, List.set_cons_succ, i64_w, i32_w]
          rfl
        refine pure_ (i := 9) (N := some 17) (v := ?_) (a' := ?_) #[true, true, true, true, true, true, true, true, true, true, false, false] rfl rfl (any_of HT_.out (by kernel_rfl)) (fun _ _ _ h => h) (Or.inl ⟨by rfl, ?_⟩) ?_ ?_
        rotate_left
        · intro w'
          go_simp
          with_reducible rfl
        rotate_left
        · simp only [Act.put, List.setIfInBounds_toArray, List.set_cons_zero, List.set_cons_succ, i64_w, i32_w]
          rfl
        refine one_ (i := 10) (N := none) #[true, true, true, true, true, true, true, true, true, true, true, false] rfl rfl (one_of HT_.out (by kernel_rfl)) (by decide) (fun K hK => ?_)
        have hs14 : w13.cell? ⟨gb122, 0, none⟩ = some (.int .i64 0) := (blk_cell BK122.out 0).trans rfl
        have hfs14 := blk_frozen BK122.out 0
        have hs15 : w13.cell? ⟨gb122, 1, none⟩ = some (.int .i64 0) := (blk_cell BK122.out 1).trans rfl
        have hfs15 := blk_frozen BK122.out 1
        have hs16 : w13.cell? ⟨gb122, 2, none⟩ = some (.int .i64 0) := (blk_cell BK122.out 2).trans rfl
        have hfs16 := blk_frozen BK122.out 2
        refine skip_ (w1 := ?_) (by rfl) rfl ?_ ?_
        rotate_left
        · go_simp
          rfl
        refine hK.out _ _ trivial (fun hHeld => ?_)
        clear hK K
        refine pure_ (i := 11) (N := some 3) (v := ?_) (a' := ?_) #[true, true, true, true, true, true, true, true, true, true, true, true] rfl rfl (any_of HT_.out (by kernel_rfl)) (fun _ _ _ h => h) (Or.inl ⟨by rfl, ?_⟩) ?_ ?_
        rotate_left
        · intro w'
          go_simp
          with_reducible rfl
        rotate_left
        · simp only [Act.put, List.setIfInBounds_toArray, List.set_cons_zero, List.set_cons_succ, i64_w, i32_w]
          rfl
        refine done_ (done_of HT_.out (by kernel_rfl)) ?_
        try go_wp2
        refine bodyPost_ret (results_ct rfl _ _ gb122 40 #[.int .i64 t124, .int .i64 t125, .int .i64 t126] (0, 0) _ rfl (by (with_reducible repeat (first | refine blk_drewN ?_ _ | refine blk_drew ?_ | refine blk_alloc ?_ _)); refine blk_put (cs := #[.int .i64 t124, .int .i64 t125, .int .i64 0]) ?_ 2 _ rfl; (with_reducible repeat (first | refine blk_drewN ?_ _ | refine blk_drew ?_ | refine blk_alloc ?_ _)); refine blk_put (cs := #[.int .i64 t124, .int .i64 0, .int .i64 0]) ?_ 1 _ rfl; (with_reducible repeat (first | refine blk_drewN ?_ _ | refine blk_drew ?_ | refine blk_alloc ?_ _)); refine blk_put (cs := #[.int .i64 0, .int .i64 0, .int .i64 0]) ?_ 0 _ rfl; (with_reducible repeat (first | refine blk_drewN ?_ _ | refine blk_drew ?_ | refine blk_alloc ?_ _)); exact BK122.out) Try.underlying40 rfl (by kernel_rfl)) rfl ?_
        exact ⟨by first | rfl | (simp [errW_none, errW_some] <;> rfl) | (simp [*, errW_none, errW_some] <;> rfl), by repeat (first | (with_reducible first | exact HB.out | apply below_alloc | apply pw_below_drewN | apply below_drew1 | refine below_set ?_ GE122.out) | exact HB.out)⟩
      · rw [if_neg c5] at H
        exact absurd H (by simp)
    · rw [if_neg c4] at H
      exact absurd H (by simp)
  · replace c3 := Bool.eq_false_iff.mpr c3
    subst c3
    have H1 : (some (0, (-1), (-1), false)) = some (r1, r2, r3, r4) := by rw [if_neg (show ¬ (false = true) by decide)] at H; exact H
    clear H
    have H := H1
    clear H1
    simp only [Option.some.injEq, Prod.mk.injEq] at H
    obtain ⟨rfl, rfl, rfl, rfl⟩ := H
    go_enter Try.func24, Try.ntmps24
    go_wp2_with (first | ((with_reducible refine gate_dst (N := 2) rfl ?_); refine box_event ?hg (N := 2) ?hd (cs := #[.int .i64 0, .int .i64 0, .int .i64 0]) (t := 40) ?hr ?_; (case hd => rfl); (case hg => rfl); (case hr => first | (go_simp; done) | (go_simp; rfl)); intro gb122 hg w17 hbox hb; have n0_ := Aside0.mk (below_step (by repeat (first | (with_reducible first | exact HB.out | apply below_alloc | apply pw_below_drewN | apply below_drew1) | exact HB.out)) hb); have n1_ := Aside0.mk (hbox); have n2_ := Aside0.mk ((by rw [hg]; exact (below_size (by repeat (first | (with_reducible first | exact HB.out | apply below_alloc | apply pw_below_drewN | apply below_drew1) | exact HB.out))) : w.heap.size ≤ gb122)); have n3_ := Aside0.mk ((by rw [hg]; exact (below_size (by repeat (first | (with_reducible first | exact HB.out | apply below_alloc | apply pw_below_drewN | apply below_drew1) | exact HB.out))) : w.heap.size ≤ gb122)); clear HB; have HB := n0_; have BK122 := n1_; have GW122 := n2_; have GE122 := n3_; clear n0_ n1_ n2_ n3_; clear hb hbox hg) | ((with_reducible refine gate_callee (f := 27) rfl ?_); refine goesL_ (some 5) rfl rfl Try.func27 (by kernel_rfl) rfl #[.int .i64 a0] rfl (by (try simp only [List.map_toArray, List.map_cons, List.map_nil]); first | done | rfl | (simp only [List.length_drop, List.length_take]; rfl)) ?_; (with_reducible refine (op_in.calls a0 false _ A2.out).mono ?_); rintro e w' ⟨rfl, ⟨nd, rfl⟩⟩; refine ⟨_, rfl, ?_⟩; (try (rw [drewN_self w17]; generalize hq_ : World.drewN w17 _ = w17; have n0_ : Aside0 (w17.heap[gb122]? = some (.cells #[.int .i64 0, .int .i64 0, .int .i64 0] 40 (0, 0))) := ⟨by rw [← hq_]; exact (by (with_reducible repeat (first | refine blk_drewN ?_ _ | refine blk_drew ?_ | refine blk_alloc ?_ _)); exact BK122.out)⟩; have n1_ : Aside0 (Below w.heap.size w w17) := ⟨by rw [← hq_]; exact (by repeat (first | (with_reducible first | exact HB.out | apply below_alloc | apply pw_below_drewN | apply below_drew1 | refine below_set ?_ GE122.out) | exact HB.out))⟩; clear BK122 HB hq_; have BK122 := n0_; have HB := n1_; clear n0_ n1_)); have hcz18_0 : w17.cell? ⟨gb122, 0, none⟩ = some (.int .i64 0) := (blk_cell BK122.out 0).trans rfl; have hcz18_1 : w17.cell? ⟨gb122, 1, none⟩ = some (.int .i64 0) := (blk_cell BK122.out 1).trans rfl; have hcz18_2 : w17.cell? ⟨gb122, 2, none⟩ = some (.int .i64 0) := (blk_cell BK122.out 2).trans rfl; have hfz18_0 := blk_frozen BK122.out 0; have hfz18_1 := blk_frozen BK122.out 1; have hfz18_2 := blk_frozen BK122.out 2))
    refine bodyPost_ret (results_ct rfl _ _ gb122 40 #[.int .i64 0, .int .i64 (-1), .int .i64 (-1)] (0, 0) _ rfl (by (with_reducible repeat (first | refine blk_drewN ?_ _ | refine blk_drew ?_ | refine blk_alloc ?_ _)); refine blk_put (cs := #[.int .i64 0, .int .i64 (-1), .int .i64 0]) ?_ 2 _ rfl; (with_reducible repeat (first | refine blk_drewN ?_ _ | refine blk_drew ?_ | refine blk_alloc ?_ _)); refine blk_put (cs := #[.int .i64 0, .int .i64 0, .int .i64 0]) ?_ 1 _ rfl; (with_reducible repeat (first | refine blk_drewN ?_ _ | refine blk_drew ?_ | refine blk_alloc ?_ _)); refine blk_put (cs := #[.int .i64 0, .int .i64 0, .int .i64 0]) ?_ 0 _ rfl; (with_reducible repeat (first | refine blk_drewN ?_ _ | refine blk_drew ?_ | refine blk_alloc ?_ _)); exact BK122.out) Try.underlying40 rfl (by kernel_rfl)) rfl ?_
    exact ⟨by first | rfl | (simp [errW_none, errW_some] <;> rfl) | (simp [*, errW_none, errW_some] <;> rfl), by repeat (first | (with_reducible first | exact HB.out | apply below_alloc | apply pw_below_drewN | apply below_drew1 | refine below_set ?_ GE122.out) | exact HB.out)⟩

/-! ### op_Leaves: function 9 -/
def op_Leaves.f (a0 : Int) : Option (Int × Bool) := (op_of.f a0).bind fun bt127 => (some (mx bt127.2.1 0, (bt127.2.1 != (-1))))
set_option maxHeartbeats 8000000 in
set_option maxRecDepth 100000 in
theorem op_Leaves.calls (a0 : Int) (r1 : Int) (r2 : Bool) (w : World) (h : op_Leaves.f a0 = some (r1, r2)) :
    Calls Try.prog 9 #[.int .i64 a0] w fun e w' => e = .returned (.tuple #[.int .i64 r1, .bool r2]) ∧ Below w.heap.size w w' := by
  have hu40 := Try.underlying40
  have HB := Aside0.mk (Below.refl w.heap.size w)
  have H : ((op_of.f a0).bind fun bt127 => (some (mx bt127.2.1 0, (bt127.2.1 != (-1))))) = some (r1, r2) := h
  clear h
  replace H := Option.bind_eq_some_iff.mp H
  obtain ⟨⟨t127, t128, t129, t130⟩, A20, H⟩ := H
  replace H : (some (mx t128 0, (t128 != (-1)))) = some (r1, r2) := H
  have A2 := Aside0.mk A20
  clear A20
  obtain ⟨ji3, hji3⟩ : ∃ j_ : Int, (mx t128 0) = j_ := ⟨_, rfl⟩
  replace H : (some (ji3, (t128 != (-1)))) = some (r1, r2) := by first | (rw [hji3] at H; exact H) | (simp only [hji3] at H ⊢; exact H)
  (try rw [hji3] at A2)
  (try (have hji3l : 0 ≤ ji3 := by (rw [← hji3]; unfold mx; (repeat' split) <;> omega)))
  (try (have hji3m : 0 ≤ ji3 := by omega))
  have hji3_ : (if t128 < 0 then 0 else t128) = ji3 := hji3
  simp only [Option.some.injEq, Prod.mk.injEq] at H
  obtain ⟨rfl, rfl⟩ := H
  go_enter Try.func9, Try.ntmps9
  go_wp2_with (first | (go_at_call 24; (with_reducible refine (op_of.calls a0 t127 t128 t129 t130 _ A2.out).mono ?_); rintro e w4 ⟨rfl, hb⟩; have n0_ := Aside0.mk (below_step (by repeat (first | (with_reducible first | exact HB.out | apply below_alloc | apply pw_below_drewN | apply below_drew1) | exact HB.out)) hb); clear HB; have HB := n0_; clear n0_; (try clear hb); (try clear hb2); (try clear hk); (try clear hi)) | ((with_reducible refine gate_dst (N := 4) rfl ?_); refine box_event ?hg (N := 4) ?hd (cs := #[.int .i64 0, .int .i64 0, .int .i64 0]) (t := 40) ?hr ?_; (case hd => rfl); (case hg => rfl); (case hr => first | (go_simp; done) | (go_simp; rfl)); intro gb131 hg w5 hbox hb; have n0_ := Aside0.mk (below_step (by repeat (first | (with_reducible first | exact HB.out | apply below_alloc | apply pw_below_drewN | apply below_drew1) | exact HB.out)) hb); have n1_ := Aside0.mk (hbox); have n2_ := Aside0.mk ((by rw [hg]; exact (below_size (by repeat (first | (with_reducible first | exact HB.out | apply below_alloc | apply pw_below_drewN | apply below_drew1) | exact HB.out))) : w.heap.size ≤ gb131)); have n3_ := Aside0.mk ((by rw [hg]; exact (below_size (by repeat (first | (with_reducible first | exact HB.out | apply below_alloc | apply pw_below_drewN | apply below_drew1) | exact HB.out))) : w.heap.size ≤ gb131)); clear HB; have HB := n0_; have BK131 := n1_; have GW131 := n2_; have GE131 := n3_; clear n0_ n1_ n2_ n3_; clear hb hbox hg; have hcz6_0 : w5.cell? ⟨gb131, 0, none⟩ = some (.int .i64 0) := (blk_cell BK131.out 0).trans rfl; have hcz6_1 : w5.cell? ⟨gb131, 1, none⟩ = some (.int .i64 0) := (blk_cell BK131.out 1).trans rfl; have hcz6_2 : w5.cell? ⟨gb131, 2, none⟩ = some (.int .i64 0) := (blk_cell BK131.out 2).trans rfl; have hfz6_0 := blk_frozen BK131.out 0; have hfz6_1 := blk_frozen BK131.out 1; have hfz6_2 := blk_frozen BK131.out 2))
  repeat (go_quiet (first | (go_at_call 24; (with_reducible refine (op_of.calls a0 t127 t128 t129 t130 _ A2.out).mono ?_); rintro e w4 ⟨rfl, hb⟩; have n0_ := Aside0.mk (below_step (by repeat (first | (with_reducible first | exact HB.out | apply below_alloc | apply pw_below_drewN | apply below_drew1) | exact HB.out)) hb); clear HB; have HB := n0_; clear n0_; (try clear hb); (try clear hb2); (try clear hk); (try clear hi)) | ((with_reducible refine gate_dst (N := 4) rfl ?_); refine box_event ?hg (N := 4) ?hd (cs := #[.int .i64 0, .int .i64 0, .int .i64 0]) (t := 40) ?hr ?_; (case hd => rfl); (case hg => rfl); (case hr => first | (go_simp; done) | (go_simp; rfl)); intro gb131 hg w5 hbox hb; have n0_ := Aside0.mk (below_step (by repeat (first | (with_reducible first | exact HB.out | apply below_alloc | apply pw_below_drewN | apply below_drew1) | exact HB.out)) hb); have n1_ := Aside0.mk (hbox); have n2_ := Aside0.mk ((by rw [hg]; exact (below_size (by repeat (first | (with_reducible first | exact HB.out | apply below_alloc | apply pw_below_drewN | apply below_drew1) | exact HB.out))) : w.heap.size ≤ gb131)); have n3_ := Aside0.mk ((by rw [hg]; exact (below_size (by repeat (first | (with_reducible first | exact HB.out | apply below_alloc | apply pw_below_drewN | apply below_drew1) | exact HB.out))) : w.heap.size ≤ gb131)); clear HB; have HB := n0_; have BK131 := n1_; have GW131 := n2_; have GE131 := n3_; clear n0_ n1_ n2_ n3_; clear hb hbox hg; have hcz6_0 : w5.cell? ⟨gb131, 0, none⟩ = some (.int .i64 0) := (blk_cell BK131.out 0).trans rfl; have hcz6_1 : w5.cell? ⟨gb131, 1, none⟩ = some (.int .i64 0) := (blk_cell BK131.out 1).trans rfl; have hcz6_2 : w5.cell? ⟨gb131, 2, none⟩ = some (.int .i64 0) := (blk_cell BK131.out 2).trans rfl; have hfz6_0 := blk_frozen BK131.out 0; have hfz6_1 := blk_frozen BK131.out 1; have hfz6_2 := blk_frozen BK131.out 2)); try go_wp2_with (first | (go_at_call 24; (with_reducible refine (op_of.calls a0 t127 t128 t129 t130 _ A2.out).mono ?_); rintro e w4 ⟨rfl, hb⟩; have n0_ := Aside0.mk (below_step (by repeat (first | (with_reducible first | exact HB.out | apply below_alloc | apply pw_below_drewN | apply below_drew1) | exact HB.out)) hb); clear HB; have HB := n0_; clear n0_; (try clear hb); (try clear hb2); (try clear hk); (try clear hi)) | ((with_reducible refine gate_dst (N := 4) rfl ?_); refine box_event ?hg (N := 4) ?hd (cs := #[.int .i64 0, .int .i64 0, .int .i64 0]) (t := 40) ?hr ?_; (case hd => rfl); (case hg => rfl); (case hr => first | (go_simp; done) | (go_simp; rfl)); intro gb131 hg w5 hbox hb; have n0_ := Aside0.mk (below_step (by repeat (first | (with_reducible first | exact HB.out | apply below_alloc | apply pw_below_drewN | apply below_drew1) | exact HB.out)) hb); have n1_ := Aside0.mk (hbox); have n2_ := Aside0.mk ((by rw [hg]; exact (below_size (by repeat (first | (with_reducible first | exact HB.out | apply below_alloc | apply pw_below_drewN | apply below_drew1) | exact HB.out))) : w.heap.size ≤ gb131)); have n3_ := Aside0.mk ((by rw [hg]; exact (below_size (by repeat (first | (with_reducible first | exact HB.out | apply below_alloc | apply pw_below_drewN | apply below_drew1) | exact HB.out))) : w.heap.size ≤ gb131)); clear HB; have HB := n0_; have BK131 := n1_; have GW131 := n2_; have GE131 := n3_; clear n0_ n1_ n2_ n3_; clear hb hbox hg; have hcz6_0 : w5.cell? ⟨gb131, 0, none⟩ = some (.int .i64 0) := (blk_cell BK131.out 0).trans rfl; have hcz6_1 : w5.cell? ⟨gb131, 1, none⟩ = some (.int .i64 0) := (blk_cell BK131.out 1).trans rfl; have hcz6_2 : w5.cell? ⟨gb131, 2, none⟩ = some (.int .i64 0) := (blk_cell BK131.out 2).trans rfl; have hfz6_0 := blk_frozen BK131.out 0; have hfz6_1 := blk_frozen BK131.out 1; have hfz6_2 := blk_frozen BK131.out 2)))
  go_ret2
  exact ⟨by first | rfl | (simp [errW_none, errW_some] <;> rfl) | (simp only [← hji3]; first | rfl | (simp [errW_none, errW_some] <;> rfl)) | (simp [*, errW_none, errW_some] <;> rfl), by repeat (first | (with_reducible first | exact HB.out | apply below_alloc | apply pw_below_drewN | apply below_drew1 | refine below_set ?_ GE131.out) | exact HB.out)⟩

/-! ### op_Needs: function 13 -/
def op_Needs.f (a0 : Int) : Option (Int) := (op_of.f a0).bind fun bt132 => (some bt132.1)
set_option maxHeartbeats 8000000 in
set_option maxRecDepth 100000 in
theorem op_Needs.calls (a0 : Int) (r : Int) (w : World) (h : op_Needs.f a0 = some r) :
    Calls Try.prog 13 #[.int .i64 a0] w fun e w' => e = .returned (.int .i64 r) ∧ Below w.heap.size w w' := by
  have hu40 := Try.underlying40
  have HB := Aside0.mk (Below.refl w.heap.size w)
  have H : ((op_of.f a0).bind fun bt132 => (some bt132.1)) = some r := h
  clear h
  replace H := Option.bind_eq_some_iff.mp H
  obtain ⟨⟨t132, t133, t134, t135⟩, A20, H⟩ := H
  replace H : (some t132) = some r := H
  have A2 := Aside0.mk A20
  clear A20
  obtain rfl := Option.some.inj H
  go_enter Try.func13, Try.ntmps13
  go_wp2_with (first | ((with_reducible refine gate_callee (f := 24) rfl ?_); refine goesL_ (some 7) rfl rfl Try.func24 (by kernel_rfl) rfl #[.int .i64 a0] rfl (by (try simp only [List.map_toArray, List.map_cons, List.map_nil]); first | done | rfl | (simp only [List.length_drop, List.length_take]; rfl)) ?_; (with_reducible refine (op_of.calls a0 t132 t133 t134 t135 _ A2.out).mono ?_); rintro e w3 ⟨rfl, hb⟩; refine ⟨_, rfl, ?_⟩; have n0_ := Aside0.mk (below_step (by repeat (first | (with_reducible first | exact HB.out | apply below_alloc | apply pw_below_drewN | apply below_drew1) | exact HB.out)) hb); clear HB; have HB := n0_; clear n0_; (try clear hb); (try clear hb2); (try clear hk); (try clear hi)) | ((with_reducible refine gate_dst (N := 3) rfl ?_); refine box_event ?hg (N := 3) ?hd (cs := #[.int .i64 0, .int .i64 0, .int .i64 0]) (t := 40) ?hr ?_; (case hd => rfl); (case hg => rfl); (case hr => first | (go_simp; done) | (go_simp; rfl)); intro gb136 hg w4 hbox hb; have n0_ := Aside0.mk (below_step (by repeat (first | (with_reducible first | exact HB.out | apply below_alloc | apply pw_below_drewN | apply below_drew1) | exact HB.out)) hb); have n1_ := Aside0.mk (hbox); have n2_ := Aside0.mk ((by rw [hg]; exact (below_size (by repeat (first | (with_reducible first | exact HB.out | apply below_alloc | apply pw_below_drewN | apply below_drew1) | exact HB.out))) : w.heap.size ≤ gb136)); have n3_ := Aside0.mk ((by rw [hg]; exact (below_size (by repeat (first | (with_reducible first | exact HB.out | apply below_alloc | apply pw_below_drewN | apply below_drew1) | exact HB.out))) : w.heap.size ≤ gb136)); clear HB; have HB := n0_; have BK136 := n1_; have GW136 := n2_; have GE136 := n3_; clear n0_ n1_ n2_ n3_; clear hb hbox hg; have hcz5_0 : w4.cell? ⟨gb136, 0, none⟩ = some (.int .i64 0) := (blk_cell BK136.out 0).trans rfl; have hcz5_1 : w4.cell? ⟨gb136, 1, none⟩ = some (.int .i64 0) := (blk_cell BK136.out 1).trans rfl; have hcz5_2 : w4.cell? ⟨gb136, 2, none⟩ = some (.int .i64 0) := (blk_cell BK136.out 2).trans rfl; have hfz5_0 := blk_frozen BK136.out 0; have hfz5_1 := blk_frozen BK136.out 1; have hfz5_2 := blk_frozen BK136.out 2))
  go_ret
  exact ⟨by first | rfl | (simp [errW_none, errW_some] <;> rfl) | (simp [*, errW_none, errW_some] <;> rfl), by repeat (first | (with_reducible first | exact HB.out | apply below_alloc | apply pw_below_drewN | apply below_drew1 | refine below_set ?_ GE136.out) | exact HB.out)⟩

/-! ### op_Group: function 15 -/
def op_Group.f (a0 : Int) : Option (Int) := (op_of.f a0).bind fun bt137 => (some bt137.2.2.1)
set_option maxHeartbeats 8000000 in
set_option maxRecDepth 100000 in
theorem op_Group.calls (a0 : Int) (r : Int) (w : World) (h : op_Group.f a0 = some r) :
    Calls Try.prog 15 #[.int .i64 a0] w fun e w' => e = .returned (.int .i64 r) ∧ Below w.heap.size w w' := by
  have hu40 := Try.underlying40
  have HB := Aside0.mk (Below.refl w.heap.size w)
  have H : ((op_of.f a0).bind fun bt137 => (some bt137.2.2.1)) = some r := h
  clear h
  replace H := Option.bind_eq_some_iff.mp H
  obtain ⟨⟨t137, t138, t139, t140⟩, A20, H⟩ := H
  replace H : (some t139) = some r := H
  have A2 := Aside0.mk A20
  clear A20
  obtain rfl := Option.some.inj H
  go_enter Try.func15, Try.ntmps15
  go_wp2_with (first | ((with_reducible refine gate_callee (f := 24) rfl ?_); refine goesL_ (some 7) rfl rfl Try.func24 (by kernel_rfl) rfl #[.int .i64 a0] rfl (by (try simp only [List.map_toArray, List.map_cons, List.map_nil]); first | done | rfl | (simp only [List.length_drop, List.length_take]; rfl)) ?_; (with_reducible refine (op_of.calls a0 t137 t138 t139 t140 _ A2.out).mono ?_); rintro e w3 ⟨rfl, hb⟩; refine ⟨_, rfl, ?_⟩; have n0_ := Aside0.mk (below_step (by repeat (first | (with_reducible first | exact HB.out | apply below_alloc | apply pw_below_drewN | apply below_drew1) | exact HB.out)) hb); clear HB; have HB := n0_; clear n0_; (try clear hb); (try clear hb2); (try clear hk); (try clear hi)) | ((with_reducible refine gate_dst (N := 3) rfl ?_); refine box_event ?hg (N := 3) ?hd (cs := #[.int .i64 0, .int .i64 0, .int .i64 0]) (t := 40) ?hr ?_; (case hd => rfl); (case hg => rfl); (case hr => first | (go_simp; done) | (go_simp; rfl)); intro gb141 hg w4 hbox hb; have n0_ := Aside0.mk (below_step (by repeat (first | (with_reducible first | exact HB.out | apply below_alloc | apply pw_below_drewN | apply below_drew1) | exact HB.out)) hb); have n1_ := Aside0.mk (hbox); have n2_ := Aside0.mk ((by rw [hg]; exact (below_size (by repeat (first | (with_reducible first | exact HB.out | apply below_alloc | apply pw_below_drewN | apply below_drew1) | exact HB.out))) : w.heap.size ≤ gb141)); have n3_ := Aside0.mk ((by rw [hg]; exact (below_size (by repeat (first | (with_reducible first | exact HB.out | apply below_alloc | apply pw_below_drewN | apply below_drew1) | exact HB.out))) : w.heap.size ≤ gb141)); clear HB; have HB := n0_; have BK141 := n1_; have GW141 := n2_; have GE141 := n3_; clear n0_ n1_ n2_ n3_; clear hb hbox hg; have hcz5_0 : w4.cell? ⟨gb141, 0, none⟩ = some (.int .i64 0) := (blk_cell BK141.out 0).trans rfl; have hcz5_1 : w4.cell? ⟨gb141, 1, none⟩ = some (.int .i64 0) := (blk_cell BK141.out 1).trans rfl; have hcz5_2 : w4.cell? ⟨gb141, 2, none⟩ = some (.int .i64 0) := (blk_cell BK141.out 2).trans rfl; have hfz5_0 := blk_frozen BK141.out 0; have hfz5_1 := blk_frozen BK141.out 1; have hfz5_2 := blk_frozen BK141.out 2))
  go_ret
  exact ⟨by first | rfl | (simp [errW_none, errW_some] <;> rfl) | (simp [*, errW_none, errW_some] <;> rfl), by repeat (first | (with_reducible first | exact HB.out | apply below_alloc | apply pw_below_drewN | apply below_drew1 | refine below_set ?_ GE141.out) | exact HB.out)⟩

end Go.Proofs.Ytlfdempjfjgbdaa.POpIs
