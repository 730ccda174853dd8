-- Written by this session's wip/gen.py (it drives the kit's print over a plain variation's bodies of some functions; their contracts are proved by hand).
import Derived.Test.YtbgihgkobojfaaaPDictPlacesx0
namespace Go.Proofs.Ytbgihgkobojfaaa.PDictPlaces
open Go.RowKit Go.Proofs.YtbgihgkobojfaaaW.PrintWords Go.Proofs.YtbgihgkobojfaaaW.PrintLast Go.Proofs.YtbgihgkobojfaaaW.PrintMore
attribute [local go_sem] max2_int min2_int max_two min_two max_three min_three max_four min_four   -- for this text's walks alone
set_option linter.unusedVariables false
set_option linter.unusedSimpArgs false

/-! ### op_in: function 33 -/
def op_in.f (a0 : Int) : Option (Bool) := if a0 ≥ 0 then (some (decide (a0 < 111))) else (some false)
set_option maxHeartbeats 8000000 in
set_option maxRecDepth 100000 in
theorem op_in.calls (a0 : Int) (r : Bool) (w : World) (h : op_in.f a0 = some r) :
    Calls Try.prog 33 #[.int .i64 a0] w fun e w' => e = .returned (.bool r) ∧ Drawn0 w w' := by
  have H : (if a0 ≥ 0 then (some (decide (a0 < 111))) else (some false)) = some r := h
  clear h
  by_cases c2 : a0 ≥ 0
  · rw [if_pos c2] at H
    have c2b0 : decide (0 ≤ a0) = true := decide_eq_true c2
    clear c2
    obtain rfl := Option.some.inj H
    go_enter Try.func33, Try.ntmps33
    go_wp2
    go_ret
    exact ⟨by first | rfl | (simp; done) | (simp [*]; done), by repeat (first | exact Drawn0.refl _ | apply Drawn0.step)⟩
  · rw [if_neg c2] at H
    have c2b0 : decide (0 ≤ a0) = false := decide_eq_false c2
    clear c2
    obtain rfl := Option.some.inj H
    go_enter Try.func33, Try.ntmps33
    go_wp2
    go_ret
    exact ⟨by first | rfl | (simp; done) | (simp [*]; done), by repeat (first | exact Drawn0.refl _ | apply Drawn0.step)⟩

/-! ### op_names: function 34 -/
def op_names.f  : Option (List ByteArray) := some (([(⟨#[40, 76, 73, 84, 41]⟩ : ByteArray), (⟨#[40, 66, 82, 65, 78, 67, 72, 41]⟩ : ByteArray), (⟨#[40, 48, 66, 82, 65, 78, 67, 72, 41]⟩ : ByteArray), (⟨#[40, 67, 65, 76, 76, 41]⟩ : ByteArray), (⟨#[69, 88, 73, 84]⟩ : ByteArray), (⟨#[40, 68, 79, 41]⟩ : ByteArray), (⟨#[40, 63, 68, 79, 41]⟩ : ByteArray), (⟨#[40, 76, 79, 79, 80, 41]⟩ : ByteArray), (⟨#[40, 43, 76, 79, 79, 80, 41]⟩ : ByteArray), (⟨#[85, 78, 76, 79, 79, 80]⟩ : ByteArray), (⟨#[73]⟩ : ByteArray), (⟨#[74]⟩ : ByteArray), (⟨#[62, 82]⟩ : ByteArray), (⟨#[82, 62]⟩ : ByteArray), (⟨#[82, 64]⟩ : ByteArray), (⟨#[69, 88, 69, 67, 85, 84, 69]⟩ : ByteArray), (⟨#[67, 65, 84, 67, 72]⟩ : ByteArray), (⟨#[84, 72, 82, 79, 87]⟩ : ByteArray), (⟨#[68, 85, 80]⟩ : ByteArray), (⟨#[68, 82, 79, 80]⟩ : ByteArray), (⟨#[83, 87, 65, 80]⟩ : ByteArray), (⟨#[79, 86, 69, 82]⟩ : ByteArray), (⟨#[82, 79, 84]⟩ : ByteArray), (⟨#[78, 73, 80]⟩ : ByteArray), (⟨#[84, 85, 67, 75]⟩ : ByteArray), (⟨#[50, 68, 85, 80]⟩ : ByteArray), (⟨#[50, 68, 82, 79, 80]⟩ : ByteArray), (⟨#[50, 83, 87, 65, 80]⟩ : ByteArray), (⟨#[50, 79, 86, 69, 82]⟩ : ByteArray), (⟨#[63, 68, 85, 80]⟩ : ByteArray), (⟨#[80, 73, 67, 75]⟩ : ByteArray), (⟨#[82, 79, 76, 76]⟩ : ByteArray), (⟨#[68, 69, 80, 84, 72]⟩ : ByteArray), (⟨#[43]⟩ : ByteArray), (⟨#[45]⟩ : ByteArray), (⟨#[42]⟩ : ByteArray), (⟨#[47]⟩ : ByteArray), (⟨#[77, 79, 68]⟩ : ByteArray), (⟨#[47, 77, 79, 68]⟩ : ByteArray), (⟨#[42, 47]⟩ : ByteArray), (⟨#[42, 47, 77, 79, 68]⟩ : ByteArray), (⟨#[49, 43]⟩ : ByteArray), (⟨#[49, 45]⟩ : ByteArray), (⟨#[50, 42]⟩ : ByteArray), (⟨#[50, 47]⟩ : ByteArray), (⟨#[78, 69, 71, 65, 84, 69]⟩ : ByteArray), (⟨#[65, 66, 83]⟩ : ByteArray), (⟨#[77, 73, 78]⟩ : ByteArray), (⟨#[77, 65, 88]⟩ : ByteArray), (⟨#[65, 78, 68]⟩ : ByteArray), (⟨#[79, 82]⟩ : ByteArray), (⟨#[88, 79, 82]⟩ : ByteArray), (⟨#[73, 78, 86, 69, 82, 84]⟩ : ByteArray), (⟨#[76, 83, 72, 73, 70, 84]⟩ : ByteArray), (⟨#[82, 83, 72, 73, 70, 84]⟩ : ByteArray), (⟨#[61]⟩ : ByteArray), (⟨#[60, 62]⟩ : ByteArray), (⟨#[60]⟩ : ByteArray), (⟨#[62]⟩ : ByteArray), (⟨#[85, 60]⟩ : ByteArray), (⟨#[48, 61]⟩ : ByteArray), (⟨#[48, 60]⟩ : ByteArray), (⟨#[87, 73, 84, 72, 73, 78]⟩ : ByteArray), (⟨#[85, 77, 42]⟩ : ByteArray), (⟨#[77, 42]⟩ : ByteArray), (⟨#[85, 77, 47, 77, 79, 68]⟩ : ByteArray), (⟨#[70, 77, 47, 77, 79, 68]⟩ : ByteArray), (⟨#[83, 77, 47, 82, 69, 77]⟩ : ByteArray), (⟨#[83, 62, 68]⟩ : ByteArray), (⟨#[68, 43]⟩ : ByteArray), (⟨#[68, 78, 69, 71, 65, 84, 69]⟩ : ByteArray), (⟨#[67, 69, 76, 76, 83]⟩ : ByteArray), (⟨#[67, 69, 76, 76, 43]⟩ : ByteArray), (⟨#[67, 72, 65, 82, 43]⟩ : ByteArray), (⟨#[65, 76, 73, 71, 78, 69, 68]⟩ : ByteArray), (⟨#[64]⟩ : ByteArray), (⟨#[33]⟩ : ByteArray), (⟨#[67, 64]⟩ : ByteArray), (⟨#[67, 33]⟩ : ByteArray), (⟨#[43, 33]⟩ : ByteArray), (⟨#[70, 73, 76, 76]⟩ : ByteArray), (⟨#[77, 79, 86, 69]⟩ : ByteArray), (⟨#[67, 65, 83]⟩ : ByteArray), (⟨#[69, 77, 73, 84]⟩ : ByteArray), (⟨#[84, 89, 80, 69]⟩ : ByteArray), (⟨#[46]⟩ : ByteArray), (⟨#[85, 46]⟩ : ByteArray), (⟨#[67, 82]⟩ : ByteArray), (⟨#[83, 80, 65, 67, 69]⟩ : ByteArray), (⟨#[60, 35]⟩ : ByteArray), (⟨#[35]⟩ : ByteArray), (⟨#[35, 83]⟩ : ByteArray), (⟨#[72, 79, 76, 68]⟩ : ByteArray), (⟨#[83, 73, 71, 78]⟩ : ByteArray), (⟨#[35, 62]⟩ : ByteArray), (⟨#[66, 65, 83, 69]⟩ : ByteArray), (⟨#[68, 69, 67, 73, 77, 65, 76]⟩ : ByteArray), (⟨#[72, 69, 88]⟩ : ByteArray), (⟨#[77, 69]⟩ : ByteArray), (⟨#[84, 73, 67, 75, 83]⟩ : ByteArray), (⟨#[80, 65, 85, 83, 69]⟩ : ByteArray), (⟨#[83, 76, 69, 69, 80]⟩ : ByteArray), (⟨#[66, 89, 69]⟩ : ByteArray), (⟨#[78, 79, 84, 69]⟩ : ByteArray), (⟨#[67, 82, 69, 65, 84, 69]⟩ : ByteArray), (⟨#[40, 68, 79, 69, 83, 41]⟩ : ByteArray), (⟨#[72, 69, 82, 69]⟩ : ByteArray), (⟨#[65, 76, 76, 79, 84]⟩ : ByteArray), (⟨#[44]⟩ : ByteArray), (⟨#[67, 79, 77, 80, 73, 76, 69, 44]⟩ : ByteArray), (⟨#[73, 77, 77, 69, 68, 73, 65, 84, 69]⟩ : ByteArray)] : List ByteArray))
set_option maxHeartbeats 8000000 in
set_option maxRecDepth 100000 in
theorem op_names.calls  (r : List ByteArray) (w : World) (h : op_names.f  = some r) :
    Calls Try.prog 34 #[] w fun e w' => ∃ v0_ : Value, e = .returned (v0_) ∧ Kd.R Kd.string 9 w' w.heap.size (fun _ => True) v0_ r ∧ Below w.heap.size w w' := by
  have HB := Aside0.mk (Below.refl w.heap.size w)
  have H : (some (([(⟨#[40, 76, 73, 84, 41]⟩ : ByteArray), (⟨#[40, 66, 82, 65, 78, 67, 72, 41]⟩ : ByteArray), (⟨#[40, 48, 66, 82, 65, 78, 67, 72, 41]⟩ : ByteArray), (⟨#[40, 67, 65, 76, 76, 41]⟩ : ByteArray), (⟨#[69, 88, 73, 84]⟩ : ByteArray), (⟨#[40, 68, 79, 41]⟩ : ByteArray), (⟨#[40, 63, 68, 79, 41]⟩ : ByteArray), (⟨#[40, 76, 79, 79, 80, 41]⟩ : ByteArray), (⟨#[40, 43, 76, 79, 79, 80, 41]⟩ : ByteArray), (⟨#[85, 78, 76, 79, 79, 80]⟩ : ByteArray), (⟨#[73]⟩ : ByteArray), (⟨#[74]⟩ : ByteArray), (⟨#[62, 82]⟩ : ByteArray), (⟨#[82, 62]⟩ : ByteArray), (⟨#[82, 64]⟩ : ByteArray), (⟨#[69, 88, 69, 67, 85, 84, 69]⟩ : ByteArray), (⟨#[67, 65, 84, 67, 72]⟩ : ByteArray), (⟨#[84, 72, 82, 79, 87]⟩ : ByteArray), (⟨#[68, 85, 80]⟩ : ByteArray), (⟨#[68, 82, 79, 80]⟩ : ByteArray), (⟨#[83, 87, 65, 80]⟩ : ByteArray), (⟨#[79, 86, 69, 82]⟩ : ByteArray), (⟨#[82, 79, 84]⟩ : ByteArray), (⟨#[78, 73, 80]⟩ : ByteArray), (⟨#[84, 85, 67, 75]⟩ : ByteArray), (⟨#[50, 68, 85, 80]⟩ : ByteArray), (⟨#[50, 68, 82, 79, 80]⟩ : ByteArray), (⟨#[50, 83, 87, 65, 80]⟩ : ByteArray), (⟨#[50, 79, 86, 69, 82]⟩ : ByteArray), (⟨#[63, 68, 85, 80]⟩ : ByteArray), (⟨#[80, 73, 67, 75]⟩ : ByteArray), (⟨#[82, 79, 76, 76]⟩ : ByteArray), (⟨#[68, 69, 80, 84, 72]⟩ : ByteArray), (⟨#[43]⟩ : ByteArray), (⟨#[45]⟩ : ByteArray), (⟨#[42]⟩ : ByteArray), (⟨#[47]⟩ : ByteArray), (⟨#[77, 79, 68]⟩ : ByteArray), (⟨#[47, 77, 79, 68]⟩ : ByteArray), (⟨#[42, 47]⟩ : ByteArray), (⟨#[42, 47, 77, 79, 68]⟩ : ByteArray), (⟨#[49, 43]⟩ : ByteArray), (⟨#[49, 45]⟩ : ByteArray), (⟨#[50, 42]⟩ : ByteArray), (⟨#[50, 47]⟩ : ByteArray), (⟨#[78, 69, 71, 65, 84, 69]⟩ : ByteArray), (⟨#[65, 66, 83]⟩ : ByteArray), (⟨#[77, 73, 78]⟩ : ByteArray), (⟨#[77, 65, 88]⟩ : ByteArray), (⟨#[65, 78, 68]⟩ : ByteArray), (⟨#[79, 82]⟩ : ByteArray), (⟨#[88, 79, 82]⟩ : ByteArray), (⟨#[73, 78, 86, 69, 82, 84]⟩ : ByteArray), (⟨#[76, 83, 72, 73, 70, 84]⟩ : ByteArray), (⟨#[82, 83, 72, 73, 70, 84]⟩ : ByteArray), (⟨#[61]⟩ : ByteArray), (⟨#[60, 62]⟩ : ByteArray), (⟨#[60]⟩ : ByteArray), (⟨#[62]⟩ : ByteArray), (⟨#[85, 60]⟩ : ByteArray), (⟨#[48, 61]⟩ : ByteArray), (⟨#[48, 60]⟩ : ByteArray), (⟨#[87, 73, 84, 72, 73, 78]⟩ : ByteArray), (⟨#[85, 77, 42]⟩ : ByteArray), (⟨#[77, 42]⟩ : ByteArray), (⟨#[85, 77, 47, 77, 79, 68]⟩ : ByteArray), (⟨#[70, 77, 47, 77, 79, 68]⟩ : ByteArray), (⟨#[83, 77, 47, 82, 69, 77]⟩ : ByteArray), (⟨#[83, 62, 68]⟩ : ByteArray), (⟨#[68, 43]⟩ : ByteArray), (⟨#[68, 78, 69, 71, 65, 84, 69]⟩ : ByteArray), (⟨#[67, 69, 76, 76, 83]⟩ : ByteArray), (⟨#[67, 69, 76, 76, 43]⟩ : ByteArray), (⟨#[67, 72, 65, 82, 43]⟩ : ByteArray), (⟨#[65, 76, 73, 71, 78, 69, 68]⟩ : ByteArray), (⟨#[64]⟩ : ByteArray), (⟨#[33]⟩ : ByteArray), (⟨#[67, 64]⟩ : ByteArray), (⟨#[67, 33]⟩ : ByteArray), (⟨#[43, 33]⟩ : ByteArray), (⟨#[70, 73, 76, 76]⟩ : ByteArray), (⟨#[77, 79, 86, 69]⟩ : ByteArray), (⟨#[67, 65, 83]⟩ : ByteArray), (⟨#[69, 77, 73, 84]⟩ : ByteArray), (⟨#[84, 89, 80, 69]⟩ : ByteArray), (⟨#[46]⟩ : ByteArray), (⟨#[85, 46]⟩ : ByteArray), (⟨#[67, 82]⟩ : ByteArray), (⟨#[83, 80, 65, 67, 69]⟩ : ByteArray), (⟨#[60, 35]⟩ : ByteArray), (⟨#[35]⟩ : ByteArray), (⟨#[35, 83]⟩ : ByteArray), (⟨#[72, 79, 76, 68]⟩ : ByteArray), (⟨#[83, 73, 71, 78]⟩ : ByteArray), (⟨#[35, 62]⟩ : ByteArray), (⟨#[66, 65, 83, 69]⟩ : ByteArray), (⟨#[68, 69, 67, 73, 77, 65, 76]⟩ : ByteArray), (⟨#[72, 69, 88]⟩ : ByteArray), (⟨#[77, 69]⟩ : ByteArray), (⟨#[84, 73, 67, 75, 83]⟩ : ByteArray), (⟨#[80, 65, 85, 83, 69]⟩ : ByteArray), (⟨#[83, 76, 69, 69, 80]⟩ : ByteArray), (⟨#[66, 89, 69]⟩ : ByteArray), (⟨#[78, 79, 84, 69]⟩ : ByteArray), (⟨#[67, 82, 69, 65, 84, 69]⟩ : ByteArray), (⟨#[40, 68, 79, 69, 83, 41]⟩ : ByteArray), (⟨#[72, 69, 82, 69]⟩ : ByteArray), (⟨#[65, 76, 76, 79, 84]⟩ : ByteArray), (⟨#[44]⟩ : ByteArray), (⟨#[67, 79, 77, 80, 73, 76, 69, 44]⟩ : ByteArray), (⟨#[73, 77, 77, 69, 68, 73, 65, 84, 69]⟩ : ByteArray)] : List ByteArray))) = some r := h
  clear h
  obtain ⟨y101, hy101⟩ : ∃ y_ : List ByteArray, y_ = (([(⟨#[40, 76, 73, 84, 41]⟩ : ByteArray), (⟨#[40, 66, 82, 65, 78, 67, 72, 41]⟩ : ByteArray), (⟨#[40, 48, 66, 82, 65, 78, 67, 72, 41]⟩ : ByteArray), (⟨#[40, 67, 65, 76, 76, 41]⟩ : ByteArray), (⟨#[69, 88, 73, 84]⟩ : ByteArray), (⟨#[40, 68, 79, 41]⟩ : ByteArray), (⟨#[40, 63, 68, 79, 41]⟩ : ByteArray), (⟨#[40, 76, 79, 79, 80, 41]⟩ : ByteArray), (⟨#[40, 43, 76, 79, 79, 80, 41]⟩ : ByteArray), (⟨#[85, 78, 76, 79, 79, 80]⟩ : ByteArray), (⟨#[73]⟩ : ByteArray), (⟨#[74]⟩ : ByteArray), (⟨#[62, 82]⟩ : ByteArray), (⟨#[82, 62]⟩ : ByteArray), (⟨#[82, 64]⟩ : ByteArray), (⟨#[69, 88, 69, 67, 85, 84, 69]⟩ : ByteArray), (⟨#[67, 65, 84, 67, 72]⟩ : ByteArray), (⟨#[84, 72, 82, 79, 87]⟩ : ByteArray), (⟨#[68, 85, 80]⟩ : ByteArray), (⟨#[68, 82, 79, 80]⟩ : ByteArray), (⟨#[83, 87, 65, 80]⟩ : ByteArray), (⟨#[79, 86, 69, 82]⟩ : ByteArray), (⟨#[82, 79, 84]⟩ : ByteArray), (⟨#[78, 73, 80]⟩ : ByteArray), (⟨#[84, 85, 67, 75]⟩ : ByteArray), (⟨#[50, 68, 85, 80]⟩ : ByteArray), (⟨#[50, 68, 82, 79, 80]⟩ : ByteArray), (⟨#[50, 83, 87, 65, 80]⟩ : ByteArray), (⟨#[50, 79, 86, 69, 82]⟩ : ByteArray), (⟨#[63, 68, 85, 80]⟩ : ByteArray), (⟨#[80, 73, 67, 75]⟩ : ByteArray), (⟨#[82, 79, 76, 76]⟩ : ByteArray), (⟨#[68, 69, 80, 84, 72]⟩ : ByteArray), (⟨#[43]⟩ : ByteArray), (⟨#[45]⟩ : ByteArray), (⟨#[42]⟩ : ByteArray), (⟨#[47]⟩ : ByteArray), (⟨#[77, 79, 68]⟩ : ByteArray), (⟨#[47, 77, 79, 68]⟩ : ByteArray), (⟨#[42, 47]⟩ : ByteArray), (⟨#[42, 47, 77, 79, 68]⟩ : ByteArray), (⟨#[49, 43]⟩ : ByteArray), (⟨#[49, 45]⟩ : ByteArray), (⟨#[50, 42]⟩ : ByteArray), (⟨#[50, 47]⟩ : ByteArray), (⟨#[78, 69, 71, 65, 84, 69]⟩ : ByteArray), (⟨#[65, 66, 83]⟩ : ByteArray), (⟨#[77, 73, 78]⟩ : ByteArray), (⟨#[77, 65, 88]⟩ : ByteArray), (⟨#[65, 78, 68]⟩ : ByteArray), (⟨#[79, 82]⟩ : ByteArray), (⟨#[88, 79, 82]⟩ : ByteArray), (⟨#[73, 78, 86, 69, 82, 84]⟩ : ByteArray), (⟨#[76, 83, 72, 73, 70, 84]⟩ : ByteArray), (⟨#[82, 83, 72, 73, 70, 84]⟩ : ByteArray), (⟨#[61]⟩ : ByteArray), (⟨#[60, 62]⟩ : ByteArray), (⟨#[60]⟩ : ByteArray), (⟨#[62]⟩ : ByteArray), (⟨#[85, 60]⟩ : ByteArray), (⟨#[48, 61]⟩ : ByteArray), (⟨#[48, 60]⟩ : ByteArray), (⟨#[87, 73, 84, 72, 73, 78]⟩ : ByteArray), (⟨#[85, 77, 42]⟩ : ByteArray), (⟨#[77, 42]⟩ : ByteArray), (⟨#[85, 77, 47, 77, 79, 68]⟩ : ByteArray), (⟨#[70, 77, 47, 77, 79, 68]⟩ : ByteArray), (⟨#[83, 77, 47, 82, 69, 77]⟩ : ByteArray), (⟨#[83, 62, 68]⟩ : ByteArray), (⟨#[68, 43]⟩ : ByteArray), (⟨#[68, 78, 69, 71, 65, 84, 69]⟩ : ByteArray), (⟨#[67, 69, 76, 76, 83]⟩ : ByteArray), (⟨#[67, 69, 76, 76, 43]⟩ : ByteArray), (⟨#[67, 72, 65, 82, 43]⟩ : ByteArray), (⟨#[65, 76, 73, 71, 78, 69, 68]⟩ : ByteArray), (⟨#[64]⟩ : ByteArray), (⟨#[33]⟩ : ByteArray), (⟨#[67, 64]⟩ : ByteArray), (⟨#[67, 33]⟩ : ByteArray), (⟨#[43, 33]⟩ : ByteArray), (⟨#[70, 73, 76, 76]⟩ : ByteArray), (⟨#[77, 79, 86, 69]⟩ : ByteArray), (⟨#[67, 65, 83]⟩ : ByteArray), (⟨#[69, 77, 73, 84]⟩ : ByteArray), (⟨#[84, 89, 80, 69]⟩ : ByteArray), (⟨#[46]⟩ : ByteArray), (⟨#[85, 46]⟩ : ByteArray), (⟨#[67, 82]⟩ : ByteArray), (⟨#[83, 80, 65, 67, 69]⟩ : ByteArray), (⟨#[60, 35]⟩ : ByteArray), (⟨#[35]⟩ : ByteArray), (⟨#[35, 83]⟩ : ByteArray), (⟨#[72, 79, 76, 68]⟩ : ByteArray), (⟨#[83, 73, 71, 78]⟩ : ByteArray), (⟨#[35, 62]⟩ : ByteArray), (⟨#[66, 65, 83, 69]⟩ : ByteArray), (⟨#[68, 69, 67, 73, 77, 65, 76]⟩ : ByteArray), (⟨#[72, 69, 88]⟩ : ByteArray), (⟨#[77, 69]⟩ : ByteArray), (⟨#[84, 73, 67, 75, 83]⟩ : ByteArray), (⟨#[80, 65, 85, 83, 69]⟩ : ByteArray), (⟨#[83, 76, 69, 69, 80]⟩ : ByteArray), (⟨#[66, 89, 69]⟩ : ByteArray), (⟨#[78, 79, 84, 69]⟩ : ByteArray), (⟨#[67, 82, 69, 65, 84, 69]⟩ : ByteArray), (⟨#[40, 68, 79, 69, 83, 41]⟩ : ByteArray), (⟨#[72, 69, 82, 69]⟩ : ByteArray), (⟨#[65, 76, 76, 79, 84]⟩ : ByteArray), (⟨#[44]⟩ : ByteArray), (⟨#[67, 79, 77, 80, 73, 76, 69, 44]⟩ : ByteArray), (⟨#[73, 77, 77, 69, 68, 73, 65, 84, 69]⟩ : ByteArray)] : List ByteArray)) := ⟨_, rfl⟩
  replace H : (some y101) = some r := by first | (rw [hy101]; with_reducible exact H) | (have H2_ := (Option.bind_some _ _).symm.trans H; rw [hy101]; with_reducible exact H2_) | (have H2_ := (Option.bind_some _ _).symm.trans H; with_reducible exact H2_) | with_reducible exact H | (rw [hy101]; exact H) | exact H
  have Ny101 := Aside0.mk hy101
  clear hy101
  obtain rfl := Option.some.inj H
  go_enter Try.func34, Try.ntmps34
  go_wp2_with (first | ((with_reducible refine gate_dst (N := 1) rfl ?_); refine Kd.R_lit Kd.string _ 9 ?hg (N := 1) ?hd (xs := ([(⟨#[40, 76, 73, 84, 41]⟩ : ByteArray), (⟨#[40, 66, 82, 65, 78, 67, 72, 41]⟩ : ByteArray), (⟨#[40, 48, 66, 82, 65, 78, 67, 72, 41]⟩ : ByteArray), (⟨#[40, 67, 65, 76, 76, 41]⟩ : ByteArray), (⟨#[69, 88, 73, 84]⟩ : ByteArray), (⟨#[40, 68, 79, 41]⟩ : ByteArray), (⟨#[40, 63, 68, 79, 41]⟩ : ByteArray), (⟨#[40, 76, 79, 79, 80, 41]⟩ : ByteArray), (⟨#[40, 43, 76, 79, 79, 80, 41]⟩ : ByteArray), (⟨#[85, 78, 76, 79, 79, 80]⟩ : ByteArray), (⟨#[73]⟩ : ByteArray), (⟨#[74]⟩ : ByteArray), (⟨#[62, 82]⟩ : ByteArray), (⟨#[82, 62]⟩ : ByteArray), (⟨#[82, 64]⟩ : ByteArray), (⟨#[69, 88, 69, 67, 85, 84, 69]⟩ : ByteArray), (⟨#[67, 65, 84, 67, 72]⟩ : ByteArray), (⟨#[84, 72, 82, 79, 87]⟩ : ByteArray), (⟨#[68, 85, 80]⟩ : ByteArray), (⟨#[68, 82, 79, 80]⟩ : ByteArray), (⟨#[83, 87, 65, 80]⟩ : ByteArray), (⟨#[79, 86, 69, 82]⟩ : ByteArray), (⟨#[82, 79, 84]⟩ : ByteArray), (⟨#[78, 73, 80]⟩ : ByteArray), (⟨#[84, 85, 67, 75]⟩ : ByteArray), (⟨#[50, 68, 85, 80]⟩ : ByteArray), (⟨#[50, 68, 82, 79, 80]⟩ : ByteArray), (⟨#[50, 83, 87, 65, 80]⟩ : ByteArray), (⟨#[50, 79, 86, 69, 82]⟩ : ByteArray), (⟨#[63, 68, 85, 80]⟩ : ByteArray), (⟨#[80, 73, 67, 75]⟩ : ByteArray), (⟨#[82, 79, 76, 76]⟩ : ByteArray), (⟨#[68, 69, 80, 84, 72]⟩ : ByteArray), (⟨#[43]⟩ : ByteArray), (⟨#[45]⟩ : ByteArray), (⟨#[42]⟩ : ByteArray), (⟨#[47]⟩ : ByteArray), (⟨#[77, 79, 68]⟩ : ByteArray), (⟨#[47, 77, 79, 68]⟩ : ByteArray), (⟨#[42, 47]⟩ : ByteArray), (⟨#[42, 47, 77, 79, 68]⟩ : ByteArray), (⟨#[49, 43]⟩ : ByteArray), (⟨#[49, 45]⟩ : ByteArray), (⟨#[50, 42]⟩ : ByteArray), (⟨#[50, 47]⟩ : ByteArray), (⟨#[78, 69, 71, 65, 84, 69]⟩ : ByteArray), (⟨#[65, 66, 83]⟩ : ByteArray), (⟨#[77, 73, 78]⟩ : ByteArray), (⟨#[77, 65, 88]⟩ : ByteArray), (⟨#[65, 78, 68]⟩ : ByteArray), (⟨#[79, 82]⟩ : ByteArray), (⟨#[88, 79, 82]⟩ : ByteArray), (⟨#[73, 78, 86, 69, 82, 84]⟩ : ByteArray), (⟨#[76, 83, 72, 73, 70, 84]⟩ : ByteArray), (⟨#[82, 83, 72, 73, 70, 84]⟩ : ByteArray), (⟨#[61]⟩ : ByteArray), (⟨#[60, 62]⟩ : ByteArray), (⟨#[60]⟩ : ByteArray), (⟨#[62]⟩ : ByteArray), (⟨#[85, 60]⟩ : ByteArray), (⟨#[48, 61]⟩ : ByteArray), (⟨#[48, 60]⟩ : ByteArray), (⟨#[87, 73, 84, 72, 73, 78]⟩ : ByteArray), (⟨#[85, 77, 42]⟩ : ByteArray), (⟨#[77, 42]⟩ : ByteArray), (⟨#[85, 77, 47, 77, 79, 68]⟩ : ByteArray), (⟨#[70, 77, 47, 77, 79, 68]⟩ : ByteArray), (⟨#[83, 77, 47, 82, 69, 77]⟩ : ByteArray), (⟨#[83, 62, 68]⟩ : ByteArray), (⟨#[68, 43]⟩ : ByteArray), (⟨#[68, 78, 69, 71, 65, 84, 69]⟩ : ByteArray), (⟨#[67, 69, 76, 76, 83]⟩ : ByteArray), (⟨#[67, 69, 76, 76, 43]⟩ : ByteArray), (⟨#[67, 72, 65, 82, 43]⟩ : ByteArray), (⟨#[65, 76, 73, 71, 78, 69, 68]⟩ : ByteArray), (⟨#[64]⟩ : ByteArray), (⟨#[33]⟩ : ByteArray), (⟨#[67, 64]⟩ : ByteArray), (⟨#[67, 33]⟩ : ByteArray), (⟨#[43, 33]⟩ : ByteArray), (⟨#[70, 73, 76, 76]⟩ : ByteArray), (⟨#[77, 79, 86, 69]⟩ : ByteArray), (⟨#[67, 65, 83]⟩ : ByteArray), (⟨#[69, 77, 73, 84]⟩ : ByteArray), (⟨#[84, 89, 80, 69]⟩ : ByteArray), (⟨#[46]⟩ : ByteArray), (⟨#[85, 46]⟩ : ByteArray), (⟨#[67, 82]⟩ : ByteArray), (⟨#[83, 80, 65, 67, 69]⟩ : ByteArray), (⟨#[60, 35]⟩ : ByteArray), (⟨#[35]⟩ : ByteArray), (⟨#[35, 83]⟩ : ByteArray), (⟨#[72, 79, 76, 68]⟩ : ByteArray), (⟨#[83, 73, 71, 78]⟩ : ByteArray), (⟨#[35, 62]⟩ : ByteArray), (⟨#[66, 65, 83, 69]⟩ : ByteArray), (⟨#[68, 69, 67, 73, 77, 65, 76]⟩ : ByteArray), (⟨#[72, 69, 88]⟩ : ByteArray), (⟨#[77, 69]⟩ : ByteArray), (⟨#[84, 73, 67, 75, 83]⟩ : ByteArray), (⟨#[80, 65, 85, 83, 69]⟩ : ByteArray), (⟨#[83, 76, 69, 69, 80]⟩ : ByteArray), (⟨#[66, 89, 69]⟩ : ByteArray), (⟨#[78, 79, 84, 69]⟩ : ByteArray), (⟨#[67, 82, 69, 65, 84, 69]⟩ : ByteArray), (⟨#[40, 68, 79, 69, 83, 41]⟩ : ByteArray), (⟨#[72, 69, 82, 69]⟩ : ByteArray), (⟨#[65, 76, 76, 79, 84]⟩ : ByteArray), (⟨#[44]⟩ : ByteArray), (⟨#[67, 79, 77, 80, 73, 76, 69, 44]⟩ : ByteArray), (⟨#[73, 77, 77, 69, 68, 73, 65, 84, 69]⟩ : ByteArray)] : List ByteArray)) (inner := [.string (⟨#[40, 76, 73, 84, 41]⟩ : ByteArray), .string (⟨#[40, 66, 82, 65, 78, 67, 72, 41]⟩ : ByteArray), .string (⟨#[40, 48, 66, 82, 65, 78, 67, 72, 41]⟩ : ByteArray), .string (⟨#[40, 67, 65, 76, 76, 41]⟩ : ByteArray), .string (⟨#[69, 88, 73, 84]⟩ : ByteArray), .string (⟨#[40, 68, 79, 41]⟩ : ByteArray), .string (⟨#[40, 63, 68, 79, 41]⟩ : ByteArray), .string (⟨#[40, 76, 79, 79, 80, 41]⟩ : ByteArray), .string (⟨#[40, 43, 76, 79, 79, 80, 41]⟩ : ByteArray), .string (⟨#[85, 78, 76, 79, 79, 80]⟩ : ByteArray), .string (⟨#[73]⟩ : ByteArray), .string (⟨#[74]⟩ : ByteArray), .string (⟨#[62, 82]⟩ : ByteArray), .string (⟨#[82, 62]⟩ : ByteArray), .string (⟨#[82, 64]⟩ : ByteArray), .string (⟨#[69, 88, 69, 67, 85, 84, 69]⟩ : ByteArray), .string (⟨#[67, 65, 84, 67, 72]⟩ : ByteArray), .string (⟨#[84, 72, 82, 79, 87]⟩ : ByteArray), .string (⟨#[68, 85, 80]⟩ : ByteArray), .string (⟨#[68, 82, 79, 80]⟩ : ByteArray), .string (⟨#[83, 87, 65, 80]⟩ : ByteArray), .string (⟨#[79, 86, 69, 82]⟩ : ByteArray), .string (⟨#[82, 79, 84]⟩ : ByteArray), .string (⟨#[78, 73, 80]⟩ : ByteArray), .string (⟨#[84, 85, 67, 75]⟩ : ByteArray), .string (⟨#[50, 68, 85, 80]⟩ : ByteArray), .string (⟨#[50, 68, 82, 79, 80]⟩ : ByteArray), .string (⟨#[50, 83, 87, 65, 80]⟩ : ByteArray), .string (⟨#[50, 79, 86, 69, 82]⟩ : ByteArray), .string (⟨#[63, 68, 85, 80]⟩ : ByteArray), .string (⟨#[80, 73, 67, 75]⟩ : ByteArray), .string (⟨#[82, 79, 76, 76]⟩ : ByteArray), .string (⟨#[68, 69, 80, 84, 72]⟩ : ByteArray), .string (⟨#[43]⟩ : ByteArray), .string (⟨#[45]⟩ : ByteArray), .string (⟨#[42]⟩ : ByteArray), .string (⟨#[47]⟩ : ByteArray), .string (⟨#[77, 79, 68]⟩ : ByteArray), .string (⟨#[47, 77, 79, 68]⟩ : ByteArray), .string (⟨#[42, 47]⟩ : ByteArray), .string (⟨#[42, 47, 77, 79, 68]⟩ : ByteArray), .string (⟨#[49, 43]⟩ : ByteArray), .string (⟨#[49, 45]⟩ : ByteArray), .string (⟨#[50, 42]⟩ : ByteArray), .string (⟨#[50, 47]⟩ : ByteArray), .string (⟨#[78, 69, 71, 65, 84, 69]⟩ : ByteArray), .string (⟨#[65, 66, 83]⟩ : ByteArray), .string (⟨#[77, 73, 78]⟩ : ByteArray), .string (⟨#[77, 65, 88]⟩ : ByteArray), .string (⟨#[65, 78, 68]⟩ : ByteArray), .string (⟨#[79, 82]⟩ : ByteArray), .string (⟨#[88, 79, 82]⟩ : ByteArray), .string (⟨#[73, 78, 86, 69, 82, 84]⟩ : ByteArray), .string (⟨#[76, 83, 72, 73, 70, 84]⟩ : ByteArray), .string (⟨#[82, 83, 72, 73, 70, 84]⟩ : ByteArray), .string (⟨#[61]⟩ : ByteArray), .string (⟨#[60, 62]⟩ : ByteArray), .string (⟨#[60]⟩ : ByteArray), .string (⟨#[62]⟩ : ByteArray), .string (⟨#[85, 60]⟩ : ByteArray), .string (⟨#[48, 61]⟩ : ByteArray), .string (⟨#[48, 60]⟩ : ByteArray), .string (⟨#[87, 73, 84, 72, 73, 78]⟩ : ByteArray), .string (⟨#[85, 77, 42]⟩ : ByteArray), .string (⟨#[77, 42]⟩ : ByteArray), .string (⟨#[85, 77, 47, 77, 79, 68]⟩ : ByteArray), .string (⟨#[70, 77, 47, 77, 79, 68]⟩ : ByteArray), .string (⟨#[83, 77, 47, 82, 69, 77]⟩ : ByteArray), .string (⟨#[83, 62, 68]⟩ : ByteArray), .string (⟨#[68, 43]⟩ : ByteArray), .string (⟨#[68, 78, 69, 71, 65, 84, 69]⟩ : ByteArray), .string (⟨#[67, 69, 76, 76, 83]⟩ : ByteArray), .string (⟨#[67, 69, 76, 76, 43]⟩ : ByteArray), .string (⟨#[67, 72, 65, 82, 43]⟩ : ByteArray), .string (⟨#[65, 76, 73, 71, 78, 69, 68]⟩ : ByteArray), .string (⟨#[64]⟩ : ByteArray), .string (⟨#[33]⟩ : ByteArray), .string (⟨#[67, 64]⟩ : ByteArray), .string (⟨#[67, 33]⟩ : ByteArray), .string (⟨#[43, 33]⟩ : ByteArray), .string (⟨#[70, 73, 76, 76]⟩ : ByteArray), .string (⟨#[77, 79, 86, 69]⟩ : ByteArray), .string (⟨#[67, 65, 83]⟩ : ByteArray), .string (⟨#[69, 77, 73, 84]⟩ : ByteArray), .string (⟨#[84, 89, 80, 69]⟩ : ByteArray), .string (⟨#[46]⟩ : ByteArray), .string (⟨#[85, 46]⟩ : ByteArray), .string (⟨#[67, 82]⟩ : ByteArray), .string (⟨#[83, 80, 65, 67, 69]⟩ : ByteArray), .string (⟨#[60, 35]⟩ : ByteArray), .string (⟨#[35]⟩ : ByteArray), .string (⟨#[35, 83]⟩ : ByteArray), .string (⟨#[72, 79, 76, 68]⟩ : ByteArray), .string (⟨#[83, 73, 71, 78]⟩ : ByteArray), .string (⟨#[35, 62]⟩ : ByteArray), .string (⟨#[66, 65, 83, 69]⟩ : ByteArray), .string (⟨#[68, 69, 67, 73, 77, 65, 76]⟩ : ByteArray), .string (⟨#[72, 69, 88]⟩ : ByteArray), .string (⟨#[77, 69]⟩ : ByteArray), .string (⟨#[84, 73, 67, 75, 83]⟩ : ByteArray), .string (⟨#[80, 65, 85, 83, 69]⟩ : ByteArray), .string (⟨#[83, 76, 69, 69, 80]⟩ : ByteArray), .string (⟨#[66, 89, 69]⟩ : ByteArray), .string (⟨#[78, 79, 84, 69]⟩ : ByteArray), .string (⟨#[67, 82, 69, 65, 84, 69]⟩ : ByteArray), .string (⟨#[40, 68, 79, 69, 83, 41]⟩ : ByteArray), .string (⟨#[72, 69, 82, 69]⟩ : ByteArray), .string (⟨#[65, 76, 76, 79, 84]⟩ : ByteArray), .string (⟨#[44]⟩ : ByteArray), .string (⟨#[67, 79, 77, 80, 73, 76, 69, 44]⟩ : ByteArray), .string (⟨#[73, 77, 77, 69, 68, 73, 65, 84, 69]⟩ : ByteArray)]) (ok := fun _ => True) (okp := fun _ => True) ?hr ?hp (fun _ hk => hk) trivial (Below.refl _ _) (Nat.le_refl _) (by simp) ?_; (case hd => rfl); (case hg => rfl); (case hr => kernel_rfl); (case hp => exact (Reps.one (show Kd.M Kd.string _ _ _ (⟨#[40, 76, 73, 84, 41]⟩ : ByteArray) [.string (⟨#[40, 76, 73, 84, 41]⟩ : ByteArray)] from rfl) (Reps.one (show Kd.M Kd.string _ _ _ (⟨#[40, 66, 82, 65, 78, 67, 72, 41]⟩ : ByteArray) [.string (⟨#[40, 66, 82, 65, 78, 67, 72, 41]⟩ : ByteArray)] from rfl) (Reps.one (show Kd.M Kd.string _ _ _ (⟨#[40, 48, 66, 82, 65, 78, 67, 72, 41]⟩ : ByteArray) [.string (⟨#[40, 48, 66, 82, 65, 78, 67, 72, 41]⟩ : ByteArray)] from rfl) (Reps.one (show Kd.M Kd.string _ _ _ (⟨#[40, 67, 65, 76, 76, 41]⟩ : ByteArray) [.string (⟨#[40, 67, 65, 76, 76, 41]⟩ : ByteArray)] from rfl) (Reps.one (show Kd.M Kd.string _ _ _ (⟨#[69, 88, 73, 84]⟩ : ByteArray) [.string (⟨#[69, 88, 73, 84]⟩ : ByteArray)] from rfl) (Reps.one (show Kd.M Kd.string _ _ _ (⟨#[40, 68, 79, 41]⟩ : ByteArray) [.string (⟨#[40, 68, 79, 41]⟩ : ByteArray)] from rfl) (Reps.one (show Kd.M Kd.string _ _ _ (⟨#[40, 63, 68, 79, 41]⟩ : ByteArray) [.string (⟨#[40, 63, 68, 79, 41]⟩ : ByteArray)] from rfl) (Reps.one (show Kd.M Kd.string _ _ _ (⟨#[40, 76, 79, 79, 80, 41]⟩ : ByteArray) [.string (⟨#[40, 76, 79, 79, 80, 41]⟩ : ByteArray)] from rfl) (Reps.one (show Kd.M Kd.string _ _ _ (⟨#[40, 43, 76, 79, 79, 80, 41]⟩ : ByteArray) [.string (⟨#[40, 43, 76, 79, 79, 80, 41]⟩ : ByteArray)] from rfl) (Reps.one (show Kd.M Kd.string _ _ _ (⟨#[85, 78, 76, 79, 79, 80]⟩ : ByteArray) [.string (⟨#[85, 78, 76, 79, 79, 80]⟩ : ByteArray)] from rfl) (Reps.one (show Kd.M Kd.string _ _ _ (⟨#[73]⟩ : ByteArray) [.string (⟨#[73]⟩ : ByteArray)] from rfl) (Reps.one (show Kd.M Kd.string _ _ _ (⟨#[74]⟩ : ByteArray) [.string (⟨#[74]⟩ : ByteArray)] from rfl) (Reps.one (show Kd.M Kd.string _ _ _ (⟨#[62, 82]⟩ : ByteArray) [.string (⟨#[62, 82]⟩ : ByteArray)] from rfl) (Reps.one (show Kd.M Kd.string _ _ _ (⟨#[82, 62]⟩ : ByteArray) [.string (⟨#[82, 62]⟩ : ByteArray)] from rfl) (Reps.one (show Kd.M Kd.string _ _ _ (⟨#[82, 64]⟩ : ByteArray) [.string (⟨#[82, 64]⟩ : ByteArray)] from rfl) (Reps.one (show Kd.M Kd.string _ _ _ (⟨#[69, 88, 69, 67, 85, 84, 69]⟩ : ByteArray) [.string (⟨#[69, 88, 69, 67, 85, 84, 69]⟩ : ByteArray)] from rfl) (Reps.one (show Kd.M Kd.string _ _ _ (⟨#[67, 65, 84, 67, 72]⟩ : ByteArray) [.string (⟨#[67, 65, 84, 67, 72]⟩ : ByteArray)] from rfl) (Reps.one (show Kd.M Kd.string _ _ _ (⟨#[84, 72, 82, 79, 87]⟩ : ByteArray) [.string (⟨#[84, 72, 82, 79, 87]⟩ : ByteArray)] from rfl) (Reps.one (show Kd.M Kd.string _ _ _ (⟨#[68, 85, 80]⟩ : ByteArray) [.string (⟨#[68, 85, 80]⟩ : ByteArray)] from rfl) (Reps.one (show Kd.M Kd.string _ _ _ (⟨#[68, 82, 79, 80]⟩ : ByteArray) [.string (⟨#[68, 82, 79, 80]⟩ : ByteArray)] from rfl) (Reps.one (show Kd.M Kd.string _ _ _ (⟨#[83, 87, 65, 80]⟩ : ByteArray) [.string (⟨#[83, 87, 65, 80]⟩ : ByteArray)] from rfl) (Reps.one (show Kd.M Kd.string _ _ _ (⟨#[79, 86, 69, 82]⟩ : ByteArray) [.string (⟨#[79, 86, 69, 82]⟩ : ByteArray)] from rfl) (Reps.one (show Kd.M Kd.string _ _ _ (⟨#[82, 79, 84]⟩ : ByteArray) [.string (⟨#[82, 79, 84]⟩ : ByteArray)] from rfl) (Reps.one (show Kd.M Kd.string _ _ _ (⟨#[78, 73, 80]⟩ : ByteArray) [.string (⟨#[78, 73, 80]⟩ : ByteArray)] from rfl) (Reps.one (show Kd.M Kd.string _ _ _ (⟨#[84, 85, 67, 75]⟩ : ByteArray) [.string (⟨#[84, 85, 67, 75]⟩ : ByteArray)] from rfl) (Reps.one (show Kd.M Kd.string _ _ _ (⟨#[50, 68, 85, 80]⟩ : ByteArray) [.string (⟨#[50, 68, 85, 80]⟩ : ByteArray)] from rfl) (Reps.one (show Kd.M Kd.string _ _ _ (⟨#[50, 68, 82, 79, 80]⟩ : ByteArray) [.string (⟨#[50, 68, 82, 79, 80]⟩ : ByteArray)] from rfl) (Reps.one (show Kd.M Kd.string _ _ _ (⟨#[50, 83, 87, 65, 80]⟩ : ByteArray) [.string (⟨#[50, 83, 87, 65, 80]⟩ : ByteArray)] from rfl) (Reps.one (show Kd.M Kd.string _ _ _ (⟨#[50, 79, 86, 69, 82]⟩ : ByteArray) [.string (⟨#[50, 79, 86, 69, 82]⟩ : ByteArray)] from rfl) (Reps.one (show Kd.M Kd.string _ _ _ (⟨#[63, 68, 85, 80]⟩ : ByteArray) [.string (⟨#[63, 68, 85, 80]⟩ : ByteArray)] from rfl) (Reps.one (show Kd.M Kd.string _ _ _ (⟨#[80, 73, 67, 75]⟩ : ByteArray) [.string (⟨#[80, 73, 67, 75]⟩ : ByteArray)] from rfl) (Reps.one (show Kd.M Kd.string _ _ _ (⟨#[82, 79, 76, 76]⟩ : ByteArray) [.string (⟨#[82, 79, 76, 76]⟩ : ByteArray)] from rfl) (Reps.one (show Kd.M Kd.string _ _ _ (⟨#[68, 69, 80, 84, 72]⟩ : ByteArray) [.string (⟨#[68, 69, 80, 84, 72]⟩ : ByteArray)] from rfl) (Reps.one (show Kd.M Kd.string _ _ _ (⟨#[43]⟩ : ByteArray) [.string (⟨#[43]⟩ : ByteArray)] from rfl) (Reps.one (show Kd.M Kd.string _ _ _ (⟨#[45]⟩ : ByteArray) [.string (⟨#[45]⟩ : ByteArray)] from rfl) (Reps.one (show Kd.M Kd.string _ _ _ (⟨#[42]⟩ : ByteArray) [.string (⟨#[42]⟩ : ByteArray)] from rfl) (Reps.one (show Kd.M Kd.string _ _ _ (⟨#[47]⟩ : ByteArray) [.string (⟨#[47]⟩ : ByteArray)] from rfl) (Reps.one (show Kd.M Kd.string _ _ _ (⟨#[77, 79, 68]⟩ : ByteArray) [.string (⟨#[77, 79, 68]⟩ : ByteArray)] from rfl) (Reps.one (show Kd.M Kd.string _ _ _ (⟨#[47, 77, 79, 68]⟩ : ByteArray) [.string (⟨#[47, 77, 79, 68]⟩ : ByteArray)] from rfl) (Reps.one (show Kd.M Kd.string _ _ _ (⟨#[42, 47]⟩ : ByteArray) [.string (⟨#[42, 47]⟩ : ByteArray)] from rfl) (Reps.one (show Kd.M Kd.string _ _ _ (⟨#[42, 47, 77, 79, 68]⟩ : ByteArray) [.string (⟨#[42, 47, 77, 79, 68]⟩ : ByteArray)] from rfl) (Reps.one (show Kd.M Kd.string _ _ _ (⟨#[49, 43]⟩ : ByteArray) [.string (⟨#[49, 43]⟩ : ByteArray)] from rfl) (Reps.one (show Kd.M Kd.string _ _ _ (⟨#[49, 45]⟩ : ByteArray) [.string (⟨#[49, 45]⟩ : ByteArray)] from rfl) (Reps.one (show Kd.M Kd.string _ _ _ (⟨#[50, 42]⟩ : ByteArray) [.string (⟨#[50, 42]⟩ : ByteArray)] from rfl) (Reps.one (show Kd.M Kd.string _ _ _ (⟨#[50, 47]⟩ : ByteArray) [.string (⟨#[50, 47]⟩ : ByteArray)] from rfl) (Reps.one (show Kd.M Kd.string _ _ _ (⟨#[78, 69, 71, 65, 84, 69]⟩ : ByteArray) [.string (⟨#[78, 69, 71, 65, 84, 69]⟩ : ByteArray)] from rfl) (Reps.one (show Kd.M Kd.string _ _ _ (⟨#[65, 66, 83]⟩ : ByteArray) [.string (⟨#[65, 66, 83]⟩ : ByteArray)] from rfl) (Reps.one (show Kd.M Kd.string _ _ _ (⟨#[77, 73, 78]⟩ : ByteArray) [.string (⟨#[77, 73, 78]⟩ : ByteArray)] from rfl) (Reps.one (show Kd.M Kd.string _ _ _ (⟨#[77, 65, 88]⟩ : ByteArray) [.string (⟨#[77, 65, 88]⟩ : ByteArray)] from rfl) (Reps.one (show Kd.M Kd.string _ _ _ (⟨#[65, 78, 68]⟩ : ByteArray) [.string (⟨#[65, 78, 68]⟩ : ByteArray)] from rfl) (Reps.one (show Kd.M Kd.string _ _ _ (⟨#[79, 82]⟩ : ByteArray) [.string (⟨#[79, 82]⟩ : ByteArray)] from rfl) (Reps.one (show Kd.M Kd.string _ _ _ (⟨#[88, 79, 82]⟩ : ByteArray) [.string (⟨#[88, 79, 82]⟩ : ByteArray)] from rfl) (Reps.one (show Kd.M Kd.string _ _ _ (⟨#[73, 78, 86, 69, 82, 84]⟩ : ByteArray) [.string (⟨#[73, 78, 86, 69, 82, 84]⟩ : ByteArray)] from rfl) (Reps.one (show Kd.M Kd.string _ _ _ (⟨#[76, 83, 72, 73, 70, 84]⟩ : ByteArray) [.string (⟨#[76, 83, 72, 73, 70, 84]⟩ : ByteArray)] from rfl) (Reps.one (show Kd.M Kd.string _ _ _ (⟨#[82, 83, 72, 73, 70, 84]⟩ : ByteArray) [.string (⟨#[82, 83, 72, 73, 70, 84]⟩ : ByteArray)] from rfl) (Reps.one (show Kd.M Kd.string _ _ _ (⟨#[61]⟩ : ByteArray) [.string (⟨#[61]⟩ : ByteArray)] from rfl) (Reps.one (show Kd.M Kd.string _ _ _ (⟨#[60, 62]⟩ : ByteArray) [.string (⟨#[60, 62]⟩ : ByteArray)] from rfl) (Reps.one (show Kd.M Kd.string _ _ _ (⟨#[60]⟩ : ByteArray) [.string (⟨#[60]⟩ : ByteArray)] from rfl) (Reps.one (show Kd.M Kd.string _ _ _ (⟨#[62]⟩ : ByteArray) [.string (⟨#[62]⟩ : ByteArray)] from rfl) (Reps.one (show Kd.M Kd.string _ _ _ (⟨#[85, 60]⟩ : ByteArray) [.string (⟨#[85, 60]⟩ : ByteArray)] from rfl) (Reps.one (show Kd.M Kd.string _ _ _ (⟨#[48, 61]⟩ : ByteArray) [.string (⟨#[48, 61]⟩ : ByteArray)] from rfl) (Reps.one (show Kd.M Kd.string _ _ _ (⟨#[48, 60]⟩ : ByteArray) [.string (⟨#[48, 60]⟩ : ByteArray)] from rfl) (Reps.one (show Kd.M Kd.string _ _ _ (⟨#[87, 73, 84, 72, 73, 78]⟩ : ByteArray) [.string (⟨#[87, 73, 84, 72, 73, 78]⟩ : ByteArray)] from rfl) (Reps.one (show Kd.M Kd.string _ _ _ (⟨#[85, 77, 42]⟩ : ByteArray) [.string (⟨#[85, 77, 42]⟩ : ByteArray)] from rfl) (Reps.one (show Kd.M Kd.string _ _ _ (⟨#[77, 42]⟩ : ByteArray) [.string (⟨#[77, 42]⟩ : ByteArray)] from rfl) (Reps.one (show Kd.M Kd.string _ _ _ (⟨#[85, 77, 47, 77, 79, 68]⟩ : ByteArray) [.string (⟨#[85, 77, 47, 77, 79, 68]⟩ : ByteArray)] from rfl) (Reps.one (show Kd.M Kd.string _ _ _ (⟨#[70, 77, 47, 77, 79, 68]⟩ : ByteArray) [.string (⟨#[70, 77, 47, 77, 79, 68]⟩ : ByteArray)] from rfl) (Reps.one (show Kd.M Kd.string _ _ _ (⟨#[83, 77, 47, 82, 69, 77]⟩ : ByteArray) [.string (⟨#[83, 77, 47, 82, 69, 77]⟩ : ByteArray)] from rfl) (Reps.one (show Kd.M Kd.string _ _ _ (⟨#[83, 62, 68]⟩ : ByteArray) [.string (⟨#[83, 62, 68]⟩ : ByteArray)] from rfl) (Reps.one (show Kd.M Kd.string _ _ _ (⟨#[68, 43]⟩ : ByteArray) [.string (⟨#[68, 43]⟩ : ByteArray)] from rfl) (Reps.one (show Kd.M Kd.string _ _ _ (⟨#[68, 78, 69, 71, 65, 84, 69]⟩ : ByteArray) [.string (⟨#[68, 78, 69, 71, 65, 84, 69]⟩ : ByteArray)] from rfl) (Reps.one (show Kd.M Kd.string _ _ _ (⟨#[67, 69, 76, 76, 83]⟩ : ByteArray) [.string (⟨#[67, 69, 76, 76, 83]⟩ : ByteArray)] from rfl) (Reps.one (show Kd.M Kd.string _ _ _ (⟨#[67, 69, 76, 76, 43]⟩ : ByteArray) [.string (⟨#[67, 69, 76, 76, 43]⟩ : ByteArray)] from rfl) (Reps.one (show Kd.M Kd.string _ _ _ (⟨#[67, 72, 65, 82, 43]⟩ : ByteArray) [.string (⟨#[67, 72, 65, 82, 43]⟩ : ByteArray)] from rfl) (Reps.one (show Kd.M Kd.string _ _ _ (⟨#[65, 76, 73, 71, 78, 69, 68]⟩ : ByteArray) [.string (⟨#[65, 76, 73, 71, 78, 69, 68]⟩ : ByteArray)] from rfl) (Reps.one (show Kd.M Kd.string _ _ _ (⟨#[64]⟩ : ByteArray) [.string (⟨#[64]⟩ : ByteArray)] from rfl) (Reps.one (show Kd.M Kd.string _ _ _ (⟨#[33]⟩ : ByteArray) [.string (⟨#[33]⟩ : ByteArray)] from rfl) (Reps.one (show Kd.M Kd.string _ _ _ (⟨#[67, 64]⟩ : ByteArray) [.string (⟨#[67, 64]⟩ : ByteArray)] from rfl) (Reps.one (show Kd.M Kd.string _ _ _ (⟨#[67, 33]⟩ : ByteArray) [.string (⟨#[67, 33]⟩ : ByteArray)] from rfl) (Reps.one (show Kd.M Kd.string _ _ _ (⟨#[43, 33]⟩ : ByteArray) [.string (⟨#[43, 33]⟩ : ByteArray)] from rfl) (Reps.one (show Kd.M Kd.string _ _ _ (⟨#[70, 73, 76, 76]⟩ : ByteArray) [.string (⟨#[70, 73, 76, 76]⟩ : ByteArray)] from rfl) (Reps.one (show Kd.M Kd.string _ _ _ (⟨#[77, 79, 86, 69]⟩ : ByteArray) [.string (⟨#[77, 79, 86, 69]⟩ : ByteArray)] from rfl) (Reps.one (show Kd.M Kd.string _ _ _ (⟨#[67, 65, 83]⟩ : ByteArray) [.string (⟨#[67, 65, 83]⟩ : ByteArray)] from rfl) (Reps.one (show Kd.M Kd.string _ _ _ (⟨#[69, 77, 73, 84]⟩ : ByteArray) [.string (⟨#[69, 77, 73, 84]⟩ : ByteArray)] from rfl) (Reps.one (show Kd.M Kd.string _ _ _ (⟨#[84, 89, 80, 69]⟩ : ByteArray) [.string (⟨#[84, 89, 80, 69]⟩ : ByteArray)] from rfl) (Reps.one (show Kd.M Kd.string _ _ _ (⟨#[46]⟩ : ByteArray) [.string (⟨#[46]⟩ : ByteArray)] from rfl) (Reps.one (show Kd.M Kd.string _ _ _ (⟨#[85, 46]⟩ : ByteArray) [.string (⟨#[85, 46]⟩ : ByteArray)] from rfl) (Reps.one (show Kd.M Kd.string _ _ _ (⟨#[67, 82]⟩ : ByteArray) [.string (⟨#[67, 82]⟩ : ByteArray)] from rfl) (Reps.one (show Kd.M Kd.string _ _ _ (⟨#[83, 80, 65, 67, 69]⟩ : ByteArray) [.string (⟨#[83, 80, 65, 67, 69]⟩ : ByteArray)] from rfl) (Reps.one (show Kd.M Kd.string _ _ _ (⟨#[60, 35]⟩ : ByteArray) [.string (⟨#[60, 35]⟩ : ByteArray)] from rfl) (Reps.one (show Kd.M Kd.string _ _ _ (⟨#[35]⟩ : ByteArray) [.string (⟨#[35]⟩ : ByteArray)] from rfl) (Reps.one (show Kd.M Kd.string _ _ _ (⟨#[35, 83]⟩ : ByteArray) [.string (⟨#[35, 83]⟩ : ByteArray)] from rfl) (Reps.one (show Kd.M Kd.string _ _ _ (⟨#[72, 79, 76, 68]⟩ : ByteArray) [.string (⟨#[72, 79, 76, 68]⟩ : ByteArray)] from rfl) (Reps.one (show Kd.M Kd.string _ _ _ (⟨#[83, 73, 71, 78]⟩ : ByteArray) [.string (⟨#[83, 73, 71, 78]⟩ : ByteArray)] from rfl) (Reps.one (show Kd.M Kd.string _ _ _ (⟨#[35, 62]⟩ : ByteArray) [.string (⟨#[35, 62]⟩ : ByteArray)] from rfl) (Reps.one (show Kd.M Kd.string _ _ _ (⟨#[66, 65, 83, 69]⟩ : ByteArray) [.string (⟨#[66, 65, 83, 69]⟩ : ByteArray)] from rfl) (Reps.one (show Kd.M Kd.string _ _ _ (⟨#[68, 69, 67, 73, 77, 65, 76]⟩ : ByteArray) [.string (⟨#[68, 69, 67, 73, 77, 65, 76]⟩ : ByteArray)] from rfl) (Reps.one (show Kd.M Kd.string _ _ _ (⟨#[72, 69, 88]⟩ : ByteArray) [.string (⟨#[72, 69, 88]⟩ : ByteArray)] from rfl) (Reps.one (show Kd.M Kd.string _ _ _ (⟨#[77, 69]⟩ : ByteArray) [.string (⟨#[77, 69]⟩ : ByteArray)] from rfl) (Reps.one (show Kd.M Kd.string _ _ _ (⟨#[84, 73, 67, 75, 83]⟩ : ByteArray) [.string (⟨#[84, 73, 67, 75, 83]⟩ : ByteArray)] from rfl) (Reps.one (show Kd.M Kd.string _ _ _ (⟨#[80, 65, 85, 83, 69]⟩ : ByteArray) [.string (⟨#[80, 65, 85, 83, 69]⟩ : ByteArray)] from rfl) (Reps.one (show Kd.M Kd.string _ _ _ (⟨#[83, 76, 69, 69, 80]⟩ : ByteArray) [.string (⟨#[83, 76, 69, 69, 80]⟩ : ByteArray)] from rfl) (Reps.one (show Kd.M Kd.string _ _ _ (⟨#[66, 89, 69]⟩ : ByteArray) [.string (⟨#[66, 89, 69]⟩ : ByteArray)] from rfl) (Reps.one (show Kd.M Kd.string _ _ _ (⟨#[78, 79, 84, 69]⟩ : ByteArray) [.string (⟨#[78, 79, 84, 69]⟩ : ByteArray)] from rfl) (Reps.one (show Kd.M Kd.string _ _ _ (⟨#[67, 82, 69, 65, 84, 69]⟩ : ByteArray) [.string (⟨#[67, 82, 69, 65, 84, 69]⟩ : ByteArray)] from rfl) (Reps.one (show Kd.M Kd.string _ _ _ (⟨#[40, 68, 79, 69, 83, 41]⟩ : ByteArray) [.string (⟨#[40, 68, 79, 69, 83, 41]⟩ : ByteArray)] from rfl) (Reps.one (show Kd.M Kd.string _ _ _ (⟨#[72, 69, 82, 69]⟩ : ByteArray) [.string (⟨#[72, 69, 82, 69]⟩ : ByteArray)] from rfl) (Reps.one (show Kd.M Kd.string _ _ _ (⟨#[65, 76, 76, 79, 84]⟩ : ByteArray) [.string (⟨#[65, 76, 76, 79, 84]⟩ : ByteArray)] from rfl) (Reps.one (show Kd.M Kd.string _ _ _ (⟨#[44]⟩ : ByteArray) [.string (⟨#[44]⟩ : ByteArray)] from rfl) (Reps.one (show Kd.M Kd.string _ _ _ (⟨#[67, 79, 77, 80, 73, 76, 69, 44]⟩ : ByteArray) [.string (⟨#[67, 79, 77, 80, 73, 76, 69, 44]⟩ : ByteArray)] from rfl) (Reps.one (show Kd.M Kd.string _ _ _ (⟨#[73, 77, 77, 69, 68, 73, 65, 84, 69]⟩ : ByteArray) [.string (⟨#[73, 77, 77, 69, 68, 73, 65, 84, 69]⟩ : ByteArray)] from rfl) (Reps.none _ _))))))))))))))))))))))))))))))))))))))))))))))))))))))))))))))))))))))))))))))))))))))))))))))))))))))))))))))))); intro v102 w1 ho2 hb hg_ hnew_; clear hg_ hnew_; (first | rw [← Ny101.out] at ho2 | (simp only [Int.reduceToNat] at ho2; rw [← Ny101.out] at ho2)); have n0_ := Aside0.mk (Kd.R_lower ho2 (below_size (by repeat (first | (with_reducible first | exact HB.out | apply below_alloc | apply pw_below_drewN | apply below_drew1) | exact HB.out)))); have n1_ := Aside0.mk (below_step (by repeat (first | (with_reducible first | exact HB.out | apply below_alloc | apply pw_below_drewN | apply below_drew1) | exact HB.out)) hb); clear HB; have HO103 := n0_; have HB := n1_; clear n0_ n1_; clear hb ho2))
  go_ret
  exact ⟨_, by first | rfl | (simp [errW_none, errW_some] <;> rfl) | (simp [*, errW_none, errW_some] <;> rfl), by (with_reducible repeat (first | apply Kd.R_alloc | apply Kd.R_drewN | apply Kd.R_drew)); exact HO103.out, by repeat (first | (with_reducible first | exact HB.out | apply below_alloc | apply pw_below_drewN | apply below_drew1) | exact HB.out)⟩

/-! ### op_Name: function 12 -/
def op_Name.f (a0 : Int) : Option (ByteArray) := (op_in.f a0).bind fun t104 => (if t104 = true then ((op_names.f).bind fun t105 => (if 0 ≤ a0 then (if a0 < (t105.length : Int) then (some (rdOf ByteArray.empty t105 a0)) else (none)) else (none))) else (some (⟨#[]⟩ : ByteArray)))
set_option maxHeartbeats 8000000 in
set_option maxRecDepth 100000 in
theorem op_Name.calls (a0 : Int) (r : ByteArray) (w : World) (h : op_Name.f a0 = some r) :
    Calls Try.prog 12 #[.int .i64 a0] w fun e w' => e = .returned (.string r) ∧ Below w.heap.size w w' := by
  have HB := Aside0.mk (Below.refl w.heap.size w)
  have H : ((op_in.f a0).bind fun t104 => (if t104 = true then ((op_names.f).bind fun t105 => (if 0 ≤ a0 then (if a0 < (t105.length : Int) then (some (rdOf ByteArray.empty t105 a0)) else (none)) else (none))) else (some (⟨#[]⟩ : ByteArray)))) = some r := h
  clear h
  replace H := Option.bind_eq_some_iff.mp H
  obtain ⟨t104, A20, H⟩ := H
  replace H : (if t104 = true then ((op_names.f).bind fun t105 => (if 0 ≤ a0 then (if a0 < (t105.length : Int) then (some (rdOf ByteArray.empty t105 a0)) else (none)) else (none))) else (some (⟨#[]⟩ : ByteArray))) = some r := H
  have A2 := Aside0.mk A20
  clear A20
  by_cases c3 : t104 = true
  · subst c3
    have H1 : ((op_names.f).bind fun t105 => (if 0 ≤ a0 then (if a0 < (t105.length : Int) then (some (rdOf ByteArray.empty t105 a0)) else (none)) else (none))) = some r := by rw [if_pos rfl] at H; exact H
    clear H
    have H := H1
    clear H1
    replace H := Option.bind_eq_some_iff.mp H
    obtain ⟨t105, A40, H⟩ := H
    replace H : (if 0 ≤ a0 then (if a0 < (t105.length : Int) then (some (rdOf ByteArray.empty t105 a0)) else (none)) else (none)) = some r := H
    have A4 := Aside0.mk A40
    clear A40
    by_cases c5 : 0 ≤ a0
    · rw [if_pos c5] at H
      have c5b0 : decide (0 ≤ a0) = true := decide_eq_true c5
      clear c5
      by_cases c6 : a0 < (t105.length : Int)
      · rw [if_pos c6] at H
        have c6b0 : decide (a0 < (t105.length : Int)) = true := decide_eq_true c6
        clear c6
        obtain rfl := Option.some.inj H
        go_enter Try.func12, Try.ntmps12
        go_wp2_with (first | ((with_reducible refine gate_callee (f := 33) rfl ?_); refine goesL_ (some 4) rfl rfl Try.func33 (by kernel_rfl) rfl #[.int .i64 a0] rfl (by (try simp only [List.map_toArray, List.map_cons, List.map_nil]); first | done | rfl | (simp only [List.length_drop, List.length_take]; rfl)) ?_; (with_reducible refine (op_in.calls a0 true _ A2.out).mono ?_); rintro e w' ⟨rfl, ⟨nd, rfl⟩⟩; refine ⟨_, rfl, ?_⟩) | ((with_reducible refine gate_callee (f := 34) rfl ?_); refine goesL_ (some 6) rfl rfl Try.func34 (by kernel_rfl) rfl #[] rfl (by (try simp only [List.map_toArray, List.map_cons, List.map_nil]); first | done | rfl | (simp only [List.length_drop, List.length_take]; rfl)) ?_; (with_reducible refine (op_names.calls  t105 _ A4.out).mono ?_); rintro e w7 ⟨v106, rfl, ho0, hb⟩; refine ⟨_, rfl, ?_⟩; have n0_ := Aside0.mk (Kd.R_lower ho0 (below_size (by repeat (first | (with_reducible first | exact HB.out | apply below_alloc | apply pw_below_drewN | apply below_drew1) | exact HB.out)))); have n1_ := Aside0.mk (below_step (by repeat (first | (with_reducible first | exact HB.out | apply below_alloc | apply pw_below_drewN | apply below_drew1) | exact HB.out)) hb); clear HB; have HO107 := n0_; have HB := n1_; clear n0_ n1_; (try clear hb); (try clear hb2); (try clear hk); (try clear hi); (try clear ho0); obtain ⟨Ao8, co8, eo8⟩ := Kd.R_slice HO107.out; subst eo8; have p108 : 0 ≤ (a0 : Int) := of_decide_eq_true (by first | (with_reducible assumption) | assumption); have q108 : a0 < (t105.length : Int) := of_decide_eq_true (by first | (with_reducible assumption) | assumption); obtain ⟨ad108, e108, hx108_0⟩ := Kd.at_string (Kd.R_reads' HO107.out).2.2 a0 p108 q108; cases e108; replace p108 := eq_true p108; replace q108 := eq_true q108))
        go_ret
        exact ⟨by first | rfl | (simp [errW_none, errW_some] <;> rfl) | (simp [*, errW_none, errW_some] <;> rfl), by repeat (first | (with_reducible first | exact HB.out | apply below_alloc | apply pw_below_drewN | apply below_drew1) | exact HB.out)⟩
      · rw [if_neg c6] at H
        exact absurd H (by simp)
    · rw [if_neg c5] at H
      exact absurd H (by simp)
  · replace c3 := Bool.eq_false_iff.mpr c3
    subst c3
    have H1 : (some (⟨#[]⟩ : ByteArray)) = some r := by rw [if_neg (show ¬ (false = true) by decide)] at H; exact H
    clear H
    have H := H1
    clear H1
    obtain rfl := Option.some.inj H
    go_enter Try.func12, Try.ntmps12
    go_wp2_with (first | ((with_reducible refine gate_callee (f := 33) rfl ?_); refine goesL_ (some 4) rfl rfl Try.func33 (by kernel_rfl) rfl #[.int .i64 a0] rfl (by (try simp only [List.map_toArray, List.map_cons, List.map_nil]); first | done | rfl | (simp only [List.length_drop, List.length_take]; rfl)) ?_; (with_reducible refine (op_in.calls a0 false _ A2.out).mono ?_); rintro e w' ⟨rfl, ⟨nd, rfl⟩⟩; refine ⟨_, rfl, ?_⟩))
    go_ret
    exact ⟨by first | rfl | (simp [errW_none, errW_some] <;> rfl) | (simp [*, errW_none, errW_some] <;> rfl), by repeat (first | (with_reducible first | exact HB.out | apply below_alloc | apply pw_below_drewN | apply below_drew1) | exact HB.out)⟩

/-! ### stringslite_HasPrefix: function 46 -/
def stringslite_HasPrefix.f (a0 : ByteArray) (a1 : ByteArray) : Option (Bool) := if (a0.size : Int) ≥ (a1.size : Int) then (if 0 ≤ (a1.size : Int) then (if (a1.size : Int) ≤ (a0.size : Int) then (some ((a0.extract 0 ((a1.size : Int) : Int).toNat).toList == a1.toList)) else (none)) else (none)) else (some false)
set_option maxHeartbeats 8000000 in
set_option maxRecDepth 100000 in
theorem stringslite_HasPrefix.calls (a0 : ByteArray) (a1 : ByteArray) (r : Bool) (w : World) (h : stringslite_HasPrefix.f a0 a1 = some r) :
    Calls Try.prog 46 #[.string a0, .string a1] w fun e w' => e = .returned (.bool r) ∧ Drawn0 w w' := by
  have H : (if (a0.size : Int) ≥ (a1.size : Int) then (if 0 ≤ (a1.size : Int) then (if (a1.size : Int) ≤ (a0.size : Int) then (some ((a0.extract 0 ((a1.size : Int) : Int).toNat).toList == a1.toList)) else (none)) else (none)) else (some false)) = some r := h
  clear h
  by_cases c3 : (a0.size : Int) ≥ (a1.size : Int)
  · rw [if_pos c3] at H
    have c3b0 : decide ((a1.size : Int) ≤ (a0.size : Int)) = true := decide_eq_true c3
    have c3b1 : decide (a1.size ≤ a0.size) = true := decide_eq_true (Int.ofNat_le.mp c3)
    clear c3
    by_cases c4 : 0 ≤ (a1.size : Int)
    · rw [if_pos c4] at H
      have c4b0 := eq_true c4
      have c4b1 : decide (0 ≤ (a1.size : Int)) = true := decide_eq_true c4
      clear c4
      by_cases c5 : (a1.size : Int) ≤ (a0.size : Int)
      · rw [if_pos c5] at H
        have c5b0 := eq_true c5
        have c5b1 : decide ((a1.size : Int) ≤ (a0.size : Int)) = true := decide_eq_true c5
        clear c5
        obtain rfl := Option.some.inj H
        go_enter Try.func46, Try.ntmps46
        go_wp2
        go_ret
        exact ⟨by first | rfl | (simp; done) | (simp [*]; done), by repeat (first | exact Drawn0.refl _ | apply Drawn0.step)⟩
      · rw [if_neg c5] at H
        exact absurd H (by simp)
    · rw [if_neg c4] at H
      exact absurd H (by simp)
  · rw [if_neg c3] at H
    have c3b0 : decide ((a1.size : Int) ≤ (a0.size : Int)) = false := decide_eq_false c3
    have c3b1 : decide (a1.size ≤ a0.size) = false := decide_eq_false (fun h => c3 (Int.ofNat_le.mpr h))
    clear c3
    obtain rfl := Option.some.inj H
    go_enter Try.func46, Try.ntmps46
    go_wp2
    go_ret
    exact ⟨by first | rfl | (simp; done) | (simp [*]; done), by repeat (first | exact Drawn0.refl _ | apply Drawn0.step)⟩

/-! ### strings_HasPrefix: function 35 -/
def strings_HasPrefix.f (a0 : ByteArray) (a1 : ByteArray) : Option (Bool) := (stringslite_HasPrefix.f a0 a1).bind fun t109 => (some t109)
set_option maxHeartbeats 8000000 in
set_option maxRecDepth 100000 in
theorem strings_HasPrefix.calls (a0 : ByteArray) (a1 : ByteArray) (r : Bool) (w : World) (h : strings_HasPrefix.f a0 a1 = some r) :
    Calls Try.prog 35 #[.string a0, .string a1] w fun e w' => e = .returned (.bool r) ∧ Drawn0 w w' := by
  have H : ((stringslite_HasPrefix.f a0 a1).bind fun t109 => (some t109)) = some r := h
  clear h
  replace H := Option.bind_eq_some_iff.mp H
  obtain ⟨t109, A30, H⟩ := H
  replace H : (some t109) = some r := H
  have A3 := Aside0.mk A30
  clear A30
  obtain rfl := Option.some.inj H
  go_enter Try.func35, Try.ntmps35
  go_wp2_with (first | ((with_reducible refine gate_callee (f := 46) rfl ?_); refine goesL_ (some 7) rfl rfl Try.func46 (by kernel_rfl) rfl #[.string a0, .string a1] rfl (by (try simp only [List.map_toArray, List.map_cons, List.map_nil]); first | done | rfl | (simp only [List.length_drop, List.length_take]; rfl)) ?_; (with_reducible refine (stringslite_HasPrefix.calls a0 a1 t109 _ A3.out).mono ?_); rintro e w' ⟨rfl, ⟨nd, rfl⟩⟩; refine ⟨_, rfl, ?_⟩))
  go_ret
  exact ⟨by first | rfl | (simp; done) | (simp [*]; done), by repeat (first | exact Drawn0.refl _ | apply Drawn0.step)⟩

/-! ### op_Hidden: function 13 -/
def op_Hidden.f (a0 : Int) : Option (Bool) := (op_Name.f a0).bind fun t110 => ((strings_HasPrefix.f t110 (⟨#[40]⟩ : ByteArray)).bind fun t111 => (some t111))
set_option maxHeartbeats 8000000 in
set_option maxRecDepth 100000 in
theorem op_Hidden.calls (a0 : Int) (r : Bool) (w : World) (h : op_Hidden.f a0 = some r) :
    Calls Try.prog 13 #[.int .i64 a0] w fun e w' => e = .returned (.bool r) ∧ Below w.heap.size w w' := by
  have HB := Aside0.mk (Below.refl w.heap.size w)
  have H : ((op_Name.f a0).bind fun t110 => ((strings_HasPrefix.f t110 (⟨#[40]⟩ : ByteArray)).bind fun t111 => (some t111))) = some r := h
  clear h
  replace H := Option.bind_eq_some_iff.mp H
  obtain ⟨t110, A20, H⟩ := H
  replace H : ((strings_HasPrefix.f t110 (⟨#[40]⟩ : ByteArray)).bind fun t111 => (some t111)) = some r := H
  have A2 := Aside0.mk A20
  clear A20
  replace H := Option.bind_eq_some_iff.mp H
  obtain ⟨t111, A30, H⟩ := H
  replace H : (some t111) = some r := H
  have A3 := Aside0.mk A30
  clear A30
  obtain rfl := Option.some.inj H
  go_enter Try.func13, Try.ntmps13
  go_wp2_with (first | ((with_reducible refine gate_callee (f := 12) rfl ?_); refine goesL_ (some 4) rfl rfl Try.func12 (by kernel_rfl) rfl #[.int .i64 a0] rfl (by (try simp only [List.map_toArray, List.map_cons, List.map_nil]); first | done | rfl | (simp only [List.length_drop, List.length_take]; rfl)) ?_; (with_reducible refine (op_Name.calls a0 t110 _ A2.out).mono ?_); rintro e w4 ⟨rfl, hb⟩; refine ⟨_, rfl, ?_⟩; have n0_ := Aside0.mk (below_step (by repeat (first | (with_reducible first | exact HB.out | apply below_alloc | apply pw_below_drewN | apply below_drew1) | exact HB.out)) hb); clear HB; have HB := n0_; clear n0_; (try clear hb); (try clear hb2); (try clear hk); (try clear hi)) | ((with_reducible refine gate_callee (f := 35) rfl ?_); refine goesL_ (some 5) rfl rfl Try.func35 (by kernel_rfl) rfl #[.string t110, .string (⟨#[40]⟩ : ByteArray)] rfl (by (try simp only [List.map_toArray, List.map_cons, List.map_nil]); first | done | rfl | (simp only [List.length_drop, List.length_take]; rfl)) ?_; (with_reducible refine (strings_HasPrefix.calls t110 (⟨#[40]⟩ : ByteArray) t111 _ A3.out).mono ?_); rintro e w' ⟨rfl, ⟨nd, rfl⟩⟩; refine ⟨_, rfl, ?_⟩))
  go_ret
  exact ⟨by first | rfl | (simp [errW_none, errW_some] <;> rfl) | (simp [*, errW_none, errW_some] <;> rfl), by repeat (first | (with_reducible first | exact HB.out | apply below_alloc | apply pw_below_drewN | apply below_drew1) | exact HB.out)⟩

/-! ### dict_Base: function 10 -/
def dict_Base.l0 : Nat → List (S35) → Int → Option ((List (S35)))
  | 0, _, _ => none
  | k + 1, x1, x3 => if x3 < 111 then ((op_Hidden.f x3).bind fun t112 => (if t112 = true then (dict_Base.l0 k x1 (wrap64 (x3 + 1))) else ((op_Name.f x3).bind fun t113 => (if x1.length < 2513169434916 then (dict_Base.l0 k (x1 ++ [(⟨t113, false, 0, x3, (⟨0, 0⟩ : S33)⟩ : S35)]) (wrap64 (x3 + 1))) else (none))))) else (some x1)
def dict_Base.f (k : Nat)  : Option ((List (S35))) := dict_Base.l0 k ([] : List (S35)) 0
theorem dict_Base.mono_l : ∀ k, (∀ y0 y1, LeO (dict_Base.l0 k y0 y1) (dict_Base.l0 (k + 1) y0 y1))
  | 0 => fun _ _ r h => by simp [dict_Base.l0] at h
  | k + 1 => by
    have ih0 := dict_Base.mono_l k
    · intro y0 y1
      unfold dict_Base.l0
      repeat' first
      | (with_reducible exact ih0 _ _)
      | (with_reducible exact LeO.refl _)
      | (with_reducible exact LeO.none _)
      | (with_reducible refine LeO.ite ?_ ?_)
      | (with_reducible refine LeO.bind ?_ (fun _ => ?_))
      | exact ih0 _ _
      | exact LeO.none _
      | refine LeO.ite ?_ ?_
      | refine LeO.bind ?_ (fun _ => ?_)
theorem dict_Base.mono : ∀ k, LeO (dict_Base.f k ) (dict_Base.f (k + 1) ) := by
  intro  k
  have ih0 := dict_Base.mono_l k
  unfold dict_Base.f
  repeat' first
      | (with_reducible exact ih0 _ _)
      | (with_reducible exact LeO.refl _)
      | (with_reducible exact LeO.none _)
      | (with_reducible refine LeO.ite ?_ ?_)
      | (with_reducible refine LeO.bind ?_ (fun _ => ?_))
      | exact ih0 _ _
      | exact LeO.none _
      | refine LeO.ite ?_ ?_
      | refine LeO.bind ?_ (fun _ => ?_)
set_option maxHeartbeats 8000000 in
set_option maxRecDepth 100000 in
theorem dict_Base.calls (k : Nat)  (r : List (S35)) (w : World) (h : dict_Base.f k  = some r) :
    Calls Try.prog 10 #[] w fun e w' => ∃ v0_ : Value, e = .returned (v0_) ∧ Kd.R k35 35 w' w.heap.size (fun _ => True) v0_ r ∧ Below w.heap.size w w' := by
  have hu35 := Try.underlying35
  have HB := Aside0.mk (Below.refl w.heap.size w)
  have H : (dict_Base.l0 k ([] : List (S35)) 0) = some r := h
  clear h
  have H' := Aside0.mk H
  clear H
  go_enter Try.func10, Try.ntmps10
  go_wp2
  go_loopg [1, 3] k (fun kq v1 v3 w' => ∃ (x1_1 : List (S35)) (x3_1 : Int), v3 = .int .i64 x3_1 ∧ Aside0 (dict_Base.l0 kq x1_1 x3_1 = some r) ∧ Aside0 (kq ≤ k) ∧ Aside0 (Kd.R k35 35 w' w.heap.size (fun _ => True) v1 x1_1) ∧ Aside0 (Below w.heap.size w w'))
  case atStart => exact ⟨(([] : List (S35))), (0), (by first | rfl | (simp; done) | (simp [*]; done)), H', ⟨Nat.le_refl _⟩, ⟨by first | exact Kd.R_nil _ _ _ _ _ | exact Kd.N_nil _ _ _ _ _ | exact Kd.V_nil _ _ _ _ _ | exact Kd.Q_nil _ _ _ _ _ | exact Kd.S_nil _ _ _ _ _⟩, ⟨by repeat (first | (with_reducible first | exact HB.out | apply below_alloc | apply pw_below_drewN | apply below_drew1) | exact HB.out)⟩⟩
  case round =>
    clear H'
    obtain ⟨x1_1, x3_1, rfl, HA, HK1, HO_1, HB⟩ := hrel
    cases gk with
    | zero => exact absurd HA.out (by simp [dict_Base.l0])
    | succ k1 =>
      have H := HA.out
      clear HA
      simp only [dict_Base.l0] at H
      by_cases c1 : x3_1 < 111
      · rw [if_pos c1] at H
        have c1b0 : decide (x3_1 < 111) = true := decide_eq_true c1
        clear c1
        replace H := Option.bind_eq_some_iff.mp H
        obtain ⟨t112, A20, H⟩ := H
        replace H : (if t112 = true then (dict_Base.l0 k1 x1_1 (wrap64 (x3_1 + 1))) else ((op_Name.f x3_1).bind fun t113 => (if x1_1.length < 2513169434916 then (dict_Base.l0 k1 (x1_1 ++ [(⟨t113, false, 0, x3_1, (⟨0, 0⟩ : S33)⟩ : S35)]) (wrap64 (x3_1 + 1))) else (none)))) = some r := H
        have A2 := Aside0.mk A20
        clear A20
        by_cases c3 : t112 = true
        · subst c3
          have H1 : (dict_Base.l0 k1 x1_1 (wrap64 (x3_1 + 1))) = some r := by rw [if_pos rfl] at H; exact H
          clear H
          have H := H1
          clear H1
          have H' := Aside0.mk H
          clear H
          go_wp2_with (first | ((with_reducible refine gate_callee (f := 13) rfl ?_); refine goesL_ (some 7) rfl rfl Try.func13 (by kernel_rfl) rfl #[.int .i64 x3_1] rfl (by (try simp only [List.map_toArray, List.map_cons, List.map_nil]); first | done | rfl | (simp only [List.length_drop, List.length_take]; rfl)) ?_; (with_reducible refine (op_Hidden.calls x3_1 true _ A2.out).mono ?_); rintro e w4 ⟨rfl, hb⟩; refine ⟨_, rfl, ?_⟩; have n0_ := Aside0.mk (Kd.R_below (by (with_reducible repeat (first | apply Kd.R_alloc | apply Kd.R_drewN | apply Kd.R_drew)); exact HO_1.out) hb); have n1_ := Aside0.mk (below_step (by repeat (first | (with_reducible first | exact HB.out | apply below_alloc | apply pw_below_drewN | apply below_drew1) | exact HB.out)) hb); clear HO_1; clear HB; have HO_1 := n0_; have HB := n1_; clear n0_ n1_; (try clear hb); (try clear hb2); (try clear hk); (try clear hi)))
          go_roundg k1
          case measure => have := HK1.out; omega
          case rel => exact ⟨(x1_1), (wrap64 (x3_1 + 1)), (by first | rfl | (simp; done) | (simp [*]; done)), H', ⟨by have := HK1.out; omega⟩, ⟨by (with_reducible repeat (first | apply Kd.R_alloc | apply Kd.R_drewN | apply Kd.R_drew)); exact HO_1.out⟩, ⟨by repeat (first | (with_reducible first | exact HB.out | apply below_alloc | apply pw_below_drewN | apply below_drew1) | exact HB.out)⟩⟩
        · replace c3 := Bool.eq_false_iff.mpr c3
          subst c3
          have H1 : ((op_Name.f x3_1).bind fun t113 => (if x1_1.length < 2513169434916 then (dict_Base.l0 k1 (x1_1 ++ [(⟨t113, false, 0, x3_1, (⟨0, 0⟩ : S33)⟩ : S35)]) (wrap64 (x3_1 + 1))) else (none))) = some r := by rw [if_neg (show ¬ (false = true) by decide)] at H; exact H
          clear H
          have H := H1
          clear H1
          replace H := Option.bind_eq_some_iff.mp H
          obtain ⟨t113, A50, H⟩ := H
          replace H : (if x1_1.length < 2513169434916 then (dict_Base.l0 k1 (x1_1 ++ [(⟨t113, false, 0, x3_1, (⟨0, 0⟩ : S33)⟩ : S35)]) (wrap64 (x3_1 + 1))) else (none)) = some r := H
          have A5 := Aside0.mk A50
          clear A50
          by_cases c6 : x1_1.length < 2513169434916
          · rw [if_pos c6] at H
            have LMc6 := Aside0.mk c6
            clear c6
            obtain ⟨y114, hy114⟩ : ∃ y_ : List (S35), y_ = (x1_1 ++ [(⟨t113, false, 0, x3_1, (⟨0, 0⟩ : S33)⟩ : S35)]) := ⟨_, rfl⟩
            replace H : (dict_Base.l0 k1 y114 (wrap64 (x3_1 + 1))) = some r := by first | (rw [hy114]; with_reducible exact H) | (have H2_ := (Option.bind_some _ _).symm.trans H; rw [hy114]; with_reducible exact H2_) | (have H2_ := (Option.bind_some _ _).symm.trans H; with_reducible exact H2_) | with_reducible exact H | (rw [hy114]; exact H) | exact H
            have Ny114 := Aside0.mk hy114
            clear hy114
            have H' := Aside0.mk H
            clear H
            go_wp2_with (first | ((with_reducible refine gate_callee (f := 13) rfl ?_); refine goesL_ (some 7) rfl rfl Try.func13 (by kernel_rfl) rfl #[.int .i64 x3_1] rfl (by (try simp only [List.map_toArray, List.map_cons, List.map_nil]); first | done | rfl | (simp only [List.length_drop, List.length_take]; rfl)) ?_; (with_reducible refine (op_Hidden.calls x3_1 false _ A2.out).mono ?_); rintro e w7 ⟨rfl, hb⟩; refine ⟨_, rfl, ?_⟩; have n0_ := Aside0.mk (Kd.R_below (by (with_reducible repeat (first | apply Kd.R_alloc | apply Kd.R_drewN | apply Kd.R_drew)); exact HO_1.out) hb); have n1_ := Aside0.mk (below_step (by repeat (first | (with_reducible first | exact HB.out | apply below_alloc | apply pw_below_drewN | apply below_drew1) | exact HB.out)) hb); clear HO_1; clear HB; have HO_1 := n0_; have HB := n1_; clear n0_ n1_; (try clear hb); (try clear hb2); (try clear hk); (try clear hi)) | ((with_reducible refine gate_callee (f := 12) rfl ?_); refine goesL_ (some 11) rfl rfl Try.func12 (by kernel_rfl) rfl #[.int .i64 x3_1] rfl (by (try simp only [List.map_toArray, List.map_cons, List.map_nil]); first | done | rfl | (simp only [List.length_drop, List.length_take]; rfl)) ?_; (with_reducible refine (op_Name.calls x3_1 t113 _ A5.out).mono ?_); rintro e w8 ⟨rfl, hb⟩; refine ⟨_, rfl, ?_⟩; have n0_ := Aside0.mk (Kd.R_below (by (with_reducible repeat (first | apply Kd.R_alloc | apply Kd.R_drewN | apply Kd.R_drew)); exact HO_1.out) hb); have n1_ := Aside0.mk (below_step (by repeat (first | (with_reducible first | exact HB.out | apply below_alloc | apply pw_below_drewN | apply below_drew1) | exact HB.out)) hb); clear HO_1; clear HB; have HO_1 := n0_; have HB := n1_; clear n0_ n1_; (try clear hb); (try clear hb2); (try clear hk); (try clear hi)) | ((with_reducible refine gate_builtin (b := .append) (xs := #[.tmp 9, .tmp 14]) rfl ?_); at_builtin; refine Kd.R_append k35 (w0 := w) w.heap.size rfl (.tmp 9) (.tmp 14) 23 35 (.agg #[(.string ⟨#[]⟩), (.bool false), (.int .i64 0), (.int .i64 0), (.int .i64 0), (.int .i64 0)]) 56 rfl Try.underlying23 info35 rfl (by decide) (by omega) u1 x1_1 (⟨t113, false, 0, x3_1, (⟨0, 0⟩ : S33)⟩ : S35) [.string t113, .bool false, .int .i64 0, .int .i64 x3_1, .int .i64 0, .int .i64 0] (fun _ => True) (fun _ => False) rfl rfl ?aP (fun _ hk => hk.elim) ?aF ?aO ?aB ?aS ?aL ?_; (case aP => exact k35_mkM _ _ _ (⟨t113, false, 0, x3_1, (⟨0, 0⟩ : S33)⟩ : S35)); (case aB => exact (by repeat (first | (with_reducible first | exact HB.out | apply below_alloc | apply pw_below_drewN | apply below_drew1) | exact HB.out))); (case aF => exact (fun _ _ => trivial)); (case aO => exact (by (with_reducible repeat (first | apply Kd.R_alloc | apply Kd.R_drewN | apply Kd.R_drew)); exact HO_1.out)); (case aS => exact (below_size (by repeat (first | (with_reducible first | exact HB.out | apply below_alloc | apply pw_below_drewN | apply below_drew1) | exact HB.out)))); (case aL => have := LMc6.out; omega); intro v115 w9 ho hb hg hat; rw [← Ny114.out] at ho; have n0_ := Aside0.mk (hb); have n1_ := Aside0.mk (ho); clear HB; clear HO_1; have HB := n0_; have HO116 := n1_; clear n0_ n1_; clear ho hb hg hat))
            go_roundg k1
            case measure => have := HK1.out; omega
            case rel => exact ⟨(y114), (wrap64 (x3_1 + 1)), (by first | rfl | (simp; done) | (simp [*]; done)), H', ⟨by have := HK1.out; omega⟩, ⟨by (with_reducible repeat (first | apply Kd.R_alloc | apply Kd.R_drewN | apply Kd.R_drew)); exact HO116.out⟩, ⟨by repeat (first | (with_reducible first | exact HB.out | apply below_alloc | apply pw_below_drewN | apply below_drew1) | exact HB.out)⟩⟩
          · rw [if_neg c6] at H
            exact absurd H (by simp)
      · rw [if_neg c1] at H
        have c1b0 : decide (x3_1 < 111) = false := decide_eq_false c1
        clear c1
        obtain rfl := Option.some.inj H
        go_wp2
        go_ret
        exact ⟨_, by first | rfl | (simp [errW_none, errW_some] <;> rfl) | (simp [*, errW_none, errW_some] <;> rfl), by (with_reducible repeat (first | apply Kd.R_alloc | apply Kd.R_drewN | apply Kd.R_drew)); exact HO_1.out, by repeat (first | (with_reducible first | exact HB.out | apply below_alloc | apply pw_below_drewN | apply below_drew1) | exact HB.out)⟩

/-! ### scan_capital: function 41 -/
def scan_capital.f (a0 : Int) : Option (Int) := if a0 ≥ 97 then (if a0 ≤ 122 then (some ((((a0 - 97) % 256) + 65) % 256)) else (some a0)) else (some a0)
set_option maxHeartbeats 8000000 in
set_option maxRecDepth 100000 in
theorem scan_capital.calls (a0 : Int) (r : Int) (w : World) (h : scan_capital.f a0 = some r) :
    Calls Try.prog 41 #[.int .u8 a0] w fun e w' => e = .returned (.int .u8 r) ∧ Drawn0 w w' := by
  have H : (if a0 ≥ 97 then (if a0 ≤ 122 then (some ((((a0 - 97) % 256) + 65) % 256)) else (some a0)) else (some a0)) = some r := h
  clear h
  by_cases c2 : a0 ≥ 97
  · rw [if_pos c2] at H
    have c2b0 : decide (97 ≤ a0) = true := decide_eq_true c2
    clear c2
    by_cases c3 : a0 ≤ 122
    · rw [if_pos c3] at H
      have c3b0 : decide (a0 ≤ 122) = true := decide_eq_true c3
      clear c3
      obtain rfl := Option.some.inj H
      go_enter Try.func41, Try.ntmps41
      go_wp2
      go_ret
      exact ⟨by first | rfl | (simp; done) | (simp [*]; done), by repeat (first | exact Drawn0.refl _ | apply Drawn0.step)⟩
    · rw [if_neg c3] at H
      have c3b0 : decide (a0 ≤ 122) = false := decide_eq_false c3
      clear c3
      obtain rfl := Option.some.inj H
      go_enter Try.func41, Try.ntmps41
      go_wp2
      go_ret
      exact ⟨by first | rfl | (simp; done) | (simp [*]; done), by repeat (first | exact Drawn0.refl _ | apply Drawn0.step)⟩
  · rw [if_neg c2] at H
    have c2b0 : decide (97 ≤ a0) = false := decide_eq_false c2
    clear c2
    obtain rfl := Option.some.inj H
    go_enter Try.func41, Try.ntmps41
    go_wp2
    go_ret
    exact ⟨by first | rfl | (simp; done) | (simp [*]; done), by repeat (first | exact Drawn0.refl _ | apply Drawn0.step)⟩

/-! ### scan_Upper: function 22 -/
def scan_Upper.l1 : Nat → ByteArray → List Int → Int → Option (ByteArray)
  | 0, _, _, _ => none
  | k + 1, x0, x6, x7 => if x7 < (x0.size : Int) then (if 0 ≤ x7 then ((scan_capital.f (bt x0 x7)).bind fun t117 => (if x6.length < 140737488355328 then (scan_Upper.l1 k x0 (x6 ++ [t117]) (wrap64 (x7 + 1))) else (none))) else (none)) else (some (strOfNums x6))
def scan_Upper.f (k : Nat) (a0 : ByteArray) : Option (ByteArray) := scan_Upper.l1 k a0 ([] : List Int) 0
theorem scan_Upper.mono_l : ∀ k, (∀ y0 y1 y2, LeO (scan_Upper.l1 k y0 y1 y2) (scan_Upper.l1 (k + 1) y0 y1 y2))
  | 0 => fun _ _ _ r h => by simp [scan_Upper.l1] at h
  | k + 1 => by
    have ih0 := scan_Upper.mono_l k
    · intro y0 y1 y2
      unfold scan_Upper.l1
      repeat' first
      | (with_reducible exact ih0 _ _ _)
      | (with_reducible exact LeO.refl _)
      | (with_reducible exact LeO.none _)
      | (with_reducible refine LeO.ite ?_ ?_)
      | (with_reducible refine LeO.bind ?_ (fun _ => ?_))
      | exact ih0 _ _ _
      | exact LeO.none _
      | refine LeO.ite ?_ ?_
      | refine LeO.bind ?_ (fun _ => ?_)
theorem scan_Upper.mono : ∀ a0 k, LeO (scan_Upper.f k a0) (scan_Upper.f (k + 1) a0) := by
  intro a0 k
  have ih0 := scan_Upper.mono_l k
  unfold scan_Upper.f
  repeat' first
      | (with_reducible exact ih0 _ _ _)
      | (with_reducible exact LeO.refl _)
      | (with_reducible exact LeO.none _)
      | (with_reducible refine LeO.ite ?_ ?_)
      | (with_reducible refine LeO.bind ?_ (fun _ => ?_))
      | exact ih0 _ _ _
      | exact LeO.none _
      | refine LeO.ite ?_ ?_
      | refine LeO.bind ?_ (fun _ => ?_)
theorem scan_Upper_is : ∀ (k : Nat) (s : ByteArray) (acc : List Int) (i : Int) (r : ByteArray), (acc.length : Int) = i → i ≤ s.size → acc.length ≤ 140737488355328 →
    scan_Upper.l1 k s acc i = some r → s.size ≤ 140737488355328 ∧ r = strOfNums (acc ++ ((Go.Proofs.YtbgihgkobojfaaaH.ints s).drop i.toNat).map Go.Proofs.YtbgihgkobojfaaaH.up1)
  | 0, _, _, _, _, _, _, _, h => by simp [scan_Upper.l1] at h
  | k + 1, s, acc, i, r, h0, h1, hx, h => by
    have hil := Go.Proofs.YtbgihgkobojfaaaH.ints_length s
    simp only [scan_Upper.l1] at h
    by_cases c : i < (s.size : Int)
    · rw [if_pos c, if_pos (by omega)] at h
      have hb := bt_range s i
      have hcap : scan_capital.f (bt s i) = some (Go.Proofs.YtbgihgkobojfaaaH.up1 (bt s i)) := by
        unfold scan_capital.f Go.Proofs.YtbgihgkobojfaaaH.up1
        by_cases a : bt s i ≥ 97
        · rw [if_pos a]
          by_cases b : bt s i ≤ 122
          · rw [if_pos b, if_pos ⟨a, b⟩]; congr 1; omega
          · rw [if_neg b, if_neg (fun hh => b hh.2)]
        · rw [if_neg a, if_neg (fun hh => a hh.1)]
      rw [hcap, Option.bind_some] at h
      by_cases d : acc.length < 140737488355328
      · rw [if_pos d, show wrap64 (i + 1) = i + 1 by unfold wrap64; omega] at h
        obtain ⟨h3, h2⟩ := scan_Upper_is k s _ (i + 1) r (by simp; omega) (by omega) (by simp; omega) h
        have hlt : i.toNat < (Go.Proofs.YtbgihgkobojfaaaH.ints s).length := by omega
        have hg : (Go.Proofs.YtbgihgkobojfaaaH.ints s)[i.toNat] = bt s i := by
          have := Go.Proofs.YtbgihgkobojfaaaH.ints_get s i.toNat (by omega)
          rw [List.getD_eq_getElem?_getD, List.getElem?_eq_getElem hlt] at this
          rw [show ((i.toNat : Nat) : Int) = i by omega] at this
          simpa using this
        refine ⟨h3, ?_⟩
        rw [h2, List.drop_eq_getElem_cons hlt, hg, show (i + 1).toNat = i.toNat + 1 by omega]
        simp
      · rw [if_neg d] at h; cases h
    · rw [if_neg c] at h
      cases h
      rw [List.drop_eq_nil_of_le (by omega)]
      exact ⟨by omega, by simp⟩
theorem scan_capital_is (c : Int) (w : World) (h0 : 0 ≤ c) (h1 : c ≤ 255) :
    Calls Try.prog 41 #[.int .u8 c] w fun e w' => e = .returned (.int .u8 (Go.Proofs.YtbgihgkobojfaaaH.up1 c)) ∧ Drawn0 w w' :=
  scan_capital.calls c _ w (by
    unfold scan_capital.f Go.Proofs.YtbgihgkobojfaaaH.up1
    by_cases a : c ≥ 97
    · rw [if_pos a]
      by_cases b : c ≤ 122
      · rw [if_pos b, if_pos ⟨a, b⟩]; congr 1; omega
      · rw [if_neg b, if_neg (fun hh => b hh.2)]
    · rw [if_neg a, if_neg (fun hh => a hh.1)])
set_option maxHeartbeats 8000000 in
set_option maxRecDepth 100000 in
theorem scan_Upper.calls (k : Nat) (a0 : ByteArray) (r : ByteArray) (w : World) (h : scan_Upper.f k a0 = some r) :
    Calls Try.prog 22 #[.string a0] w fun e w' => e = .returned (.string r) ∧ Below w.heap.size w w' := by
  obtain ⟨hsz, hr⟩ := scan_Upper_is k a0 [] 0 r (by simp) (by omega) (by simp) h
  clear h
  simp only [List.nil_append, Int.toNat_zero, List.drop_zero] at hr
  obtain ⟨xs, hxs⟩ : ∃ xs, xs = Go.Proofs.YtbgihgkobojfaaaH.ints a0 := ⟨_, rfl⟩
  rw [← hxs] at hr
  subst hr
  have Hsz := Aside0.mk hsz
  have hil := Aside0.mk (Go.Proofs.YtbgihgkobojfaaaH.ints_length a0)
  clear hsz
  have Hxs := Aside0.mk hxs
  clear hxs
  have hconv : ∀ W : World, (convert 9 73 (.string a0)).run Try.prog W = .ok (.slice (some ⟨W.heap.size, 0, none⟩) a0.size (grownCap W a0.size 0 5)) (Lib.bytesWorld W 5 a0) := fun W => Lib.run_convert_string_bytes W 9 73 5 a0 Try.underlying9 Try.underlying73 Try.underlying5
  go_enter Try.func22, Try.ntmps22
  go_wp2
  clear hconv
  obtain ⟨cap, hcap⟩ : ∃ c, c = grownCap w a0.size 0 5 := ⟨_, rfl⟩
  rw [← hcap]
  clear hcap
  have hxs := Hxs.out
  clear Hxs
  have hrow := Aside0.mk (show Go.Proofs.YtbgihgkobojfaaaH.BRow (Lib.bytesWorld w 5 a0) w.heap.size (Go.Proofs.YtbgihgkobojfaaaH.upTo xs 0) from by rw [Go.Proofs.YtbgihgkobojfaaaH.upTo_zero, hxs]; exact Go.Proofs.YtbgihgkobojfaaaH.conv_row w _ a0)
  have hbel := Aside0.mk (Go.Proofs.YtbgihgkobojfaaaH.conv_below w 5 a0)
  rw [← hxs] at hil
  have hrng := Aside0.mk (show ∀ i : Nat, i < xs.length → 0 ≤ xs.getD i 0 ∧ xs.getD i 0 ≤ 255 from by
    intro i hi
    rw [hxs, Go.Proofs.YtbgihgkobojfaaaH.ints_length] at hi
    rw [hxs, Go.Proofs.YtbgihgkobojfaaaH.ints_get a0 i hi]
    exact bt_range a0 i)
  clear hxs
  generalize Lib.bytesWorld w 5 a0 = w1 at hrow hbel ⊢
  go_loopg [10] a0.size (fun g v10 w' => ∃ (x : Int), 0 ≤ x ∧ Aside0 ((g : Int) + x = (a0.size : Int)) ∧ v10 = .int .i64 x ∧ Aside0 (Go.Proofs.YtbgihgkobojfaaaH.BRow w' w.heap.size (Go.Proofs.YtbgihgkobojfaaaH.upTo xs x.toNat)) ∧ Aside0 (Below w.heap.size w w'))
  case atStart => exact ⟨0, by omega, ⟨by omega⟩, (by first | rfl | (simp; done)), hrow, hbel⟩
  case round =>
    clear hrow hbel
    obtain ⟨x, hx0, hg, rfl, hrow, hbel⟩ := hrel
    by_cases hlt : x < (a0.size : Int)
    · have c0 : decide (x < (a0.size : Int)) = true := decide_eq_true hlt
      have hle : xs.length = a0.size := hil.out
      have hsz := Hsz.out
      have hwx : wrap64 (x + 1) = x + 1 := by unfold wrap64; omega
      have hx1 : x.toNat < (Go.Proofs.YtbgihgkobojfaaaH.upTo xs x.toNat).length := by rw [Go.Proofs.YtbgihgkobojfaaaH.upTo_length]; omega
      have hx2 : x.toNat < xs.length := by omega
      obtain ⟨hc, hf⟩ := hrow.out x.toNat hx1
      rw [Go.Proofs.YtbgihgkobojfaaaH.upTo_get xs x.toNat hx2] at hc
      obtain ⟨hc0, hc1⟩ := hrng.out x.toNat hx2
      have hput := Go.Proofs.YtbgihgkobojfaaaH.BRow.put hrow.out x.toNat hx1
      have hnext := Go.Proofs.YtbgihgkobojfaaaH.upTo_succ xs x.toNat hx2
      generalize xs.getD x.toNat 0 = c at hc hc0 hc1 hnext
      have Hput := Aside0.mk (show Go.Proofs.YtbgihgkobojfaaaH.BRow (wr.setCell ⟨w.heap.size, x.toNat, none⟩ (.int .u8 (Go.Proofs.YtbgihgkobojfaaaH.up1 c))) w.heap.size (Go.Proofs.YtbgihgkobojfaaaH.upTo xs (x + 1).toNat) from by
        have := hput (Go.Proofs.YtbgihgkobojfaaaH.up1 c); rw [hnext] at this; rwa [show (x + 1).toNat = x.toNat + 1 by omega])
      have Hwx := Aside0.mk hwx
      have hx0' := eq_true hx0
      have hlt' := eq_true hlt
      clear hput hnext hx1 hx2 hle hsz hwx hx0 hlt
      go_wp2_with (go_at_call 41; (with_reducible refine (scan_capital_is c _ hc0 hc1).mono ?_); rintro e w2 ⟨rfl, ⟨nd, rfl⟩⟩)
      cases gk with
      | zero => exact absurd hg.out (by have := of_eq_true hlt'; omega)
      | succ k1 =>
        go_roundg k1
        case measure => omega
        case rel => exact ⟨_, (by have h1_ := Hwx.out; have h2_ := of_eq_true hx0'; show 0 ≤ wrap64 (x + 1); omega), ⟨by have := hg.out; have h1_ := Hwx.out; show (k1 : Int) + wrap64 (x + 1) = _; omega⟩, (by first | rfl | (simp; done) | (simp [*]; done)), ⟨by have h1_ := Hwx.out; rw [h1_]; exact Go.Proofs.YtbgihgkobojfaaaH.BRow.drewN Hput.out nd⟩, ⟨below_set (pw_below_drewN hbel.out nd) (Nat.le_refl _)⟩⟩
    · have c0 : decide (x < (a0.size : Int)) = false := decide_eq_false hlt
      have hle : xs.length = a0.size := hil.out
      have hrow2 := hrow.out
      rw [Go.Proofs.YtbgihgkobojfaaaH.upTo_all xs x.toNat (by omega)] at hrow2
      have hl3 : (xs.map Go.Proofs.YtbgihgkobojfaaaH.up1).length = a0.size := by rw [List.length_map]; exact hle
      have hstr := Go.Proofs.YtbgihgkobojfaaaH.BRow.str (P := Try.prog) hrow2 73 9 5 Try.underlying73 Try.underlying5 Try.underlying9 cap
      rw [hl3] at hstr
      clear hrow2 hl3 hle hlt
      go_wp2
      go_ret
      exact ⟨by first | rfl | (simp; done), hbel.out⟩

-- NOT PRINTED: function 32 (dict_Entry_32)

/-! ### dict_Find: function 11 -/
def dict_Find.l0 : Nat → List (S35) → ByteArray → Int → Option (Int × Bool)
  | 0, _, _, _ => none
  | k + 1, x0, x6, x7 => if x7 ≥ 0 then (if 0 ≤ x7 then (if x7 < (x0.length : Int) then (if ((rd_T35 x0 x7).f0).toList = x6.toList then (some (x7, true)) else (dict_Find.l0 k x0 x6 (wrap64 (x7 - 1)))) else (none)) else (none)) else (some (0, false))
def dict_Find.f (k : Nat) (l0 : List (S35)) (a1 : ByteArray) : Option (Int × Bool) := (scan_Upper.f k a1).bind fun t121 => (if t121.toList = ([] : List UInt8) then (some (0, false)) else (dict_Find.l0 k l0 t121 (wrap64 ((l0.length : Int) - 1))))
theorem dict_Find.mono_l : ∀ k, (∀ y0 y1 y2, LeO (dict_Find.l0 k y0 y1 y2) (dict_Find.l0 (k + 1) y0 y1 y2))
  | 0 => fun _ _ _ r h => by simp [dict_Find.l0] at h
  | k + 1 => by
    have ih0 := dict_Find.mono_l k
    · intro y0 y1 y2
      unfold dict_Find.l0
      repeat' first
      | (with_reducible exact ih0 _ _ _)
      | (with_reducible exact scan_Upper.mono _ _)
      | (with_reducible exact LeO.refl _)
      | (with_reducible exact LeO.none _)
      | (with_reducible refine LeO.ite ?_ ?_)
      | (with_reducible refine LeO.bind ?_ (fun _ => ?_))
      | exact ih0 _ _ _
      | exact scan_Upper.mono _ _
      | exact LeO.none _
      | refine LeO.ite ?_ ?_
      | refine LeO.bind ?_ (fun _ => ?_)
theorem dict_Find.mono : ∀ a0 a1 k, LeO (dict_Find.f k a0 a1) (dict_Find.f (k + 1) a0 a1) := by
  intro a0 a1 k
  have ih0 := dict_Find.mono_l k
  unfold dict_Find.f
  repeat' first
      | (with_reducible exact ih0 _ _ _)
      | (with_reducible exact scan_Upper.mono _ _)
      | (with_reducible exact LeO.refl _)
      | (with_reducible exact LeO.none _)
      | (with_reducible refine LeO.ite ?_ ?_)
      | (with_reducible refine LeO.bind ?_ (fun _ => ?_))
      | exact ih0 _ _ _
      | exact scan_Upper.mono _ _
      | exact LeO.none _
      | refine LeO.ite ?_ ?_
      | refine LeO.bind ?_ (fun _ => ?_)
theorem dict_Find_is : ∀ (k : Nat) (l : List S35) (u : ByteArray) (x : Int) (r1 : Int) (r2 : Bool), x < 9223372036854775808 → dict_Find.l0 k l u x = some (r1, r2) →
    (r1 = 0 ∧ r2 = false ∧ ∀ j : Nat, (j : Int) ≤ x → (rd_T35 l j).f0.toList ≠ u.toList) ∨ (∃ j : Nat, (j : Int) ≤ x ∧ r1 = j ∧ r2 = true ∧ (rd_T35 l j).f0.toList = u.toList ∧ ∀ i : Nat, j < i → (i : Int) ≤ x → (rd_T35 l i).f0.toList ≠ u.toList)
  | 0, _, _, _, _, _, _, h => by simp [dict_Find.l0] at h
  | k + 1, l, u, x, r1, r2, hx, h => by
    simp only [dict_Find.l0] at h
    by_cases c : x ≥ 0
    · rw [if_pos c, if_pos c] at h
      by_cases d : x < (l.length : Int)
      · rw [if_pos d] at h
        have hxj : ((x.toNat : Nat) : Int) = x := by omega
        by_cases e : (rd_T35 l x).f0.toList = u.toList
        · rw [if_pos e] at h
          simp only [Option.some.injEq, Prod.mk.injEq] at h
          obtain ⟨rfl, rfl⟩ := h
          exact .inr ⟨x.toNat, by omega, by omega, rfl, by rw [hxj]; exact e, fun i h1 h2 => by omega⟩
        · rw [if_neg e, show wrap64 (x - 1) = x - 1 by unfold wrap64; omega] at h
          have hne : ∀ i : Nat, ((i : Int) ≤ x - 1 → (rd_T35 l i).f0.toList ≠ u.toList) → (i : Int) ≤ x → (rd_T35 l i).f0.toList ≠ u.toList := fun i hi hix => by
            by_cases hh : (i : Int) = x
            · rw [hh]; exact e
            · exact hi (by omega)
          rcases dict_Find_is k l u (x - 1) r1 r2 (by omega) h with ⟨h1, h2, h3⟩ | ⟨j, h1, h2, h3, h4, h5⟩
          · exact .inl ⟨h1, h2, fun j hj => hne j (h3 j) hj⟩
          · exact .inr ⟨j, by omega, h2, h3, h4, fun i hi hix => hne i (h5 i hi) hix⟩
      · rw [if_neg d] at h; cases h
    · rw [if_neg c] at h
      simp only [Option.some.injEq, Prod.mk.injEq] at h
      exact .inl ⟨h.1.symm, h.2.symm, fun j hj => by omega⟩
set_option maxHeartbeats 8000000 in
set_option maxRecDepth 100000 in
theorem dict_Find.calls (k : Nat) (A0 : Option Addr) (c0 : Nat) (l0 : List (S35)) (a1 : ByteArray) (r1 : Int) (r2 : Bool) (w : World) (hr0 : Kd.C k35 w A0 l0.length l0) (hc0 : l0.length ≤ c0) (h : dict_Find.f k l0 a1 = some (r1, r2)) :
    Calls Try.prog 11 #[.slice A0 l0.length c0, .string a1] w fun e w' => e = .returned (.tuple #[.int .i64 r1, .bool r2]) ∧ Below w.heap.size w w' := by
  have HR0 := Aside0.mk hr0
  have HC0 := Aside0.mk hc0
  clear hr0 hc0
  have HB := Aside0.mk (Below.refl w.heap.size w)
  have H : ((scan_Upper.f k a1).bind fun t121 => (if t121.toList = ([] : List UInt8) then (some (0, false)) else (dict_Find.l0 k l0 t121 (wrap64 ((l0.length : Int) - 1))))) = some (r1, r2) := h
  clear h
  replace H := Option.bind_eq_some_iff.mp H
  obtain ⟨t121, A30, H⟩ := H
  replace H : (if t121.toList = ([] : List UInt8) then (some (0, false)) else (dict_Find.l0 k l0 t121 (wrap64 ((l0.length : Int) - 1)))) = some (r1, r2) := H
  have A3 := Aside0.mk A30
  clear A30
  by_cases c4 : t121.toList = ([] : List UInt8)
  · rw [if_pos c4] at H
    have c4b0 : (t121.toList == ([] : List UInt8)) = true := beq_iff_eq.mpr c4
    have c4b1 : (t121.toList != ([] : List UInt8)) = false := bne_eq_false_iff_eq.mpr c4
    clear c4
    simp only [Option.some.injEq, Prod.mk.injEq] at H
    obtain ⟨rfl, rfl⟩ := H
    go_enter Try.func11, Try.ntmps11
    go_wp2_with (go_at_call 22; (with_reducible refine (scan_Upper.calls k a1 t121 _ A3.out).mono ?_); rintro e w5 ⟨rfl, hb⟩; have bR1 := ((Boxed.new w 3 (.int .i64 0)).alloc (.cells #[.bool false] 4)).below hb; have bR2 := (Boxed.new (w.alloc (.cells #[.int .i64 0] 3)) 4 (.bool false)).below hb; simp only [World.size_alloc] at bR2; replace bR1 := bR1.alloc (.cells #[.string t121] 9); replace bR2 := bR2.alloc (.cells #[.string t121] 9); have cA := bR1.cell; have fA := bR1.frozen; have cB := bR2.cell; have fB := bR2.frozen; replace hb := Aside0.mk hb; replace bR1 := Aside0.mk bR1; replace bR2 := Aside0.mk bR2)
    have bA2 := (bR1.out.set (.int .i64 0)).other (B' := w.heap.size + 1) (by omega) (.bool false)
    have bB2 := (bR2.out.other (B' := w.heap.size) (by omega) (.int .i64 0)).set (.bool false)
    have hc5 := bA2.cell
    have hc6 := bB2.cell
    refine bodyPost_ret (v := .tuple #[.int .i64 0, .bool false]) (by simp [results, Try.f11, go_sem, hc5, hc6]) rfl ?_
    have hB1 : Below w.heap.size w w5 := (((Below.refl _ w).alloc (Nat.le_refl _) _).alloc (by simp) _).trans (hb.out.mono (by simp; omega))
    exact ⟨rfl, ((hB1.alloc hB1.size _).setCell (p := ⟨w.heap.size, 0, none⟩) (Nat.le_refl _) _).setCell (p := ⟨w.heap.size + 1, 0, none⟩) (by simp) _⟩
  · rw [if_neg c4] at H
    have hw0 : wrap64 ((l0.length : Int) - 1) < 9223372036854775808 := by unfold wrap64; omega
    have hw1 : wrap64 ((l0.length : Int) - 1) < (l0.length : Int) := by unfold wrap64; omega
    have hpure := dict_Find_is k l0 t121 _ r1 r2 hw0 H
    obtain ⟨N0, hN0⟩ : ∃ N0, N0 = (wrap64 ((l0.length : Int) - 1) + 1).toNat := ⟨_, rfl⟩
    have hA : ∀ j : Nat, j < l0.length → A0 = some (A0.getD ⟨0, 0, none⟩) := fun j hj => by
      obtain ⟨ad, e, _⟩ := at_T35 HR0.out (j : Int) (by omega) (by omega)
      rw [e]; rfl
    refine (callsIn_wide (n := 3)).1 ((Go.Proofs.YtbgihgkobojfaaaF.Find_in Fence.wide 3 (fun _ => trivial) rfl (Nat.le_refl _) l0.length c0 N0 A0 (A0.getD ⟨0, 0, none⟩)
      (fun j => ⟨(rd_T35 l0 j).f0, (rd_T35 l0 j).f1, (rd_T35 l0 j).f2, (rd_T35 l0 j).f3, (rd_T35 l0 j).f4.f0, (rd_T35 l0 j).f4.f1⟩) a1 t121 c4
      (by omega) (by omega) (by omega) (fun h => hA 0 (by omega)) w ?_ (fun W => callsIn_wide.2 (scan_Upper.calls k a1 t121 W A3.out))).mono ?_)
    · intro j hj
      obtain ⟨ad, e, h0, h1, h2, h3, h4, h5⟩ := at_T35 HR0.out (j : Int) (by omega) (by omega)
      subst e
      simp only [Int.toNat_natCast] at h0 h1 h2 h3 h4 h5
      exact ⟨h0, h1, h2, h3, h4, h5⟩
    · rintro e W' ⟨h, hB⟩
      refine ⟨?_, hB⟩
      rcases h with ⟨rfl, h⟩ | ⟨j, hj, rfl, h1, h2⟩
      · rcases hpure with ⟨rfl, rfl, _⟩ | ⟨j, hj, _, _, h4, _⟩
        · rfl
        · exact absurd h4 (h j (by omega))
      · rcases hpure with ⟨_, _, h3⟩ | ⟨i, hi, rfl, rfl, h4, h5⟩
        · exact absurd h1 (h3 j (by omega))
        · obtain rfl : i = j := by
            rcases Nat.lt_trichotomy i j with hh | hh | hh
            · exact absurd h1 (h5 j hh (by omega))
            · exact hh
            · exact absurd h4 (h2 i hh (by omega))
          rfl

/-! ### dict_within: function 36 -/
def dict_within.f (a0 : Int) (a1 : Int) : Option (Bool) := if a0 ≥ 0 then (some (decide (a0 ≤ a1))) else (some false)
set_option maxHeartbeats 8000000 in
set_option maxRecDepth 100000 in
theorem dict_within.calls (a0 : Int) (a1 : Int) (r : Bool) (w : World) (h : dict_within.f a0 a1 = some r) :
    Calls Try.prog 36 #[.int .i64 a0, .int .i64 a1] w fun e w' => e = .returned (.bool r) ∧ Drawn0 w w' := by
  have H : (if a0 ≥ 0 then (some (decide (a0 ≤ a1))) else (some false)) = some r := h
  clear h
  by_cases c3 : a0 ≥ 0
  · rw [if_pos c3] at H
    have c3b0 : decide (0 ≤ a0) = true := decide_eq_true c3
    clear c3
    obtain rfl := Option.some.inj H
    go_enter Try.func36, Try.ntmps36
    go_wp2
    go_ret
    exact ⟨by first | rfl | (simp; done) | (simp [*]; done), by repeat (first | exact Drawn0.refl _ | apply Drawn0.step)⟩
  · rw [if_neg c3] at H
    have c3b0 : decide (0 ≤ a0) = false := decide_eq_false c3
    clear c3
    obtain rfl := Option.some.inj H
    go_enter Try.func36, Try.ntmps36
    go_wp2
    go_ret
    exact ⟨by first | rfl | (simp; done) | (simp [*]; done), by repeat (first | exact Drawn0.refl _ | apply Drawn0.step)⟩

/-! ### dict_Addr: function 29 -/
def dict_Addr.f (a0_0 : Int) (a0_1 : Int) : Option (Int) := (dict_within.f a0_0 1000000).bind fun t124 => (if t124 = true then ((dict_within.f a0_1 4095).bind fun t125 => (if t125 = true then (some (wrap64 ((wrap64 (a0_0 * 4096)) + a0_1))) else (some (-1)))) else (some (-1)))
set_option maxHeartbeats 8000000 in
set_option maxRecDepth 100000 in
theorem dict_Addr.calls (a0_0 : Int) (a0_1 : Int) (r : Int) (w : World) (h : dict_Addr.f a0_0 a0_1 = some r) :
    Calls Try.prog 29 #[.agg #[.int .i64 a0_0, .int .i64 a0_1]] w fun e w' => e = .returned (.int .i64 r) ∧ Below w.heap.size w w' := by
  have hu33 := Try.underlying33
  have HB := Aside0.mk (Below.refl w.heap.size w)
  have H : ((dict_within.f a0_0 1000000).bind fun t124 => (if t124 = true then ((dict_within.f a0_1 4095).bind fun t125 => (if t125 = true then (some (wrap64 ((wrap64 (a0_0 * 4096)) + a0_1))) else (some (-1)))) else (some (-1)))) = some r := h
  clear h
  replace H := Option.bind_eq_some_iff.mp H
  obtain ⟨t124, A20, H⟩ := H
  replace H : (if t124 = true then ((dict_within.f a0_1 4095).bind fun t125 => (if t125 = true then (some (wrap64 ((wrap64 (a0_0 * 4096)) + a0_1))) else (some (-1)))) else (some (-1))) = some r := H
  have A2 := Aside0.mk A20
  clear A20
  by_cases c3 : t124 = true
  · subst c3
    have H1 : ((dict_within.f a0_1 4095).bind fun t125 => (if t125 = true then (some (wrap64 ((wrap64 (a0_0 * 4096)) + a0_1))) else (some (-1)))) = some r := by rw [if_pos rfl] at H; exact H
    clear H
    have H := H1
    clear H1
    replace H := Option.bind_eq_some_iff.mp H
    obtain ⟨t125, A40, H⟩ := H
    replace H : (if t125 = true then (some (wrap64 ((wrap64 (a0_0 * 4096)) + a0_1))) else (some (-1))) = some r := H
    have A4 := Aside0.mk A40
    clear A40
    by_cases c5 : t125 = true
    · subst c5
      have H1 : (some (wrap64 ((wrap64 (a0_0 * 4096)) + a0_1))) = some r := by rw [if_pos rfl] at H; exact H
      clear H
      have H := H1
      clear H1
      obtain rfl := Option.some.inj H
      go_enter Try.func29, Try.ntmps29
      go_wp2_with (first | ((with_reducible refine gate_dst (N := 1) rfl ?_); refine box_event ?hg (N := 1) ?hd (cs := #[.int .i64 a0_0, .int .i64 a0_1]) (t := 33) ?hr ?_; (case hd => rfl); (case hg => rfl); (case hr => first | (go_simp; done) | (go_simp; rfl)); intro gb123 hg w6 hbox hb; have n0_ := Aside0.mk (below_step (by repeat (first | (with_reducible first | exact HB.out | apply below_alloc | apply pw_below_drewN | apply below_drew1) | exact HB.out)) hb); have n1_ := Aside0.mk (hbox); have n2_ := Aside0.mk ((by rw [hg]; exact (below_size (by repeat (first | (with_reducible first | exact HB.out | apply below_alloc | apply pw_below_drewN | apply below_drew1) | exact HB.out))) : w.heap.size ≤ gb123)); have n3_ := Aside0.mk ((by rw [hg]; exact (below_size (by repeat (first | (with_reducible first | exact HB.out | apply below_alloc | apply pw_below_drewN | apply below_drew1) | exact HB.out))) : w.heap.size ≤ gb123)); clear HB; have HB := n0_; have BK123 := n1_; have GW123 := n2_; have GE123 := n3_; clear n0_ n1_ n2_ n3_; clear hb hbox hg; have hcz7_0 : w6.cell? ⟨gb123, 0, none⟩ = some (.int .i64 a0_0) := (blk_cell BK123.out 0).trans rfl; have hcz7_1 : w6.cell? ⟨gb123, 1, none⟩ = some (.int .i64 a0_1) := (blk_cell BK123.out 1).trans rfl; have hfz7_0 := blk_frozen BK123.out 0; have hfz7_1 := blk_frozen BK123.out 1) | ((with_reducible refine gate_callee (f := 36) rfl ?_); refine goesL_ (some 5) rfl rfl Try.func36 (by kernel_rfl) rfl #[.int .i64 a0_0, .int .i64 1000000] rfl (by (try simp only [List.map_toArray, List.map_cons, List.map_nil]); first | done | rfl | (simp only [List.length_drop, List.length_take]; rfl)) ?_; (with_reducible refine (dict_within.calls a0_0 1000000 true _ A2.out).mono ?_); rintro e w' ⟨rfl, ⟨nd, rfl⟩⟩; refine ⟨_, rfl, ?_⟩) | (go_at_call 36; (with_reducible refine (dict_within.calls a0_1 4095 true _ A4.out).mono ?_); rintro e w' ⟨rfl, ⟨nd, rfl⟩⟩))
      go_ret
      exact ⟨by first | rfl | (simp [errW_none, errW_some] <;> rfl) | (simp [*, errW_none, errW_some] <;> rfl), by repeat (first | (with_reducible first | exact HB.out | apply below_alloc | apply pw_below_drewN | apply below_drew1 | refine below_set ?_ GE123.out) | exact HB.out)⟩
    · replace c5 := Bool.eq_false_iff.mpr c5
      subst c5
      have H1 : (some (-1)) = some r := by rw [if_neg (show ¬ (false = true) by decide)] at H; exact H
      clear H
      have H := H1
      clear H1
      obtain rfl := Option.some.inj H
      go_enter Try.func29, Try.ntmps29
      go_wp2_with (first | ((with_reducible refine gate_dst (N := 1) rfl ?_); refine box_event ?hg (N := 1) ?hd (cs := #[.int .i64 a0_0, .int .i64 a0_1]) (t := 33) ?hr ?_; (case hd => rfl); (case hg => rfl); (case hr => first | (go_simp; done) | (go_simp; rfl)); intro gb123 hg w8 hbox hb; have n0_ := Aside0.mk (below_step (by repeat (first | (with_reducible first | exact HB.out | apply below_alloc | apply pw_below_drewN | apply below_drew1) | exact HB.out)) hb); have n1_ := Aside0.mk (hbox); have n2_ := Aside0.mk ((by rw [hg]; exact (below_size (by repeat (first | (with_reducible first | exact HB.out | apply below_alloc | apply pw_below_drewN | apply below_drew1) | exact HB.out))) : w.heap.size ≤ gb123)); have n3_ := Aside0.mk ((by rw [hg]; exact (below_size (by repeat (first | (with_reducible first | exact HB.out | apply below_alloc | apply pw_below_drewN | apply below_drew1) | exact HB.out))) : w.heap.size ≤ gb123)); clear HB; have HB := n0_; have BK123 := n1_; have GW123 := n2_; have GE123 := n3_; clear n0_ n1_ n2_ n3_; clear hb hbox hg; have hcz9_0 : w8.cell? ⟨gb123, 0, none⟩ = some (.int .i64 a0_0) := (blk_cell BK123.out 0).trans rfl; have hcz9_1 : w8.cell? ⟨gb123, 1, none⟩ = some (.int .i64 a0_1) := (blk_cell BK123.out 1).trans rfl; have hfz9_0 := blk_frozen BK123.out 0; have hfz9_1 := blk_frozen BK123.out 1) | ((with_reducible refine gate_callee (f := 36) rfl ?_); refine goesL_ (some 5) rfl rfl Try.func36 (by kernel_rfl) rfl #[.int .i64 a0_0, .int .i64 1000000] rfl (by (try simp only [List.map_toArray, List.map_cons, List.map_nil]); first | done | rfl | (simp only [List.length_drop, List.length_take]; rfl)) ?_; (with_reducible refine (dict_within.calls a0_0 1000000 true _ A2.out).mono ?_); rintro e w' ⟨rfl, ⟨nd, rfl⟩⟩; refine ⟨_, rfl, ?_⟩) | (go_at_call 36; (with_reducible refine (dict_within.calls a0_1 4095 false _ A4.out).mono ?_); rintro e w' ⟨rfl, ⟨nd, rfl⟩⟩))
      go_ret
      exact ⟨by first | rfl | (simp [errW_none, errW_some] <;> rfl) | (simp [*, errW_none, errW_some] <;> rfl), by repeat (first | (with_reducible first | exact HB.out | apply below_alloc | apply pw_below_drewN | apply below_drew1 | refine below_set ?_ GE123.out) | exact HB.out)⟩
  · replace c3 := Bool.eq_false_iff.mpr c3
    subst c3
    have H1 : (some (-1)) = some r := by rw [if_neg (show ¬ (false = true) by decide)] at H; exact H
    clear H
    have H := H1
    clear H1
    obtain rfl := Option.some.inj H
    go_enter Try.func29, Try.ntmps29
    go_wp2_with (first | ((with_reducible refine gate_dst (N := 1) rfl ?_); refine box_event ?hg (N := 1) ?hd (cs := #[.int .i64 a0_0, .int .i64 a0_1]) (t := 33) ?hr ?_; (case hd => rfl); (case hg => rfl); (case hr => first | (go_simp; done) | (go_simp; rfl)); intro gb123 hg w10 hbox hb; have n0_ := Aside0.mk (below_step (by repeat (first | (with_reducible first | exact HB.out | apply below_alloc | apply pw_below_drewN | apply below_drew1) | exact HB.out)) hb); have n1_ := Aside0.mk (hbox); have n2_ := Aside0.mk ((by rw [hg]; exact (below_size (by repeat (first | (with_reducible first | exact HB.out | apply below_alloc | apply pw_below_drewN | apply below_drew1) | exact HB.out))) : w.heap.size ≤ gb123)); have n3_ := Aside0.mk ((by rw [hg]; exact (below_size (by repeat (first | (with_reducible first | exact HB.out | apply below_alloc | apply pw_below_drewN | apply below_drew1) | exact HB.out))) : w.heap.size ≤ gb123)); clear HB; have HB := n0_; have BK123 := n1_; have GW123 := n2_; have GE123 := n3_; clear n0_ n1_ n2_ n3_; clear hb hbox hg; have hcz11_0 : w10.cell? ⟨gb123, 0, none⟩ = some (.int .i64 a0_0) := (blk_cell BK123.out 0).trans rfl; have hcz11_1 : w10.cell? ⟨gb123, 1, none⟩ = some (.int .i64 a0_1) := (blk_cell BK123.out 1).trans rfl; have hfz11_0 := blk_frozen BK123.out 0; have hfz11_1 := blk_frozen BK123.out 1) | ((with_reducible refine gate_callee (f := 36) rfl ?_); refine goesL_ (some 5) rfl rfl Try.func36 (by kernel_rfl) rfl #[.int .i64 a0_0, .int .i64 1000000] rfl (by (try simp only [List.map_toArray, List.map_cons, List.map_nil]); first | done | rfl | (simp only [List.length_drop, List.length_take]; rfl)) ?_; (with_reducible refine (dict_within.calls a0_0 1000000 false _ A2.out).mono ?_); rintro e w' ⟨rfl, ⟨nd, rfl⟩⟩; refine ⟨_, rfl, ?_⟩))
    go_ret
    exact ⟨by first | rfl | (simp [errW_none, errW_some] <;> rfl) | (simp [*, errW_none, errW_some] <;> rfl), by repeat (first | (with_reducible first | exact HB.out | apply below_alloc | apply pw_below_drewN | apply below_drew1 | refine below_set ?_ GE123.out) | exact HB.out)⟩

/-! ### dict_sized: function 39 -/
def dict_sized.f (a0 : ByteArray) : Option (Bool) := if a0.toList = ([] : List UInt8) then (some false) else (some (decide ((a0.size : Int) ≤ 31)))
set_option maxHeartbeats 8000000 in
set_option maxRecDepth 100000 in
theorem dict_sized.calls (a0 : ByteArray) (r : Bool) (w : World) (h : dict_sized.f a0 = some r) :
    Calls Try.prog 39 #[.string a0] w fun e w' => e = .returned (.bool r) ∧ Drawn0 w w' := by
  have H : (if a0.toList = ([] : List UInt8) then (some false) else (some (decide ((a0.size : Int) ≤ 31)))) = some r := h
  clear h
  by_cases c2 : a0.toList = ([] : List UInt8)
  · rw [if_pos c2] at H
    have c2b0 : (a0.toList == ([] : List UInt8)) = true := beq_iff_eq.mpr c2
    have c2b1 : (a0.toList != ([] : List UInt8)) = false := bne_eq_false_iff_eq.mpr c2
    clear c2
    obtain rfl := Option.some.inj H
    go_enter Try.func39, Try.ntmps39
    go_wp2
    go_ret
    exact ⟨by first | rfl | (simp; done) | (simp [*]; done), by repeat (first | exact Drawn0.refl _ | apply Drawn0.step)⟩
  · rw [if_neg c2] at H
    have c2b0 : (a0.toList == ([] : List UInt8)) = false := beq_eq_false_iff_ne.mpr c2
    have c2b1 : (a0.toList != ([] : List UInt8)) = true := bne_iff_ne.mpr c2
    obtain rfl := Option.some.inj H
    go_enter Try.func39, Try.ntmps39
    go_wp2
    go_ret
    exact ⟨by first | rfl | (simp; done) | (simp [*]; done), by repeat (first | exact Drawn0.refl _ | apply Drawn0.step)⟩

-- NOT PRINTED: function 50 (slices_IndexFunc_byte_byte)

-- NOT PRINTED: function 47 (slices_ContainsFunc_byte_byte)

/-! ### dict_named: function 37 -/
def dict_named.l0 : Nat → ByteArray → Int → Option (Bool)
  | 0, _, _ => none
  | k + 1, x0, x4 => if x4 < (x0.size : Int) then (if 0 ≤ x4 then (if (bt x0 x4) ≤ 32 then (some false) else (dict_named.l0 k x0 (wrap64 (x4 + 1)))) else (none)) else (some true)
def dict_named.f (k : Nat) (a0 : ByteArray) : Option (Bool) := (dict_sized.f a0).bind fun t126 => (if t126 = true then ((scan_Upper.f k a0).bind fun t127 => (if t127.toList = a0.toList then (dict_named.l0 k a0 0) else (some false))) else (some false))
theorem dict_named.mono_l : ∀ k, (∀ y0 y1, LeO (dict_named.l0 k y0 y1) (dict_named.l0 (k + 1) y0 y1))
  | 0 => fun _ _ r h => by simp [dict_named.l0] at h
  | k + 1 => by
    have ih0 := dict_named.mono_l k
    · intro y0 y1
      unfold dict_named.l0
      repeat' first
      | (with_reducible exact ih0 _ _)
      | (with_reducible exact scan_Upper.mono _ _)
      | (with_reducible exact LeO.refl _)
      | (with_reducible exact LeO.none _)
      | (with_reducible refine LeO.ite ?_ ?_)
      | (with_reducible refine LeO.bind ?_ (fun _ => ?_))
      | exact ih0 _ _
      | exact scan_Upper.mono _ _
      | exact LeO.none _
      | refine LeO.ite ?_ ?_
      | refine LeO.bind ?_ (fun _ => ?_)
theorem dict_named.mono : ∀ a0 k, LeO (dict_named.f k a0) (dict_named.f (k + 1) a0) := by
  intro a0 k
  have ih0 := dict_named.mono_l k
  unfold dict_named.f
  repeat' first
      | (with_reducible exact ih0 _ _)
      | (with_reducible exact scan_Upper.mono _ _)
      | (with_reducible exact LeO.refl _)
      | (with_reducible exact LeO.none _)
      | (with_reducible refine LeO.ite ?_ ?_)
      | (with_reducible refine LeO.bind ?_ (fun _ => ?_))
      | exact ih0 _ _
      | exact scan_Upper.mono _ _
      | exact LeO.none _
      | refine LeO.ite ?_ ?_
      | refine LeO.bind ?_ (fun _ => ?_)
theorem dict_named_lit (b : Int) (w : World) : Calls Try.prog 48 #[.int .u8 b] w fun e w' => e = .returned (.bool (decide (b ≤ 32))) ∧ w' = w := by
  go_enter Try.func48, Try.ntmps48
  go_wp2
  go_ret
  exact ⟨rfl, rfl⟩
set_option maxHeartbeats 8000000 in
theorem dict_named_index (k : Nat) (a0 : ByteArray) (r : Bool) (g cap : Nat) (w : World) (hsz : Aside0 ((a0.size : Int) ≤ 31)) (hrow : Aside0 (Go.Proofs.YtbgihgkobojfaaaH.BRow w g (Go.Proofs.YtbgihgkobojfaaaH.ints a0))) (h : dict_named.l0 k a0 0 = some r) :
    Calls Try.prog 50 #[.slice (some ⟨g, 0, none⟩) a0.size cap, .func (.func 48) #[] #[]] w fun e w' => (∃ j : Int, e = .returned (.int .i64 j) ∧ decide (j ≥ 0) = !r) ∧ w' = w := by
  have hil := Aside0.mk (Go.Proofs.YtbgihgkobojfaaaH.ints_length a0)
  have H' := Aside0.mk h
  clear h
  go_enter Try.func50, Try.ntmps50
  go_wp2
  go_loopg [8] k (fun kq v4 w' => ∃ (x : Int), v4 = .int .i64 x ∧ Aside0 (0 ≤ x) ∧ Aside0 (dict_named.l0 kq a0 x = some r) ∧ Aside0 (kq ≤ k) ∧ w' = w)
  case atStart => exact ⟨(0), (by first | rfl | (simp; done) | (simp [*]; done)), ⟨Int.le_refl 0⟩, H', ⟨Nat.le_refl _⟩, rfl⟩
  case round =>
    clear H'
    obtain ⟨x, rfl, hx0, HA, HK1, rfl⟩ := hrel
    cases gk with
    | zero => exact absurd HA.out (by simp [dict_named.l0])
    | succ k1 =>
      have H := HA.out
      clear HA
      simp only [dict_named.l0] at H
      by_cases c7 : x < (a0.size : Int)
      · rw [if_pos c7, if_pos hx0.out] at H
        have hlt : x.toNat < a0.size := by have := hx0.out; omega
        obtain ⟨hc, _⟩ := hrow.out x.toNat (by rw [hil.out]; exact hlt)
        rw [Go.Proofs.YtbgihgkobojfaaaH.ints_get a0 x.toNat hlt, show ((x.toNat : Nat) : Int) = x by have := hx0.out; omega] at hc
        have hx0' := eq_true hx0.out
        have c7' := eq_true c7
        have c7b0 : decide (x < (a0.size : Int)) = true := decide_eq_true c7
        clear hlt
        by_cases c10 : (bt a0 x) ≤ 32
        · rw [if_pos c10] at H
          obtain rfl := Option.some.inj H
          have c10b0 : decide ((bt a0 x) ≤ 32) = true := decide_eq_true c10
          clear c10 c7
          generalize bt a0 x = b at hc c10b0
          go_wp2_with (go_at_call 48; (with_reducible refine (dict_named_lit _ _).mono ?_); rintro e w2 ⟨rfl, rfl⟩)
          go_ret
          exact ⟨⟨x, rfl, by rw [decide_eq_true hx0.out]; rfl⟩, rfl⟩
        · rw [if_neg c10] at H
          have H' := Aside0.mk H
          clear H
          have c10b0 : decide ((bt a0 x) ≤ 32) = false := decide_eq_false c10
          clear c10
          have hc7 := Aside0.mk c7
          clear c7
          generalize bt a0 x = b at hc c10b0
          go_wp2_with (go_at_call 48; (with_reducible refine (dict_named_lit _ _).mono ?_); rintro e w2 ⟨rfl, rfl⟩)
          go_roundg k1
          case measure => have := HK1.out; omega
          case rel => exact ⟨(wrap64 (x + 1)), (by first | rfl | (simp; done) | (simp [*]; done)), ⟨by have := hx0.out; have := hsz.out; have := hc7.out; unfold wrap64; omega⟩, H', ⟨by have := HK1.out; omega⟩, rfl⟩
      · rw [if_neg c7] at H
        have c7b0 : decide (x < (a0.size : Int)) = false := decide_eq_false c7
        clear c7
        obtain rfl := Option.some.inj H
        go_wp2
        go_ret
        exact ⟨⟨-1, rfl, by decide⟩, rfl⟩
theorem dict_named_has (k : Nat) (a0 : ByteArray) (r : Bool) (g cap : Nat) (w : World) (hsz : Aside0 ((a0.size : Int) ≤ 31)) (hrow : Aside0 (Go.Proofs.YtbgihgkobojfaaaH.BRow w g (Go.Proofs.YtbgihgkobojfaaaH.ints a0))) (h : dict_named.l0 k a0 0 = some r) :
    Calls Try.prog 47 #[.slice (some ⟨g, 0, none⟩) a0.size cap, .func (.func 48) #[] #[]] w fun e w' => e = .returned (.bool (!r)) ∧ w' = w := by
  have H' := Aside0.mk h
  clear h
  go_enter Try.func47, Try.ntmps47
  go_wp2_with (go_at_call 50; (with_reducible refine (dict_named_index k a0 r g cap _ hsz hrow H'.out).mono ?_); rintro e w2 ⟨⟨j, rfl, hj⟩, rfl⟩)
  go_ret
  exact ⟨by first | rfl | (simp [*]; done), rfl⟩
set_option maxHeartbeats 8000000 in
set_option maxRecDepth 100000 in
theorem dict_named.calls (k : Nat) (a0 : ByteArray) (r : Bool) (w : World) (h : dict_named.f k a0 = some r) :
    Calls Try.prog 37 #[.string a0] w fun e w' => e = .returned (.bool r) ∧ Below w.heap.size w w' := by
  have HB := Aside0.mk (Below.refl w.heap.size w)
  have H : ((dict_sized.f a0).bind fun t126 => (if t126 = true then ((scan_Upper.f k a0).bind fun t127 => (if t127.toList = a0.toList then (dict_named.l0 k a0 0) else (some false))) else (some false))) = some r := h
  clear h
  replace H := Option.bind_eq_some_iff.mp H
  obtain ⟨t126, A20, H⟩ := H
  replace H : (if t126 = true then ((scan_Upper.f k a0).bind fun t127 => (if t127.toList = a0.toList then (dict_named.l0 k a0 0) else (some false))) else (some false)) = some r := H
  have A2 := Aside0.mk A20
  clear A20
  have hconv : ∀ W : World, (convert 9 73 (.string a0)).run Try.prog W = .ok (.slice (some ⟨W.heap.size, 0, none⟩) a0.size (grownCap W a0.size 0 5)) (Lib.bytesWorld W 5 a0) := fun W => Lib.run_convert_string_bytes W 9 73 5 a0 Try.underlying9 Try.underlying73 Try.underlying5
  by_cases c3 : t126 = true
  · subst c3
    have H1 : ((scan_Upper.f k a0).bind fun t127 => (if t127.toList = a0.toList then (dict_named.l0 k a0 0) else (some false))) = some r := by rw [if_pos rfl] at H; exact H
    clear H
    have H := H1
    clear H1
    replace H := Option.bind_eq_some_iff.mp H
    obtain ⟨t127, A40, H⟩ := H
    replace H : (if t127.toList = a0.toList then (dict_named.l0 k a0 0) else (some false)) = some r := H
    have A4 := Aside0.mk A40
    clear A40
    by_cases c5 : t127.toList = a0.toList
    · rw [if_pos c5] at H
      have c5b0 : (t127.toList == a0.toList) = true := beq_iff_eq.mpr c5
      have c5b1 : (t127.toList != a0.toList) = false := bne_eq_false_iff_eq.mpr c5
      clear c5
      have H' := Aside0.mk H
      clear H
      have hsz : Aside0 ((a0.size : Int) ≤ 31) := ⟨by
        have h := A2.out
        unfold dict_sized.f at h
        split at h
        · cases h
        · exact of_decide_eq_true (Option.some.inj h)⟩
      have hrowAll : Aside0 (∀ W : World, Go.Proofs.YtbgihgkobojfaaaH.BRow (Lib.bytesWorld W 5 a0) W.heap.size (Go.Proofs.YtbgihgkobojfaaaH.ints a0)) := ⟨fun W => Go.Proofs.YtbgihgkobojfaaaH.conv_row W _ a0⟩
      go_enter Try.func37, Try.ntmps37
      go_wp2_with (first | (go_at_call 39; (with_reducible refine (dict_sized.calls a0 true _ A2.out).mono ?_); rintro e w' ⟨rfl, ⟨nd, rfl⟩⟩) | (go_at_call 22; (with_reducible refine (scan_Upper.calls k a0 t127 _ A4.out).mono ?_); rintro e w6 ⟨rfl, hb⟩; have n0_ := Aside0.mk (below_step (by repeat (first | (with_reducible first | exact HB.out | apply below_alloc | apply pw_below_drewN | apply below_drew1) | exact HB.out)) hb); clear HB; have HB := n0_; clear n0_; (try clear hb); (try clear hb2); (try clear hk); (try clear hi)) | (go_at_call 47; (with_reducible refine (dict_named_has k a0 r _ _ _ hsz ⟨hrowAll.out _⟩ H'.out).mono ?_); rintro e w7 ⟨rfl, rfl⟩))
      go_ret
      exact ⟨by first | rfl | (simp [errW_none, errW_some] <;> rfl) | (simp [*, errW_none, errW_some] <;> rfl), below_step HB.out (Go.Proofs.YtbgihgkobojfaaaH.conv_below _ 5 a0)⟩
    · rw [if_neg c5] at H
      have c5b0 : (t127.toList == a0.toList) = false := beq_eq_false_iff_ne.mpr c5
      have c5b1 : (t127.toList != a0.toList) = true := bne_iff_ne.mpr c5
      obtain rfl := Option.some.inj H
      go_enter Try.func37, Try.ntmps37
      go_wp2_with (first | (go_at_call 39; (with_reducible refine (dict_sized.calls a0 true _ A2.out).mono ?_); rintro e w' ⟨rfl, ⟨nd, rfl⟩⟩) | (go_at_call 22; (with_reducible refine (scan_Upper.calls k a0 t127 _ A4.out).mono ?_); rintro e w11 ⟨rfl, hb⟩; have n0_ := Aside0.mk (below_step (by repeat (first | (with_reducible first | exact HB.out | apply below_alloc | apply pw_below_drewN | apply below_drew1) | exact HB.out)) hb); clear HB; have HB := n0_; clear n0_; (try clear hb); (try clear hb2); (try clear hk); (try clear hi)))
      go_ret
      exact ⟨by first | rfl | (simp [errW_none, errW_some] <;> rfl) | (simp [*, errW_none, errW_some] <;> rfl), by repeat (first | (with_reducible first | exact HB.out | apply below_alloc | apply pw_below_drewN | apply below_drew1) | exact HB.out)⟩
  · replace c3 := Bool.eq_false_iff.mpr c3
    subst c3
    have H1 : (some false) = some r := by rw [if_neg (show ¬ (false = true) by decide)] at H; exact H
    clear H
    have H := H1
    clear H1
    obtain rfl := Option.some.inj H
    go_enter Try.func37, Try.ntmps37
    go_wp2_with (first | (go_at_call 39; (with_reducible refine (dict_sized.calls a0 false _ A2.out).mono ?_); rintro e w' ⟨rfl, ⟨nd, rfl⟩⟩))
    go_ret
    exact ⟨by first | rfl | (simp [errW_none, errW_some] <;> rfl) | (simp [*, errW_none, errW_some] <;> rfl), by repeat (first | (with_reducible first | exact HB.out | apply below_alloc | apply pw_below_drewN | apply below_drew1) | exact HB.out)⟩

/-! ### dict_visible: function 38 -/
def dict_visible.f (a0 : Int) : Option (Bool) := (dict_within.f a0 110).bind fun t128 => (if t128 = true then ((op_Hidden.f a0).bind fun t129 => (some (!t129))) else (some false))
set_option maxHeartbeats 8000000 in
set_option maxRecDepth 100000 in
theorem dict_visible.calls (a0 : Int) (r : Bool) (w : World) (h : dict_visible.f a0 = some r) :
    Calls Try.prog 38 #[.int .i64 a0] w fun e w' => e = .returned (.bool r) ∧ Below w.heap.size w w' := by
  have HB := Aside0.mk (Below.refl w.heap.size w)
  have H : ((dict_within.f a0 110).bind fun t128 => (if t128 = true then ((op_Hidden.f a0).bind fun t129 => (some (!t129))) else (some false))) = some r := h
  clear h
  replace H := Option.bind_eq_some_iff.mp H
  obtain ⟨t128, A20, H⟩ := H
  replace H : (if t128 = true then ((op_Hidden.f a0).bind fun t129 => (some (!t129))) else (some false)) = some r := H
  have A2 := Aside0.mk A20
  clear A20
  by_cases c3 : t128 = true
  · subst c3
    have H1 : ((op_Hidden.f a0).bind fun t129 => (some (!t129))) = some r := by rw [if_pos rfl] at H; exact H
    clear H
    have H := H1
    clear H1
    replace H := Option.bind_eq_some_iff.mp H
    obtain ⟨t129, A40, H⟩ := H
    replace H : (some (!t129)) = some r := H
    have A4 := Aside0.mk A40
    clear A40
    obtain rfl := Option.some.inj H
    go_enter Try.func38, Try.ntmps38
    go_wp2_with (first | ((with_reducible refine gate_callee (f := 36) rfl ?_); refine goesL_ (some 4) rfl rfl Try.func36 (by kernel_rfl) rfl #[.int .i64 a0, .int .i64 110] rfl (by (try simp only [List.map_toArray, List.map_cons, List.map_nil]); first | done | rfl | (simp only [List.length_drop, List.length_take]; rfl)) ?_; (with_reducible refine (dict_within.calls a0 110 true _ A2.out).mono ?_); rintro e w' ⟨rfl, ⟨nd, rfl⟩⟩; refine ⟨_, rfl, ?_⟩) | (go_at_call 13; (with_reducible refine (op_Hidden.calls a0 t129 _ A4.out).mono ?_); rintro e w5 ⟨rfl, hb⟩; have n0_ := Aside0.mk (below_step (by repeat (first | (with_reducible first | exact HB.out | apply below_alloc | apply pw_below_drewN | apply below_drew1) | exact HB.out)) hb); clear HB; have HB := n0_; clear n0_; (try clear hb); (try clear hb2); (try clear hk); (try clear hi)))
    go_ret
    exact ⟨by first | rfl | (simp [errW_none, errW_some] <;> rfl) | (simp [*, errW_none, errW_some] <;> rfl), by repeat (first | (with_reducible first | exact HB.out | apply below_alloc | apply pw_below_drewN | apply below_drew1) | exact HB.out)⟩
  · replace c3 := Bool.eq_false_iff.mpr c3
    subst c3
    have H1 : (some false) = some r := by rw [if_neg (show ¬ (false = true) by decide)] at H; exact H
    clear H
    have H := H1
    clear H1
    obtain rfl := Option.some.inj H
    go_enter Try.func38, Try.ntmps38
    go_wp2_with (first | ((with_reducible refine gate_callee (f := 36) rfl ?_); refine goesL_ (some 4) rfl rfl Try.func36 (by kernel_rfl) rfl #[.int .i64 a0, .int .i64 110] rfl (by (try simp only [List.map_toArray, List.map_cons, List.map_nil]); first | done | rfl | (simp only [List.length_drop, List.length_take]; rfl)) ?_; (with_reducible refine (dict_within.calls a0 110 false _ A2.out).mono ?_); rintro e w' ⟨rfl, ⟨nd, rfl⟩⟩; refine ⟨_, rfl, ?_⟩))
    go_ret
    exact ⟨by first | rfl | (simp [errW_none, errW_some] <;> rfl) | (simp [*, errW_none, errW_some] <;> rfl), by repeat (first | (with_reducible first | exact HB.out | apply below_alloc | apply pw_below_drewN | apply below_drew1) | exact HB.out)⟩

end Go.Proofs.Ytbgihgkobojfaaa.PDictPlaces
