/- General words of this session: the row that '[]byte(s)' makes, read and stored into. -/
import Derived.Test.YtbgihgkobojfaaaWMore
import Derived.Lib.ConvBytes
set_option linter.unusedVariables false
set_option linter.unusedSimpArgs false
namespace Go.Proofs.YtbgihgkobojfaaaH
open Go.RowKit Go.Proofs.YtbgihgkobojfaaaW.PrintWords Go.Proofs.YtbgihgkobojfaaaW.PrintLast Go.Proofs.YtbgihgkobojfaaaW.PrintMore
/-- Block g's first cells are these bytes, and may be written. -/
def BRow (w : World) (g : Nat) (xs : List Int) : Prop := ∀ i : Nat, i < xs.length → w.cell? ⟨g, i, none⟩ = some (.int .u8 (xs.getD i 0)) ∧ w.frozen? ⟨g, i, none⟩ = false
def ints (s : ByteArray) : List Int := s.data.toList.map fun b => ((b.toNat : Nat) : Int)
theorem data_length (s : ByteArray) : s.data.toList.length = s.size := by rw [Array.length_toList]; rfl
theorem ints_length (s : ByteArray) : (ints s).length = s.size := by unfold ints; rw [List.length_map, data_length]
theorem ints_get (s : ByteArray) (i : Nat) (h : i < s.size) : (ints s).getD i 0 = bt s (i : Int) := by
  have h2 : i < s.data.toList.length := by rw [data_length]; exact h
  unfold ints bt
  rw [List.getD_eq_getElem?_getD, List.getElem?_map, List.getElem?_eq_getElem h2, dif_pos (show ((i : Int)).toNat < s.size from h)]
  simp
  rfl
theorem conv_row (w : World) (e : TypeId) (s : ByteArray) : BRow (Lib.bytesWorld w e s) w.heap.size (ints s) := by
  intro i hi
  rw [ints_length] at hi
  refine ⟨?_, ?_⟩
  · rw [Lib.bytesWorld_cell w e s i hi]
    have h2 : i < s.data.toList.length := by rw [data_length]; exact hi
    unfold ints
    rw [List.getD_eq_getElem?_getD, List.getD_eq_getElem?_getD, List.getElem?_map, List.getElem?_eq_getElem h2]
    rfl
  · have h3 : ¬ ((Lib.bytesCells w e s).size ≤ i) := by
      have : s.size ≤ (Lib.bytesCells w e s).size := by unfold Lib.bytesCells; rw [Array.size_append, Array.size_map]; exact Nat.le_add_right _ _
      omega
    unfold World.frozen?
    rw [Lib.bytesWorld_at_new w e s]
    simp [h3]
theorem conv_below (w : World) (e : TypeId) (s : ByteArray) : Below w.heap.size w (Lib.bytesWorld w e s) :=
  ⟨rfl, rfl, rfl, by rw [Lib.bytesWorld_size]; omega, fun k hk => Lib.bytesWorld_at_old w e s k hk⟩
theorem BRow.put {w : World} {g : Nat} {xs : List Int} (h : BRow w g xs) (i : Nat) (hi : i < xs.length) (x : Int) : BRow (w.setCell ⟨g, i, none⟩ (.int .u8 x)) g (xs.set i x) := by
  intro j hj
  rw [List.length_set] at hj
  refine ⟨?_, by rw [World.frozen?_setCell]; exact (h j hj).2⟩
  by_cases e : j = i
  · subst e
    rw [World.cell?_setCell_same w _ _ (h j hj).1, List.getD_eq_getElem?_getD, List.getElem?_set_self hj]
    rfl
  · rw [World.cell?_setCell_other w _ _ _ (by intro hh; injection hh with _ h2 _; exact e h2.symm), (h j hj).1, List.getD_eq_getElem?_getD, List.getD_eq_getElem?_getD, List.getElem?_set_ne (fun h2 => e h2.symm)]
theorem BRow.drewN {w : World} {g : Nat} {xs : List Int} (h : BRow w g xs) (n : Nat) : BRow (w.drewN n) g xs := fun i hi => h i hi
theorem BRow.str {P : Program} {w : World} {g : Nat} {xs : List Int} (h : BRow w g xs) (src dst e : TypeId) (hs : P.underlying src = some (.slice e)) (he : P.underlying e = some (.int .u8)) (hd : P.underlying dst = some .string) (cap : Nat) :
    (convert src dst (.slice (some ⟨g, 0, none⟩) xs.length cap)).run P w = .ok (.string (strOfNums xs)) w :=
  run_convert_bytes_arg w src e hs he g 0 xs.length cap xs rfl (fun i hi => by rw [Nat.zero_add]; exact (h i hi).1) dst hd
/-- A byte in capitals. -/
def up1 (c : Int) : Int := if 97 ≤ c ∧ c ≤ 122 then c - 32 else c
theorem up1_range {c : Int} (h0 : 0 ≤ c) (h1 : c ≤ 255) : 0 ≤ up1 c ∧ up1 c ≤ 255 := by unfold up1; split <;> omega
/-- What the loop over the bytes leaves behind i rounds. -/
def upTo (xs : List Int) (i : Nat) : List Int := (xs.take i).map up1 ++ xs.drop i
theorem upTo_length (xs : List Int) (i : Nat) : (upTo xs i).length = xs.length := by simp [upTo]; omega
theorem upTo_zero (xs : List Int) : upTo xs 0 = xs := by simp [upTo]
theorem upTo_all (xs : List Int) (i : Nat) (h : xs.length ≤ i) : upTo xs i = xs.map up1 := by simp [upTo, List.take_of_length_le h, List.drop_eq_nil_of_le h]
theorem upTo_get (xs : List Int) (i : Nat) (h : i < xs.length) : (upTo xs i).getD i 0 = xs.getD i 0 := by
  unfold upTo
  rw [List.getD_eq_getElem?_getD, List.getD_eq_getElem?_getD, List.getElem?_append_right (by simp; omega)]
  simp [Nat.min_eq_left (Nat.le_of_lt h)]
theorem upTo_succ (xs : List Int) (i : Nat) (h : i < xs.length) : (upTo xs i).set i (up1 (xs.getD i 0)) = upTo xs (i + 1) := by
  have hl : ((xs.take i).map up1).length = i := by simp; omega
  unfold upTo
  rw [List.set_append_right _ _ (by omega), hl, Nat.sub_self, List.drop_eq_getElem_cons h, List.set_cons_zero, List.take_succ_eq_append_getElem h, List.map_append, List.getD_eq_getElem?_getD, List.getElem?_eq_getElem h]
  simp
theorem upTo_same (xs : List Int) (i : Nat) (h : i < xs.length) (he : up1 (xs.getD i 0) = xs.getD i 0) : upTo xs (i + 1) = upTo xs i := by
  have hg : xs.getD i 0 = xs[i] := by rw [List.getD_eq_getElem?_getD, List.getElem?_eq_getElem h]; rfl
  rw [hg] at he
  unfold upTo
  rw [List.take_succ_eq_append_getElem h, List.map_append, List.map_singleton, he, List.append_assoc, List.drop_eq_getElem_cons h]
  rfl
end Go.Proofs.YtbgihgkobojfaaaH
