/- lin.keyOf, walked by hand; the key's own laws. -/
import Derived.Test.YtipnedhclbopdaaDoorEvf22A1
import Derived.Test.YtipnedhclbopdaaDoorEv4
import Derived.Lib.ItoaLen
set_option linter.unusedVariables false
set_option linter.unusedSimpArgs false
namespace Go.Proofs.YtipnedhclbopdaaDoorR
open Go Go.Proofs.YtipnedhclbopdaaDoorEv Go.Proofs Go.RowKit
set_option maxHeartbeats 8000000
set_option maxRecDepth 100000
theorem own_str {w : World} {B : Nat} {v : Value} {l : List UInt8} (h : w.ownsRow B 5 1 v l.length (Lib.byteCells l)) : (convert 57 9 v).run Tryd.prog w = .ok (.string ⟨l.toArray⟩) w := by
  obtain ⟨hl, ⟨rfl, h0⟩ | ⟨g, cap, cur, rfl, hb, hh, hn, hcap, hsz, ht⟩⟩ := h
  · have : l = [] := List.eq_nil_of_length_eq_zero h0
    subst this
    rw [run_convert_bytes_string w 57 9 5 none 0 0 Tryd.underlying57 Tryd.underlying5 Tryd.underlying9]
    rfl
  · rw [run_convert_bytes_string w 57 9 5 _ _ _ Tryd.underlying57 Tryd.underlying5 Tryd.underlying9]
    have hp : (Lib.byteCells l) <+: cur.toList.drop 0 := by
      rw [List.drop_zero, ← ht]; exact List.take_prefix _ _
    have hld := run_load_cells Tryd.prog hh hp (n := l.length) (by simp [Lib.byteCells])
    have e1 : Lib.byteCells l = (l.map fun b => (b.toNat : Int)).map (Value.int .u8) := by simp [Lib.byteCells]
    rw [e1] at hld
    rw [run_bytesToString w _ _ cap _ hld, foldl_push]
    have e2 : (l.map fun b => (b.toNat : Int)).map (fun n => UInt8.ofNat n.toNat) = l := by
      rw [List.map_map]
      conv => rhs; rw [← List.map_id l]
      apply List.map_congr_left
      intro b _
      simp
    rw [e2]
    simp
def boolL (d : Bool) : List UInt8 := if d then [116, 114, 117, 101] else [102, 97, 108, 115, 101]
theorem boolB_cells (d : Bool) : Lib.strCells (boolB d) = Lib.byteCells (boolL d) ∧ (boolB d).size = (boolL d).length := by cases d <;> exact ⟨rfl, rfl⟩
theorem boolL_len (d : Bool) : (boolL d).length ≤ 5 := by cases d <;> decide
def dk (ds : List Bool) (k : Nat) : List UInt8 := (ds.take k).flatMap boolL
def intL (x : Int) : List UInt8 := 32 :: Lib.itoa x
def hk (hs : List Int) (k : Nat) : List UInt8 := (hs.take k).flatMap intL
/-- the key's bytes -/
def keyL (ds : List Bool) (hs : List Int) : List UInt8 := ds.flatMap boolL ++ hs.flatMap intL
theorem dk_succ (ds : List Bool) (k : Nat) (h : k < ds.length) : dk ds (k + 1) = dk ds k ++ boolL ds[k] := by
  unfold dk
  rw [List.take_succ_eq_append_getElem h, List.flatMap_append]
  simp
theorem hk_succ (hs : List Int) (k : Nat) (h : k < hs.length) : hk hs (k + 1) = hk hs k ++ [32] ++ Lib.itoa hs[k] := by
  unfold hk
  rw [List.take_succ_eq_append_getElem h, List.flatMap_append]
  simp [intL]
theorem flat_le {α : Type} (f : α → List UInt8) (c : Nat) : ∀ l : List α, (∀ x ∈ l, (f x).length ≤ c) → (l.flatMap f).length ≤ c * l.length
  | [], _ => by simp
  | a :: l, h => by
    have h1 := flat_le f c l (fun x hx => h x (List.mem_cons_of_mem _ hx))
    have h2 := h a (List.mem_cons_self ..)
    simp only [List.flatMap_cons, List.length_append, List.length_cons, Nat.mul_add, Nat.mul_one]
    omega
theorem dk_le (ds : List Bool) (k : Nat) : (dk ds k).length ≤ 5 * ds.length := by
  have := flat_le boolL 5 (ds.take k) (fun x _ => boolL_len x)
  have h2 : (ds.take k).length ≤ ds.length := by simp; omega
  unfold dk
  omega
theorem hk_le (hs : List Int) (k : Nat) (hw : ∀ x ∈ hs, -9223372036854775808 ≤ x ∧ x ≤ 9223372036854775807) : (hk hs k).length ≤ 22 * hs.length := by
  have := flat_le intL 22 (hs.take k) (fun x hx => by
    have := hw x (List.mem_of_mem_take hx)
    have h3 := Lib.itoa_length_le x this.1 this.2
    simp [intL]; omega)
  have h2 : (hs.take k).length ≤ hs.length := by simp; omega
  unfold hk
  omega
theorem cells_app (a b : List UInt8) : Lib.byteCells a ++ Lib.byteCells b = Lib.byteCells (a ++ b) := by simp [Lib.byteCells]
/-- what the walk asks of a slice: its cells, where it has any -/
def CellsAt (w : World) (base : Option Addr) (vs : List Value) : Prop := ∀ k v, vs[k]? = some v → ∃ b off, base = some ⟨b, off, none⟩ ∧ b < w.heap.size ∧ w.cell? ⟨b, off + k, none⟩ = some v
end Go.Proofs.YtipnedhclbopdaaDoorR
