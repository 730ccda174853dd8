/- LinRow: what its walk asks. -/
import Derived.Test.YtipnedhclbopdaaDoorEvf22P4
import Derived.Test.YtipnedhclbopdaaDoorEvf22G2
open Go Go.Proofs.YtipnedhclbopdaaDoorEv Go.Proofs.YtipnedhclbopdaaDoorR Go.IntWalk Go.Proofs
set_option maxRecDepth 20000
set_option maxHeartbeats 8000000
set_option linter.unusedVariables false
set_option linter.unusedSimpArgs false
namespace Go.Proofs.YtipnedhclbopdaaDoorR
theorem mid_I {m p r : List Int} {x : Int} (h : p ++ x :: r = m) : (flat encI m).drop p.length = PV.int .i64 x :: flat encI r := by
  have := at_I (l := m) (i := p.length) (by rw [← h]; simp)
  rw [this]
  subst h
  simp
theorem and01 (w : Int) : andI w 1 = 0 ∨ andI w 1 = 1 := by
  obtain ⟨k, hk, hk2⟩ := andI_le w 1 (by decide)
  have hk' : andI w 1 = (k : Int) := hk
  rw [hk']; omega
theorem and3 (w : Int) : 0 ≤ andI w 3 ∧ andI w 3 ≤ 3 := by
  obtain ⟨k, hk, hk2⟩ := andI_le w 3 (by decide)
  have hk' : andI w 3 = (k : Int) := hk
  rw [hk']; omega
theorem and_in (w : Int) : inI (andI w 65535) = true := by
  obtain ⟨k, hk, hk2⟩ := andI_le w 65535 (by decide)
  have hk' : andI w 65535 = (k : Int) := hk
  rw [hk']; exact decide_eq_true (by omega)
theorem rowOp_in {pk tk : Int} {fifo : Bool} {room : Int} {i : Nat} {v : Int} {h : List Int} : inI (argT (rowOp pk tk fifo room i v h)) = true := by
  unfold rowOp
  split
  · rfl
  · exact and_in v
theorem rowL_in {pk tk : Int} {fifo : Bool} {room : Int} : ∀ (r : List Int) (i : Nat) (h : List Int), ∀ x ∈ rowL pk tk fifo room i r h, inI (argT x) = true
  | [], _, _, x, hx => by cases hx
  | v :: r, i, h, x, hx => by
    rw [rowL] at hx
    rcases List.mem_cons.1 hx with q | q
    · rw [q]; exact rowOp_in
    · exact rowL_in r _ _ x q
/-- the cells of one operation in a row -/
theorem cells_T {l : List Ot} {k : Nat} {a b c d : Int} {e : Bool} {f g : Int} (hk : k < l.length) (hx : l.getD k nilT = (a, b, c, d, e, f, g)) :
    ((flat encT l).drop (k * 7)).take 1 = [PV.int .i64 a] ∧ ((flat encT l).drop (k * 7 + 1)).take 1 = [PV.int .i64 b] ∧ ((flat encT l).drop (k * 7 + 2)).take 1 = [PV.int .i64 c] ∧ ((flat encT l).drop (k * 7 + 3)).take 1 = [PV.int .i64 d] ∧
    ((flat encT l).drop (k * 7 + 4)).take 1 = [PV.bool e] ∧ ((flat encT l).drop (k * 7 + 5)).take 1 = [PV.int .i64 f] ∧ ((flat encT l).drop (k * 7 + 6)).take 1 = [PV.int .i64 g] := by
  have h := at_T hk
  rw [hx] at h
  refine ⟨by rw [h]; rfl, ?_, ?_, ?_, ?_, ?_, ?_⟩ <;> (rw [← List.drop_drop, h]; rfl)
end Go.Proofs.YtipnedhclbopdaaDoorR
