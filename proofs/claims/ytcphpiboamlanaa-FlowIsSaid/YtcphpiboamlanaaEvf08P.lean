/- Evf08P: a part of the proof. -/
import Derived.Test.YtcphpiboamlanaaEvf08O
open Go Go.Proofs.YtcphpiboamlanaaEv Go.Proofs.YtcphpiboamlanaaR Go.IntWalk
set_option maxRecDepth 20000
set_option maxHeartbeats 8000000
set_option linter.unusedVariables false
set_option linter.unusedSimpArgs false
namespace Go.Proofs.YtcphpiboamlanaaR
def sB (l : List UInt8) : PV := .str ⟨l.toArray⟩
theorem toL (l : List UInt8) : (⟨l.toArray⟩ : ByteArray).toList = l := by rw [ByteArray.toList_eq]
def idxS (u : List UInt8) : List (List UInt8) → Nat → Int
  | [], _ => -1
  | x :: r, i => if u = x then (i : Int) else idxS u r (i + 1)
theorem idxS_drop (u : List UInt8) {l : List (List UInt8)} {i : Nat} (hi : i < l.length) : idxS u (l.drop i) i = if u = l[i] then (i : Int) else idxS u (l.drop (i + 1)) (i + 1) := by
  rw [List.drop_eq_getElem_cons hi]
  rfl
def theWords : List (List UInt8) := [[73, 70], [69, 76, 83, 69], [84, 72, 69, 78], [66, 69, 71, 73, 78], [65, 71, 65, 73, 78], [85, 78, 84, 73, 76], [87, 72, 73, 76, 69], [82, 69, 80, 69, 65, 84], [68, 79], [63, 68, 79], [76, 79, 79, 80], [43, 76, 79, 79, 80], [76, 69, 65, 86, 69]]
def fnRow : List PV := [.fn 47 [.ptr 0 0] [], .fn 48 [.ptr 0 0] [], .fn 49 [.ptr 0 0] [], .fn 50 [.ptr 0 0] [], .fn 51 [.ptr 0 0] [], .fn 52 [.ptr 0 0] [], .fn 53 [.ptr 0 0] [], .fn 54 [.ptr 0 0] [], .fn 55 [.ptr 0 0] [], .fn 56 [.ptr 0 0] [], .fn 57 [.ptr 0 0] [], .fn 58 [.ptr 0 0] [], .fn 59 [.ptr 0 0] []]
theorem idxS_lt (u : List UInt8) : ∀ (l : List (List UInt8)) (i : Nat), idxS u l i = -1 ∨ ∃ k : Nat, k < l.length ∧ idxS u l i = ((i + k : Nat) : Int)
  | [], i => .inl rfl
  | x :: r, i => by
    by_cases h : u = x
    · exact .inr ⟨0, by simp, if_pos h⟩
    · have e : idxS u (x :: r) i = idxS u r (i + 1) := if_neg h
      rcases idxS_lt u r (i + 1) with q | ⟨k, hk, q⟩
      · exact .inl (e.trans q)
      · exact .inr ⟨k + 1, by simpa using hk, by rw [e, q]; congr 1; omega⟩
theorem fnRow_at {k : Nat} (h : k < 13) : (fnRow.drop k).take 1 = [.fn (47 + k) [.ptr 0 0] []] := by
  match k, h with
  | 0, _ => rfl
  | 1, _ => rfl
  | 2, _ => rfl
  | 3, _ => rfl
  | 4, _ => rfl
  | 5, _ => rfl
  | 6, _ => rfl
  | 7, _ => rfl
  | 8, _ => rfl
  | 9, _ => rfl
  | 10, _ => rfl
  | 11, _ => rfl
  | 12, _ => rfl
/-- which word that leads it is -/
def wordK (s : ByteArray) : Int := idxS (upL s.toList) theWords 0
section
variable {cf : CF} (hcf : cf = ev env)
include hcf
theorem s60 (u : List UInt8) (ws : List (List UInt8)) (hl : ws.length ≤ 1000000) : cf 60 [.sl ws.length false (ws.map sB), .str ⟨u.toArray⟩] [] = some (.int .i64 (idxS u ws 0), []) := by
  refine ev_ofC' hcf env60 ?_
  conv => arg 2; simp only [ir60]
  conv => arg 3; simp only [ir60, Go.Proofs.YtcphpiboamlanaaEv.start, List.length, Nat.reduceAdd, Nat.reduceSub, List.reduceReplicate, List.append_eq, List.cons_append, List.nil_append]
  conv => arg 4; simp only [heapOf]
  try conv => arg 5; simp only [List.length, Nat.reduceAdd]
  try conv => arg 6; simp only [List.length, Nat.reduceAdd]
  refine EVgo9 trivial trivial trivial trivial trivial trivial trivial trivial trivial trivial trivial trivial ?_
  refine WC.loop (T' := _) (H' := _) (n' := _) rfl ((?_ : ∀ (k i : Nat), i + k = ws.length → idxS u ws 0 = idxS u (ws.drop i) i →
    WC cf _ (mkT 19 [(0, .sl ws.length false (ws.map sB)), (1, .str ⟨u.toArray⟩), (7, .int .i64 (ws.length : Nat)), (8, .int .i64 (i : Nat))]) [] 0 0 _) ws.length 0 (by omega) rfl)
  intro k
  induction k with
  | zero =>
    intro i hi hx
    obtain rfl : i = ws.length := by omega
    rw [hx, List.drop_length]
    conv => arg 3; simp only [mkT, putT, List.reduceReplicate, List.set]
    refine EVgl9 trivial trivial trivial trivial trivial trivial trivial trivial trivial trivial trivial trivial ?_
    exact WQ.ret rfl
  | succ k ih =>
    intro i hi hx
    have hlt' : i < ws.length := by omega
    have hlt : (i : Int) < (ws.length : Int) := by omega
    have hw : IntKind.i64.wrap ((i : Int) + 1) = ((i + 1 : Nat) : Int) := by rw [i64_in _ (by omega)]; simp
    have e0 : (ws.map sB).drop i = .str ⟨(ws[i]).toArray⟩ :: (ws.drop (i + 1)).map sB := by
      rw [← List.map_drop, List.drop_eq_getElem_cons hlt']
      rfl
    rw [idxS_drop u hlt'] at hx
    have hih := ih (i + 1) (by omega)
    by_cases hp : u = ws[i]
    · have hb : ((⟨u.toArray⟩ : ByteArray).toList == (⟨(ws[i]).toArray⟩ : ByteArray).toList) = true := by rw [toL, toL]; exact beq_iff_eq.2 hp
      rw [if_pos hp] at hx
      rw [hx]
      conv => arg 3; simp only [mkT, putT, List.reduceReplicate, List.set]
      refine EVgo9 (And.intro (hlt) ( And.intro (e0) (hb))) trivial trivial trivial trivial trivial trivial trivial trivial trivial trivial trivial ?_
      exact WQ.ret rfl
    · have hb : ((⟨u.toArray⟩ : ByteArray).toList == (⟨(ws[i]).toArray⟩ : ByteArray).toList) = false := by rw [toL, toL]; exact beq_eq_false_iff_ne.2 hp
      rw [if_neg hp] at hx
      conv => arg 3; simp only [mkT, putT, List.reduceReplicate, List.set]
      refine EVgo9 (And.intro (hlt) ( And.intro (e0) ( And.intro (hw) (hb)))) trivial trivial trivial trivial trivial trivial trivial trivial trivial trivial trivial ?_
      exact WC.loop rfl (hih hx)
end
end Go.Proofs.YtcphpiboamlanaaR
