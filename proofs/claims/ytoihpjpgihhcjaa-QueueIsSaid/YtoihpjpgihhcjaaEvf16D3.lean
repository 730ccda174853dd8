/- Evf16D3: a part of the proof. -/
import Derived.Test.YtoihpjpgihhcjaaEvf16D2
open Go Go.Proofs.YtoihpjpgihhcjaaEv Go.Proofs.YtoihpjpgihhcjaaR Go.IntWalk Go.Proofs
set_option maxRecDepth 20000
set_option maxHeartbeats 8000000
set_option linter.unusedVariables false
set_option linter.unusedSimpArgs false
namespace Go.Proofs.YtoihpjpgihhcjaaR
def nilX : It := (0, 0, 0)
theorem at_X {l : List It} {i : Nat} (hi : i < l.length) : (flat encX l).drop (i * 3) = PV.int .i64 (l.getD i nilX).1 :: .int .i64 (l.getD i nilX).2.1 :: .int .i64 (l.getD i nilX).2.2 :: flat encX (l.drop (i + 1)) := by
  have := flat_at (enc := encX) (es := 3) (fun _ => rfl) hi
  rw [this, List.getD_eq_getElem?_getD, List.getElem?_eq_getElem hi]
  rfl
theorem takeX (l : List It) (i : Nat) : (flat encX l).take (i * 3) = flat encX (l.take i) := flat_take (enc := encX) (es := 3) (fun _ => rfl) l i
theorem dropX (l : List It) (i : Nat) : (flat encX l).drop (i * 3) = flat encX (l.drop i) := flat_drop (enc := encX) (es := 3) (fun _ => rfl) l i
theorem appX (a b : List It) : flat encX a ++ flat encX b = flat encX (a ++ b) := (flat_append a b).symm
theorem getD_mem {l : List It} {i : Nat} (hi : i < l.length) : l.getD i nilX ∈ l := by rw [List.getD_eq_getElem?_getD, List.getElem?_eq_getElem hi]; exact List.getElem_mem hi
theorem mids : ∀ i j : Fin 9, IntKind.i64.wrap ((IntKind.u64.wrap (IntKind.i64.wrap (((i.1 : Nat) : Int) + ((j.1 : Nat) : Int)))).fdiv (2 ^ min 1 IntKind.u64.bits)) = (((i.1 + j.1) / 2 : Nat) : Int) := by decide +kernel
theorem mid_eq {i j : Nat} (hi : i ≤ 8) (hj : j ≤ 8) : IntKind.i64.wrap ((IntKind.u64.wrap (IntKind.i64.wrap ((i : Int) + (j : Int)))).fdiv (2 ^ min 1 IntKind.u64.bits)) = (((i + j) / 2 : Nat) : Int) := mids ⟨i, by omega⟩ ⟨j, by omega⟩
theorem rem_eq {x y : Int} (hy : y ≠ 0) : binV .rem (.int .i64 x) (.int .i64 y) = some (.int .i64 (x.tmod y)) := by
  simp [binV, binOp, pureOf, hy, go_sem]
  rfl
theorem k_rem {cf : CF} {new : Nat} {T : List PV} {H : Heap} {a b : X} {x y : Int} (hy : y ≠ 0) (ha : valT T a = .int .i64 x) (hb : valT T b = .int .i64 y) : EK cf (.bin .rem a b) new T H (.int .i64 (x.tmod y)) [] := ⟨by
  simp only [evalK, ha, hb, rem_eq hy]⟩
theorem clone0_32 (l : List It) (h : l.length ≤ 1000000) (hp : 0 < l.length) : ev env0 32 [slX l] [] = some (.own 0 3 0 l.length, [some (.row (flat encX l))]) := by
  refine ev_ofC envZ32 ?_
  have hne : l.length ≠ 0 := by omega
  simp only [slX]
  conv => arg 2; simp only [ir32]
  conv => arg 3; simp only [ir32, Go.Proofs.YtoihpjpgihhcjaaEv.start, List.length, Nat.reduceAdd, Nat.reduceSub, List.reduceReplicate, List.append_eq, List.cons_append, List.nil_append]
  conv => arg 4; simp only [heapOf]
  try conv => arg 5; simp only [List.length, Nat.reduceAdd]
  try conv => arg 6; simp only [List.length, Nat.reduceAdd]
  refine EVgo9 trivial trivial trivial trivial trivial trivial trivial trivial trivial trivial (k_eqNil_sl rfl hne) trivial ?_
  refine EVgo9 (lenX) trivial trivial trivial trivial trivial trivial trivial trivial trivial trivial trivial ?_
  exact WQ.ret rfl
section
variable {cf : CF} (hcf : cf = ev env)
include hcf
theorem s32 (l : List It) (h : l.length ≤ 1000000) : cf 32 [slX l] [] = some (.own 0 3 0 l.length, [some (.row (flat encX l))]) := by
  subst hcf
  cases l with
  | nil => exact ev_prim ((env_but 32 (by decide) (by decide)).trans envhP32) _ _ rfl
  | cons x l => exact ev_prim ((env_but 32 (by decide) (by decide)).trans envhP32) _ _ (clone0_32 (x :: l) h (by simp))
theorem s31 (l : List It) (x : It) (k : Nat) (hk : k ≤ l.length) (h : l.length ≤ 1000000) : cf 31 [.own 0 3 0 l.length, .int .i64 (k : Nat), .own 1 3 0 1] [some (.row (flat encX l)), some (.row (encX x))] = some (.own 2 3 0 (l.length + 1), [none, some (.row (encX x)), some (.row (flat encX (l.take k ++ x :: l.drop k)))]) := by
  subst hcf
  refine ev_prim env31 _ _ ?_
  unfold insG
  simp only [Int.toNat_natCast]
  rw [if_pos ⟨by omega, hk, h, lenX l, rfl⟩, takeX, dropX]
  have : flat encX (l.take k) ++ encX x ++ flat encX (l.drop k) = flat encX (l.take k ++ x :: l.drop k) := by
    rw [List.append_assoc, ← flat_cons, appX]
  rw [this]
theorem s44 (l : List It) (k : Nat) (hk : k < l.length) (h : l.length ≤ 1000000) : cf 44 [.own 0 3 0 l.length, .int .i64 (k : Nat), .int .i64 ((k + 1 : Nat) : Int)] [some (.row (flat encX l))] = some (.own 0 3 0 (l.length - 1), [some (.row (flat encX (l.take k ++ l.drop (k + 1))))]) := by
  subst hcf
  refine ev_prim env44 _ _ ?_
  unfold delG
  simp only [Int.toNat_natCast]
  rw [if_pos ⟨by omega, by omega, hk, h, lenX l⟩, takeX, dropX, appX]
theorem s30 (l : List It) (x : It) (k : Nat) (h8 : l.length ≤ 8) (hx : Sml x) (hl : ∀ y ∈ l, Sml y) (hkl : k ≤ l.length) (hk : ∀ i, i < l.length → (ordI (l.getD i nilX) x < 0 ↔ i < k)) :
    ∃ f, cf 30 [slX l, .agg (encX x), .fn 27 [] []] [] = some (.tup [.int .i64 (k : Nat), .bool f], []) := by
  have h27 := fun (i : Nat) (hi : i < l.length) => (s27 hcf (l.getD i nilX) x (hl _ (getD_mem hi)) hx).ok [.agg (encX (l.getD i nilX)), .agg (encX x)] rfl rfl
  refine ⟨decide (k < l.length) && (ordI (l.getD k nilX) x == 0), ?_⟩
  obtain ⟨a, b, c⟩ := x
  refine ev_ofC' hcf env30 ?_
  simp only [slX, encX] at *
  conv => arg 2; simp only [ir30]
  conv => arg 3; simp only [ir30, Go.Proofs.YtoihpjpgihhcjaaEv.start, List.length, Nat.reduceAdd, Nat.reduceSub, List.reduceReplicate, List.append_eq, List.cons_append, List.nil_append]
  conv => arg 4; simp only [heapOf]
  try conv => arg 5; simp only [List.length, Nat.reduceAdd]
  try conv => arg 6; simp only [List.length, Nat.reduceAdd]
  refine EVgo9 trivial trivial trivial trivial trivial trivial trivial trivial trivial trivial trivial trivial ?_
  refine WC.loop (T' := _) (H' := _) (n' := _) rfl ((?_ : ∀ (d i j : Nat), i + d = j → i ≤ k → k ≤ j → j ≤ l.length → WC cf _ (mkT 49 [(0, .sl l.length false (flat encX l)), (2, .fn 27 [] []), (4, .ptr 0 0), (8, .int .i64 (l.length : Nat)), (9, .int .i64 (i : Nat)), (10, .int .i64 (j : Nat))]) [(0, .box [.int .i64 a, .int .i64 b, .int .i64 c])] 0 1 _) l.length 0 l.length (by omega) (by omega) hkl (Nat.le_refl _))
  intro d
  induction d using Nat.strongRecOn with
  | ind d ih =>
    intro i j hd hik hkj hjl
    by_cases hij : i < j
    · have hij' : (i : Int) < (j : Int) := by omega
      have hm := mid_eq (i := i) (j := j) (by omega) (by omega)
      obtain ⟨m, hmm⟩ : ∃ m, m = (i + j) / 2 := ⟨_, rfl⟩
      rw [← hmm] at hm
      have him : i ≤ m := by omega
      have hmj : m < j := by omega
      have hml : m < l.length := by omega
      have hlt : (m : Int) < (l.length : Int) := by omega
      have eK := at_X hml
      have h27' := h27 m hml
      have hkm := hk m hml
      have hw : IntKind.i64.wrap ((m : Int) + 1) = ((m + 1 : Nat) : Int) := by rw [i64_in _ (by omega)]; simp
      generalize ordI (l.getD m nilX) (a, b, c) = o at *
      generalize l.getD m nilX = y at *
      by_cases ho : o < 0
      · have := hkm.1 ho
        have hih := ih (j - (m + 1)) (by omega) (m + 1) j (by omega) (by omega) hkj hjl
        conv => arg 3; simp only [mkT, putT, List.reduceReplicate, List.set]
        refine EVgo9 (And.intro (hij') (hm)) trivial trivial trivial trivial trivial trivial trivial trivial trivial trivial trivial ?_
        refine EVgo9 (And.intro (hlt) ( And.intro (eK) ( And.intro (ho) (hw)))) (h27') trivial trivial trivial trivial trivial trivial trivial trivial trivial trivial ?_
        exact WC.loop rfl hih
      · have : ¬ m < k := fun q => ho (hkm.2 q)
        have hih := ih (m - i) (by omega) i m (by omega) hik (by omega) (by omega)
        conv => arg 3; simp only [mkT, putT, List.reduceReplicate, List.set]
        refine EVgo9 (And.intro (hij') (hm)) trivial trivial trivial trivial trivial trivial trivial trivial trivial trivial trivial ?_
        refine EVgo9 (And.intro (hlt) ( And.intro (eK) (ho))) (h27') trivial trivial trivial trivial trivial trivial trivial trivial trivial trivial ?_
        exact WC.loop rfl hih
    · have hij' : ¬ (i : Int) < (j : Int) := by omega
      obtain rfl : i = k := by omega
      by_cases hil : i < l.length
      · have hlt : (i : Int) < (l.length : Int) := by omega
        have eK := at_X hil
        have h27' := h27 i hil
        rw [decide_eq_true hil]
        generalize ordI (l.getD i nilX) (a, b, c) = o at *
        generalize l.getD i nilX = y at *
        conv => arg 3; simp only [mkT, putT, List.reduceReplicate, List.set]
        refine EVgo9 (hij') trivial trivial trivial trivial trivial trivial trivial trivial trivial trivial trivial ?_
        refine EVgo9 (And.intro (hlt) (eK)) (h27') trivial trivial trivial trivial trivial trivial trivial trivial trivial trivial ?_
        exact WQ.ret rfl
      · have hlt : ¬ (i : Int) < (l.length : Int) := by omega
        rw [decide_eq_false hil]
        conv => arg 3; simp only [mkT, putT, List.reduceReplicate, List.set]
        refine EVgo9 (hij') trivial trivial trivial trivial trivial trivial trivial trivial trivial trivial trivial ?_
        refine EVgo9 (hlt) trivial trivial trivial trivial trivial trivial trivial trivial trivial trivial trivial ?_
        exact WQ.ret rfl
end
end Go.Proofs.YtoihpjpgihhcjaaR
