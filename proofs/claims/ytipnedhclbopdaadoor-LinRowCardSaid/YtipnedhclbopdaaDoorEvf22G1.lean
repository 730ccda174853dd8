/- ours; a row with one element set; small laws of sums. -/
import Derived.Test.YtipnedhclbopdaaDoorEvf22E2
open Go Go.Proofs.YtipnedhclbopdaaDoorEv Go.Proofs.YtipnedhclbopdaaDoorR Go.IntWalk Go.Proofs
set_option maxRecDepth 20000
set_option maxHeartbeats 8000000
set_option linter.unusedVariables false
set_option linter.unusedSimpArgs false
namespace Go.Proofs.YtipnedhclbopdaaDoorR
theorem takeT7 (l : List Ot) (i : Nat) : (flat encT l).take (i * 7) = flat encT (l.take i) := flat_take (enc := encT) (es := 7) (fun _ => rfl) l i
theorem dropT7 (l : List Ot) (i : Nat) : (flat encT l).drop (i * 7) = flat encT (l.drop i) := flat_drop (enc := encT) (es := 7) (fun _ => rfl) l i
theorem set_T (l : List Ot) (k : Nat) (a b c d : Int) (e : Bool) (f g : Int) (hk : k < l.length) : (flat encT l).take (k * 7) ++ [PV.int .i64 a, .int .i64 b, .int .i64 c, .int .i64 d, .bool e, .int .i64 f, .int .i64 g] ++ (flat encT l).drop (k * 7 + 7) = flat encT (l.set k (a, b, c, d, e, f, g)) := by
  have e1 : k * 7 + 7 = (k + 1) * 7 := by omega
  rw [e1, takeT7, dropT7, List.set_eq_take_append_cons_drop, if_pos hk, flat_append, flat_cons, List.append_assoc]
  rfl
theorem rem_eq {x y : Int} (hy : y ≠ 0) : binV .rem (.int .i64 x) (.int .i64 y) = some (.int .i64 (x.tmod y)) := by
  simp [binV, binOp, pureOf, hy, go_sem]
  rfl
theorem k_rem {cf : CF} {new : Nat} {T : List PV} {H : Heap} {a b : X} {x y : Int} (hy : y ≠ 0) (ha : valT T a = .int .i64 x) (hb : valT T b = .int .i64 y) : EK cf (.bin .rem a b) new T H (.int .i64 (x.tmod y)) [] := ⟨by
  simp only [evalK, ha, hb, rem_eq hy]⟩
/-- a number cut to the list's places -/
theorem pick_lt (i : Int) {n : Nat} (hn : 0 < n) : ∃ k : Nat, k < n ∧ (andI i 65535).tmod (n : Int) = (k : Int) := by
  obtain ⟨k, hk, _⟩ := andI_le i 65535 (by decide)
  have hk' : andI i 65535 = (k : Int) := hk
  refine ⟨k % n, Nat.mod_lt _ hn, ?_⟩
  rw [hk']
  exact (Int.ofNat_tmod k n).symm
section
variable {cf : CF} (hcf : cf = ev env)
include hcf
theorem s14 (l : List Ot) (hl : l.length ≤ 1000) : Sp cf 14 [slT l] (slT l) := by
  refine sp_of hcf env14 ?_
  simp only [slT]
  conv => arg 2; simp only [ir14]
  conv => arg 3; simp only [ir14, Go.Proofs.YtipnedhclbopdaaDoorEv.start, List.length, Nat.reduceAdd, Nat.reduceSub, List.reduceReplicate, List.append_eq, List.cons_append, List.nil_append]
  conv => arg 4; simp only [heapOf]
  try conv => arg 5; simp only [List.length, Nat.reduceAdd]
  try conv => arg 6; simp only [List.length, Nat.reduceAdd]
  refine EVgo9 trivial trivial trivial trivial trivial trivial trivial trivial trivial trivial trivial trivial ?_
  refine WC.loop (T' := _) (H' := _) (n' := _) rfl ((?_ : ∀ (r p : List Ot), p ++ r = l →
    WC cf _ (mkT 20 [(0, .sl l.length false (flat encT l)), (3, .own 0 7 0 p.length), (4, .int .i64 (p.length : Nat))]) [(0, .row (flat encT p))] 0 1 _) l [] rfl)
  intro r
  induction r with
  | nil =>
    intro p hp
    rw [List.append_nil] at hp
    subst hp
    have e2 := allT p
    conv => arg 3; simp only [mkT, putT, List.reduceReplicate, List.set]
    refine EVgl9 trivial trivial trivial trivial trivial trivial trivial trivial trivial trivial trivial trivial ?_
    exact EVret (e2)
  | cons x r ih =>
    intro p hp
    have h11 := s11 hcf x
    have hih := ih (p ++ [x]) (by rw [List.append_assoc]; exact hp)
    obtain ⟨a, b, c, d, e, f, g⟩ := x
    have hlen : l.length = p.length + (r.length + 1) := by rw [← hp]; simp
    have hlt : (p.length : Int) < (l.length : Int) := by omega
    have hw : IntKind.i64.wrap ((p.length : Int) + 1) = ((p.length + 1 : Nat) : Int) := by rw [i64_in _ (by omega)]; simp
    have eK := mid_T hp
    have e1 := lenT p
    have e2 := allT p
    have e3 := snocT p a b c d e f g
    rw [snoc_len] at hih
    simp only [encT] at h11
    conv => arg 3; simp only [mkT, putT, List.reduceReplicate, List.set]
    refine EVgo9 (And.intro (hlt) ( And.intro (hw) ( And.intro (eK) ( And.intro (e1) ( And.intro (e2) (e3)))))) (h11) trivial trivial trivial trivial trivial trivial trivial trivial trivial trivial ?_
    exact WC.loop rfl hih
end
end Go.Proofs.YtipnedhclbopdaaDoorR
