/- Evs23G: a part of the proof. -/
import Derived.Test.YthmfjkakpefkeaaEvs23D
open Go Go.Proofs.YthmfjkakpefkeaaEv Go.Proofs.YthmfjkakpefkeaaR Go.IntWalk
set_option maxRecDepth 20000
set_option maxHeartbeats 8000000
set_option linter.unusedVariables false
set_option linter.unusedSimpArgs false
namespace Go.Proofs.YthmfjkakpefkeaaR
def few (m : Scr) : Bool := !(m.tasks.any fun t => decide ((t.1.size : Int) > 100)) && (((decide ((m.text.size : Int) ≤ 700) && decide ((m.objs.length : Int) ≤ 10)) && decide ((m.tasks.length : Int) ≤ 10)) && decide ((m.choices.length : Int) ≤ 300))
section
variable {cf : CF} (hcf : cf = ev env)
include hcf
theorem s13 (t1 t2 t3 u1 u2 u3 : Bool) (m : Scr) (ho : m.objs.length < 4294967296) (hk : m.tasks.length < 4294967296) (hc : m.choices.length < 4294967296) : cf 13 [inS t1 t2 t3 m, inS u1 u2 u3 m] [] = some (.bool true, []) := by
  obtain ⟨x, o, k, n, c⟩ := m
  simp only at ho hk hc
  refine ev_ofC' hcf env13 ?_
  simp only [inS]
  conv => arg 2; simp only [ir13]
  conv => arg 3; simp only [ir13, Go.Proofs.YthmfjkakpefkeaaEv.start, List.length, Nat.reduceAdd, Nat.reduceSub, List.reduceReplicate, List.append_eq, List.cons_append, List.nil_append]
  conv => arg 4; simp only [heapOf]
  try conv => arg 5; simp only [List.length, Nat.reduceAdd]
  try conv => arg 6; simp only [List.length, Nat.reduceAdd]
  refine EVgl2 trivial trivial trivial trivial trivial ?_
  refine WC.loop (T' := _) (H' := _) (n' := _) rfl ((?_ : ∀ (m i : Nat), i + m = o.length →
    WC cf _ (mkT 101 [(2, .ptr 0 0), (3, .ptr 1 0), (5, .int .i64 (i : Nat))])
      [(0, .box [.str x, .sl o.length t1 (flat encO o), .sl k.length t2 (flat encT k), .int .i64 n, .sl c.length t3 (flat encC c)]), (1, .box [.str x, .sl o.length u1 (flat encO o), .sl k.length u2 (flat encT k), .int .i64 n, .sl c.length u3 (flat encC c)])] 0 2 _) o.length 0 (by omega))
  intro m
  induction m with
  | zero =>
    intro i hi
    obtain rfl : i = o.length := by omega
    conv => arg 3; simp only [mkT, putT, List.reduceReplicate, List.set]
    refine EVgl2 trivial trivial trivial trivial trivial ?_
    refine WC.loop (T' := _) (H' := _) (n' := _) rfl ((?_ : ∀ (m i : Nat), i + m = k.length →
      WC cf _ (mkT 101 [(2, .ptr 0 0), (3, .ptr 1 0), (6, .int .i64 (i : Nat))])
        [(0, .box [.str x, .sl o.length t1 (flat encO o), .sl k.length t2 (flat encT k), .int .i64 n, .sl c.length t3 (flat encC c)]), (1, .box [.str x, .sl o.length u1 (flat encO o), .sl k.length u2 (flat encT k), .int .i64 n, .sl c.length u3 (flat encC c)])] 0 2 _) k.length 0 (by omega))
    intro m
    induction m with
    | zero =>
      intro i hi
      obtain rfl : i = k.length := by omega
      conv => arg 3; simp only [mkT, putT, List.reduceReplicate, List.set]
      refine EVgl2 trivial trivial trivial trivial trivial ?_
      refine WC.loop (T' := _) (H' := _) (n' := _) rfl ((?_ : ∀ (m i : Nat), i + m = c.length →
        WC cf _ (mkT 101 [(2, .ptr 0 0), (3, .ptr 1 0), (7, .int .i64 (i : Nat))])
          [(0, .box [.str x, .sl o.length t1 (flat encO o), .sl k.length t2 (flat encT k), .int .i64 n, .sl c.length t3 (flat encC c)]), (1, .box [.str x, .sl o.length u1 (flat encO o), .sl k.length u2 (flat encT k), .int .i64 n, .sl c.length u3 (flat encC c)])] 0 2 _) c.length 0 (by omega))
      intro m
      induction m with
      | zero =>
        intro i hi
        obtain rfl : i = c.length := by omega
        conv => arg 3; simp only [mkT, putT, List.reduceReplicate, List.set]
        refine EVgl2 trivial trivial trivial trivial trivial ?_
        exact WQ.ret rfl
      | succ m ih =>
        intro i hi
        have hlt : (i : Int) < (c.length : Int) := by omega
        have hlt' : i < c.length := by omega
        have hw := wi i c.length m (by omega) (by omega)
        have e0 := flat_at (enc := encC) (es := 3) (fun _ => rfl) hlt'
        generalize hx0 : c[i] = y at e0
        obtain ⟨y1, y2, y3⟩ := y
        conv => arg 3; simp only [mkT, putT, List.reduceReplicate, List.set]
        refine EVgl2 (And.intro (hlt) ( And.intro (hw) ( And.intro (e0) (@encC.eq_1)))) trivial trivial trivial trivial ?_
        exact WC.loop rfl (ih (i + 1) (by omega))
    | succ m ih =>
      intro i hi
      have hlt : (i : Int) < (k.length : Int) := by omega
      have hlt' : i < k.length := by omega
      have hw := wi i k.length m (by omega) (by omega)
      have e0 := flat_at (enc := encT) (es := 2) (fun _ => rfl) hlt'
      generalize hx0 : k[i] = y at e0
      obtain ⟨y1, y2⟩ := y
      conv => arg 3; simp only [mkT, putT, List.reduceReplicate, List.set]
      refine EVgl2 (And.intro (hlt) ( And.intro (hw) ( And.intro (e0) (@encT.eq_1)))) trivial trivial trivial trivial ?_
      exact WC.loop rfl (ih (i + 1) (by omega))
  | succ m ih =>
    intro i hi
    have hlt : (i : Int) < (o.length : Int) := by omega
    have hlt' : i < o.length := by omega
    have hw := wi i o.length m (by omega) (by omega)
    have e0 := flat_at (enc := encO) (es := 3) (fun _ => rfl) hlt'
    generalize hx0 : o[i] = y at e0
    obtain ⟨y1, y2, y3⟩ := y
    conv => arg 3; simp only [mkT, putT, List.reduceReplicate, List.set]
    refine EVgl2 (And.intro (hlt) ( And.intro (hw) ( And.intro (e0) ( And.intro (@encO.eq_1) (lenO))))) trivial trivial trivial trivial ?_
    exact WC.loop rfl (ih (i + 1) (by omega))
theorem s7 (t1 t2 t3 : Bool) (m : Scr) (hk : m.tasks.length < 9223372036854775808) : cf 7 [inS t1 t2 t3 m] [] = some (.bool (few m), []) := by
  obtain ⟨x, o, k, n, c⟩ := m
  simp only at hk
  refine ev_ofC' hcf env7 ?_
  simp only [inS]
  conv => arg 2; simp only [ir7]
  conv => arg 3; simp only [ir7, Go.Proofs.YthmfjkakpefkeaaEv.start, List.length, Nat.reduceAdd, Nat.reduceSub, List.reduceReplicate, List.append_eq, List.cons_append, List.nil_append]
  conv => arg 4; simp only [heapOf]
  try conv => arg 5; simp only [List.length, Nat.reduceAdd]
  try conv => arg 6; simp only [List.length, Nat.reduceAdd]
  refine EVgo2 trivial trivial trivial trivial trivial ?_
  refine WC.loop (T' := _) (H' := _) (n' := _) rfl ((?_ : ∀ (m i : Nat), i + m = k.length → (k.take i).any (fun t => decide ((t.1.size : Int) > 100)) = false →
    WC cf _ (mkT 41 [(1, .ptr 0 0), (3, .int .i64 (i : Nat))])
      [(0, .box [.str x, .sl o.length t1 (flat encO o), .sl k.length t2 (flat encT k), .int .i64 n, .sl c.length t3 (flat encC c)])] 0 1 _) k.length 0 (by omega) rfl)
  intro m
  induction m with
  | zero =>
    intro i hi hx
    obtain rfl : i = k.length := by omega
    rw [List.take_length] at hx
    simp only [few, hx]
    conv => arg 3; simp only [mkT, putT, List.reduceReplicate, List.set]
    refine EVgl2 trivial trivial trivial trivial trivial ?_
    by_cases h1 : (x.size : Int) ≤ 700
    · by_cases h2 : (o.length : Int) ≤ 10
      · by_cases h3 : (k.length : Int) ≤ 10
        · refine EVgo2 (And.intro (h1) ( And.intro (h2) (h3))) trivial trivial trivial trivial ?_
          simp only [h1, h2, h3, decide_true, Bool.not_false, Bool.true_and]
          exact WQ.ret rfl
        · refine EVgo2 (And.intro (h1) ( And.intro (h2) (h3))) trivial trivial trivial trivial ?_
          simp only [h1, h2, h3, decide_true, decide_false, Bool.not_false, Bool.true_and, Bool.false_and]
          exact WQ.ret rfl
      · refine EVgo2 (And.intro (h1) (h2)) trivial trivial trivial trivial ?_
        simp only [h1, h2, decide_true, decide_false, Bool.not_false, Bool.true_and, Bool.false_and]
        exact WQ.ret rfl
    · refine EVgo2 (h1) trivial trivial trivial trivial ?_
      simp only [h1, decide_true, decide_false, Bool.not_false, Bool.true_and, Bool.false_and]
      exact WQ.ret rfl
  | succ m ih =>
    intro i hi hx
    have hlt : (i : Int) < (k.length : Int) := by omega
    have hlt' : i < k.length := by omega
    have hw : IntKind.i64.wrap ((i : Int) + 1) = ((i + 1 : Nat) : Int) := by rw [i64_in _ (by omega)]; simp
    have e0 := flat_at (enc := encT) (es := 2) (fun _ => rfl) hlt'
    generalize hx0 : k[i] = y at e0
    obtain ⟨y1, y2⟩ := y
    conv => arg 3; simp only [mkT, putT, List.reduceReplicate, List.set]
    by_cases hy : (y1.size : Int) > 100
    · refine EVgo2 (And.intro (hlt) ( And.intro (hw) ( And.intro (e0) ( And.intro (@encT.eq_1) ( And.intro (lenT) (hy)))))) trivial trivial trivial trivial ?_
      have hf : few ⟨x, o, k, n, c⟩ = false := by
        have hm : (k.any fun t => decide ((t.1.size : Int) > 100)) = true := List.any_eq_true.2 ⟨(y1, y2), by rw [← hx0]; exact List.getElem_mem hlt', by simpa using hy⟩
        simp only [few, hm, Bool.not_true, Bool.false_and]
      rw [hf]
      exact WQ.ret rfl
    · refine EVgo2 (And.intro (hlt) ( And.intro (hw) ( And.intro (e0) ( And.intro (@encT.eq_1) ( And.intro (lenT) (hy)))))) trivial trivial trivial trivial ?_
      refine WC.loop rfl (ih (i + 1) (by omega) ?_)
      rw [List.take_succ_eq_append_getElem hlt', List.any_append, hx, hx0]
      simpa using hy
end
end Go.Proofs.YthmfjkakpefkeaaR
