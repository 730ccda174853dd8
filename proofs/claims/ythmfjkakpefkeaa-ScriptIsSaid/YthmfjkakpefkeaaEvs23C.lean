/- Evs23C: a part of the proof. -/
import Derived.Test.YthmfjkakpefkeaaEvs23A
open Go Go.Proofs.YthmfjkakpefkeaaEv Go.Proofs.YthmfjkakpefkeaaR Go.IntWalk
set_option maxRecDepth 20000
set_option maxHeartbeats 8000000
set_option linter.unusedVariables false
set_option linter.unusedSimpArgs false
namespace Go.Proofs.YthmfjkakpefkeaaR
def mayO (o : Int × Int × Int) : Bool := decide (0 ≤ o.1 ∧ o.1 ≤ 3) && (decide (0 ≤ o.2.1 ∧ o.2.1 ≤ 65535) && decide (0 ≤ o.2.2 ∧ o.2.2 ≤ 255))
def mayT (o : ByteArray × Int) : Bool := decide ((o.1.size : Int) ≤ 31) && decide (0 ≤ o.2 ∧ o.2 ≤ 4)
def mayC (o : Bool × Int × Bool) : Bool := decide (0 ≤ o.2.1 ∧ o.2.1 ≤ 63)
def idx {α : Type} (p : α → Bool) : List α → Nat → Int
  | [], _ => -1
  | x :: r, i => if p x = true then (i : Int) else idx p r (i + 1)
theorem idx_ge {α : Type} (p : α → Bool) : ∀ (l : List α) (i : Nat), decide (0 ≤ idx p l i) = l.any p
  | [], i => by simp [idx]
  | x :: r, i => by
    simp only [idx, List.any_cons]
    by_cases hp : p x = true
    · simp [hp]
    · have hp' : p x = false := by simpa using hp
      simpa [hp'] using idx_ge p r (i + 1)
section
variable {cf : CF} (hcf : cf = ev env)
include hcf
theorem s6 : cf 6 [] [] = some (.bool true, []) := by
  rw [hcf]
  refine ev_eq (n := 60) ?_
  kernel_rfl
omit hcf in
theorem wi (i n m : Nat) (h : i + (m + 1) = n) (hn : n < 4294967297) : IntKind.i64.wrap ((i : Int) + 1) = ((i + 1 : Nat) : Int) := by rw [i64_in _ (by omega)]; simp
theorem s18 (o : Int × Int × Int) : cf 18 [.agg (encO o)] [] = some (.bool (mayO o), []) := by
  obtain ⟨a, b, c⟩ := o
  refine ev_ofC' hcf env18 ?_
  simp only [encO, mayO]
  conv => arg 2; simp only [ir18]
  conv => arg 3; simp only [ir18, Go.Proofs.YthmfjkakpefkeaaEv.start, List.length, Nat.reduceAdd, Nat.reduceSub, List.reduceReplicate, List.append_eq, List.cons_append, List.nil_append]
  conv => arg 4; simp only [heapOf]
  try conv => arg 5; simp only [List.length, Nat.reduceAdd]
  try conv => arg 6; simp only [List.length, Nat.reduceAdd]
  refine EVgo2 trivial (s22 hcf a 3) trivial trivial trivial ?_
  generalize decide (0 ≤ a ∧ a ≤ 3) = p
  cases p
  · refine EVgo2 trivial trivial trivial trivial trivial ?_
    exact WQ.ret rfl
  · refine EVgo2 trivial (s22 hcf b 65535) trivial trivial trivial ?_
    generalize decide (0 ≤ b ∧ b ≤ 65535) = p
    cases p
    · refine EVgo2 trivial trivial trivial trivial trivial ?_
      exact WQ.ret rfl
    · refine EVgo2 trivial (s22 hcf c 255) trivial trivial trivial ?_
      exact WQ.ret rfl
theorem s20 (o : ByteArray × Int) : cf 20 [.agg (encT o)] [] = some (.bool (mayT o), []) := by
  obtain ⟨a, b⟩ := o
  refine ev_ofC' hcf env20 ?_
  simp only [encT, mayT]
  conv => arg 2; simp only [ir20]
  conv => arg 3; simp only [ir20, Go.Proofs.YthmfjkakpefkeaaEv.start, List.length, Nat.reduceAdd, Nat.reduceSub, List.reduceReplicate, List.append_eq, List.cons_append, List.nil_append]
  conv => arg 4; simp only [heapOf]
  try conv => arg 5; simp only [List.length, Nat.reduceAdd]
  try conv => arg 6; simp only [List.length, Nat.reduceAdd]
  refine EVgo2 trivial trivial trivial trivial trivial ?_
  generalize decide ((a.size : Int) ≤ 31) = p
  cases p
  · refine EVgo2 trivial trivial trivial trivial trivial ?_
    exact WQ.ret rfl
  · refine EVgo2 trivial (s22 hcf b 4) trivial trivial trivial ?_
    exact WQ.ret rfl
theorem s17 (o : Int × Int × Int) : cf 17 [.agg (encO o)] [] = some (.bool (!mayO o), []) := by
  refine ev_ofC' hcf env17 ?_
  obtain ⟨a, b, c⟩ := o
  simp only [encO]
  conv => arg 2; simp only [ir17]
  conv => arg 3; simp only [ir17, Go.Proofs.YthmfjkakpefkeaaEv.start, List.length, Nat.reduceAdd, Nat.reduceSub, List.reduceReplicate, List.append_eq, List.cons_append, List.nil_append]
  conv => arg 4; simp only [heapOf]
  try conv => arg 5; simp only [List.length, Nat.reduceAdd]
  try conv => arg 6; simp only [List.length, Nat.reduceAdd]
  refine EVgo2 trivial (s18 hcf (a, b, c)) trivial trivial trivial ?_
  exact WQ.ret rfl
theorem s19 (o : ByteArray × Int) : cf 19 [.agg (encT o)] [] = some (.bool (!mayT o), []) := by
  refine ev_ofC' hcf env19 ?_
  obtain ⟨a, b⟩ := o
  simp only [encT]
  conv => arg 2; simp only [ir19]
  conv => arg 3; simp only [ir19, Go.Proofs.YthmfjkakpefkeaaEv.start, List.length, Nat.reduceAdd, Nat.reduceSub, List.reduceReplicate, List.append_eq, List.cons_append, List.nil_append]
  conv => arg 4; simp only [heapOf]
  try conv => arg 5; simp only [List.length, Nat.reduceAdd]
  try conv => arg 6; simp only [List.length, Nat.reduceAdd]
  refine EVgo2 trivial (s20 hcf (a, b)) trivial trivial trivial ?_
  exact WQ.ret rfl
theorem s21 (o : Bool × Int × Bool) : cf 21 [.agg (encC o)] [] = some (.bool (!mayC o), []) := by
  refine ev_ofC' hcf env21 ?_
  obtain ⟨a, b, c⟩ := o
  simp only [encC, mayC]
  conv => arg 2; simp only [ir21]
  conv => arg 3; simp only [ir21, Go.Proofs.YthmfjkakpefkeaaEv.start, List.length, Nat.reduceAdd, Nat.reduceSub, List.reduceReplicate, List.append_eq, List.cons_append, List.nil_append]
  conv => arg 4; simp only [heapOf]
  try conv => arg 5; simp only [List.length, Nat.reduceAdd]
  try conv => arg 6; simp only [List.length, Nat.reduceAdd]
  refine EVgo2 trivial (s22 hcf b 63) trivial trivial trivial ?_
  exact WQ.ret rfl
theorem s38 (l : List (Int × Int × Int)) (t : Bool) (hl : l.length < 4294967296) : cf 38 [.sl l.length t (flat encO l), .fn 17 [] []] [] = some (.int .i64 (idx (fun o => !mayO o) l 0), []) := by
  refine ev_ofC' hcf env38 ?_
  conv => arg 2; simp only [ir38]
  conv => arg 3; simp only [ir38, Go.Proofs.YthmfjkakpefkeaaEv.start, List.length, Nat.reduceAdd, Nat.reduceSub, List.reduceReplicate, List.append_eq, List.cons_append, List.nil_append]
  conv => arg 4; simp only [heapOf]
  try conv => arg 5; simp only [List.length, Nat.reduceAdd]
  try conv => arg 6; simp only [List.length, Nat.reduceAdd]
  refine EVgo2 trivial trivial trivial trivial trivial ?_
  refine WC.loop (T' := _) (H' := _) (n' := _) rfl ((?_ : ∀ (m i : Nat), i + m = l.length → idx (fun o => !mayO o) (l.drop i) i = idx (fun o => !mayO o) l 0 →
    WC cf _ (mkT 19 [(0, .sl l.length t (flat encO l)), (1, .fn 17 [] []), (7, .int .i64 (l.length : Nat)), (8, .int .i64 (i : Nat))]) [] 0 0 _) l.length 0 (by omega) rfl)
  intro m
  induction m with
  | zero =>
    intro i hi hx
    obtain rfl : i = l.length := by omega
    rw [List.drop_length] at hx
    conv => arg 3; simp only [mkT, putT, List.reduceReplicate, List.set]
    refine EVgl2 trivial trivial trivial trivial trivial ?_
    rw [← hx]
    exact WQ.ret rfl
  | succ m ih =>
    intro i hi hx
    have hlt : (i : Int) < (l.length : Int) := by omega
    have hlt' : i < l.length := by omega
    have hw := wi i l.length m (by omega) (by omega)
    have e0 := flat_at (enc := encO) (es := 3) (fun _ => rfl) hlt'
    rw [List.drop_eq_getElem_cons hlt'] at hx
    generalize l[i] = x at e0 hx
    conv => arg 3; simp only [mkT, putT, List.reduceReplicate, List.set]
    refine EVgo2 (And.intro (hlt) (e0)) (s17 hcf x) trivial trivial trivial ?_
    simp only [idx] at hx
    cases hp : mayO x with
    | true =>
      simp only [hp, Bool.not_true, Bool.false_eq_true, if_false] at hx
      refine EVgo2 (And.intro (hp) (hw)) trivial trivial trivial trivial ?_
      exact WC.loop rfl (ih (i + 1) (by omega) hx)
    | false =>
      simp only [hp, Bool.not_false, if_true] at hx
      refine EVgo2 (hp) trivial trivial trivial trivial ?_
      rw [← hx]
      exact WQ.ret rfl
theorem s23 (l : List (Int × Int × Int)) (t : Bool) (hl : l.length < 4294967296) : cf 23 [.sl l.length t (flat encO l), .fn 17 [] []] [] = some (.bool (l.any fun o => !mayO o), []) := by
  refine ev_ofC' hcf env23 ?_
  conv => arg 2; simp only [ir23]
  conv => arg 3; simp only [ir23, Go.Proofs.YthmfjkakpefkeaaEv.start, List.length, Nat.reduceAdd, Nat.reduceSub, List.reduceReplicate, List.append_eq, List.cons_append, List.nil_append]
  conv => arg 4; simp only [heapOf]
  try conv => arg 5; simp only [List.length, Nat.reduceAdd]
  try conv => arg 6; simp only [List.length, Nat.reduceAdd]
  refine EVgo2 (idx_ge (fun o => !mayO o) l 0) (s38 hcf l t hl) trivial trivial trivial ?_
  exact WQ.ret rfl
theorem s39 (l : List (ByteArray × Int)) (t : Bool) (hl : l.length < 4294967296) : cf 39 [.sl l.length t (flat encT l), .fn 19 [] []] [] = some (.int .i64 (idx (fun o => !mayT o) l 0), []) := by
  refine ev_ofC' hcf env39 ?_
  conv => arg 2; simp only [ir39]
  conv => arg 3; simp only [ir39, Go.Proofs.YthmfjkakpefkeaaEv.start, List.length, Nat.reduceAdd, Nat.reduceSub, List.reduceReplicate, List.append_eq, List.cons_append, List.nil_append]
  conv => arg 4; simp only [heapOf]
  try conv => arg 5; simp only [List.length, Nat.reduceAdd]
  try conv => arg 6; simp only [List.length, Nat.reduceAdd]
  refine EVgo2 trivial trivial trivial trivial trivial ?_
  refine WC.loop (T' := _) (H' := _) (n' := _) rfl ((?_ : ∀ (m i : Nat), i + m = l.length → idx (fun o => !mayT o) (l.drop i) i = idx (fun o => !mayT o) l 0 →
    WC cf _ (mkT 19 [(0, .sl l.length t (flat encT l)), (1, .fn 19 [] []), (7, .int .i64 (l.length : Nat)), (8, .int .i64 (i : Nat))]) [] 0 0 _) l.length 0 (by omega) rfl)
  intro m
  induction m with
  | zero =>
    intro i hi hx
    obtain rfl : i = l.length := by omega
    rw [List.drop_length] at hx
    conv => arg 3; simp only [mkT, putT, List.reduceReplicate, List.set]
    refine EVgl2 trivial trivial trivial trivial trivial ?_
    rw [← hx]
    exact WQ.ret rfl
  | succ m ih =>
    intro i hi hx
    have hlt : (i : Int) < (l.length : Int) := by omega
    have hlt' : i < l.length := by omega
    have hw := wi i l.length m (by omega) (by omega)
    have e0 := flat_at (enc := encT) (es := 2) (fun _ => rfl) hlt'
    rw [List.drop_eq_getElem_cons hlt'] at hx
    generalize l[i] = x at e0 hx
    conv => arg 3; simp only [mkT, putT, List.reduceReplicate, List.set]
    refine EVgo2 (And.intro (hlt) (e0)) (s19 hcf x) trivial trivial trivial ?_
    simp only [idx] at hx
    cases hp : mayT x with
    | true =>
      simp only [hp, Bool.not_true, Bool.false_eq_true, if_false] at hx
      refine EVgo2 (And.intro (hp) (hw)) trivial trivial trivial trivial ?_
      exact WC.loop rfl (ih (i + 1) (by omega) hx)
    | false =>
      simp only [hp, Bool.not_false, if_true] at hx
      refine EVgo2 (hp) trivial trivial trivial trivial ?_
      rw [← hx]
      exact WQ.ret rfl
theorem s24 (l : List (ByteArray × Int)) (t : Bool) (hl : l.length < 4294967296) : cf 24 [.sl l.length t (flat encT l), .fn 19 [] []] [] = some (.bool (l.any fun o => !mayT o), []) := by
  refine ev_ofC' hcf env24 ?_
  conv => arg 2; simp only [ir24]
  conv => arg 3; simp only [ir24, Go.Proofs.YthmfjkakpefkeaaEv.start, List.length, Nat.reduceAdd, Nat.reduceSub, List.reduceReplicate, List.append_eq, List.cons_append, List.nil_append]
  conv => arg 4; simp only [heapOf]
  try conv => arg 5; simp only [List.length, Nat.reduceAdd]
  try conv => arg 6; simp only [List.length, Nat.reduceAdd]
  refine EVgo2 (idx_ge (fun o => !mayT o) l 0) (s39 hcf l t hl) trivial trivial trivial ?_
  exact WQ.ret rfl
theorem s40 (l : List (Bool × Int × Bool)) (t : Bool) (hl : l.length < 4294967296) : cf 40 [.sl l.length t (flat encC l), .fn 21 [] []] [] = some (.int .i64 (idx (fun o => !mayC o) l 0), []) := by
  refine ev_ofC' hcf env40 ?_
  conv => arg 2; simp only [ir40]
  conv => arg 3; simp only [ir40, Go.Proofs.YthmfjkakpefkeaaEv.start, List.length, Nat.reduceAdd, Nat.reduceSub, List.reduceReplicate, List.append_eq, List.cons_append, List.nil_append]
  conv => arg 4; simp only [heapOf]
  try conv => arg 5; simp only [List.length, Nat.reduceAdd]
  try conv => arg 6; simp only [List.length, Nat.reduceAdd]
  refine EVgo2 trivial trivial trivial trivial trivial ?_
  refine WC.loop (T' := _) (H' := _) (n' := _) rfl ((?_ : ∀ (m i : Nat), i + m = l.length → idx (fun o => !mayC o) (l.drop i) i = idx (fun o => !mayC o) l 0 →
    WC cf _ (mkT 19 [(0, .sl l.length t (flat encC l)), (1, .fn 21 [] []), (7, .int .i64 (l.length : Nat)), (8, .int .i64 (i : Nat))]) [] 0 0 _) l.length 0 (by omega) rfl)
  intro m
  induction m with
  | zero =>
    intro i hi hx
    obtain rfl : i = l.length := by omega
    rw [List.drop_length] at hx
    conv => arg 3; simp only [mkT, putT, List.reduceReplicate, List.set]
    refine EVgl2 trivial trivial trivial trivial trivial ?_
    rw [← hx]
    exact WQ.ret rfl
  | succ m ih =>
    intro i hi hx
    have hlt : (i : Int) < (l.length : Int) := by omega
    have hlt' : i < l.length := by omega
    have hw := wi i l.length m (by omega) (by omega)
    have e0 := flat_at (enc := encC) (es := 3) (fun _ => rfl) hlt'
    rw [List.drop_eq_getElem_cons hlt'] at hx
    generalize l[i] = x at e0 hx
    conv => arg 3; simp only [mkT, putT, List.reduceReplicate, List.set]
    refine EVgo2 (And.intro (hlt) (e0)) (s21 hcf x) trivial trivial trivial ?_
    simp only [idx] at hx
    cases hp : mayC x with
    | true =>
      simp only [hp, Bool.not_true, Bool.false_eq_true, if_false] at hx
      refine EVgo2 (And.intro (hp) (hw)) trivial trivial trivial trivial ?_
      exact WC.loop rfl (ih (i + 1) (by omega) hx)
    | false =>
      simp only [hp, Bool.not_false, if_true] at hx
      refine EVgo2 (hp) trivial trivial trivial trivial ?_
      rw [← hx]
      exact WQ.ret rfl
theorem s25 (l : List (Bool × Int × Bool)) (t : Bool) (hl : l.length < 4294967296) : cf 25 [.sl l.length t (flat encC l), .fn 21 [] []] [] = some (.bool (l.any fun o => !mayC o), []) := by
  refine ev_ofC' hcf env25 ?_
  conv => arg 2; simp only [ir25]
  conv => arg 3; simp only [ir25, Go.Proofs.YthmfjkakpefkeaaEv.start, List.length, Nat.reduceAdd, Nat.reduceSub, List.reduceReplicate, List.append_eq, List.cons_append, List.nil_append]
  conv => arg 4; simp only [heapOf]
  try conv => arg 5; simp only [List.length, Nat.reduceAdd]
  try conv => arg 6; simp only [List.length, Nat.reduceAdd]
  refine EVgo2 (idx_ge (fun o => !mayC o) l 0) (s40 hcf l t hl) trivial trivial trivial ?_
  exact WQ.ret rfl
end
end Go.Proofs.YthmfjkakpefkeaaR
