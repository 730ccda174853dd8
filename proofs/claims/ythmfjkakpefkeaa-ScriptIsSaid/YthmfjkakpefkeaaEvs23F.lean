/- Evs23F: a part of the proof. -/
import Derived.Test.YthmfjkakpefkeaaEvs23D
open Go Go.Proofs.YthmfjkakpefkeaaEv Go.Proofs.YthmfjkakpefkeaaR Go.IntWalk
set_option maxRecDepth 20000
set_option maxHeartbeats 8000000
set_option linter.unusedVariables false
set_option linter.unusedSimpArgs false
namespace Go.Proofs.YthmfjkakpefkeaaR
section
variable {cf : CF} (hcf : cf = ev env)
include hcf
theorem s14 (t1 t2 t3 : Bool) (m : Scr) (ho : m.objs.length < 4294967296) (hk : m.tasks.length < 4294967296) (hc : m.choices.length < 4294967296) : cf 14 [inS t1 t2 t3 m] [] = some (outS m) := by
  obtain ⟨x, o, k, n, c⟩ := m
  simp only at ho hk hc
  refine ev_ofC' hcf env14 ?_
  simp only [inS]
  conv => arg 2; simp only [ir14]
  conv => arg 3; simp only [ir14, Go.Proofs.YthmfjkakpefkeaaEv.start, List.length, Nat.reduceAdd, Nat.reduceSub, List.reduceReplicate, List.append_eq, List.cons_append, List.nil_append]
  conv => arg 4; simp only [heapOf]
  try conv => arg 5; simp only [List.length, Nat.reduceAdd]
  try conv => arg 6; simp only [List.length, Nat.reduceAdd]
  refine EVgo2 trivial trivial trivial trivial trivial ?_
  refine WC.loop (T' := _) (H' := _) (n' := _) rfl ((?_ : ∀ (m i : Nat) (a : List (Int × Int × Int)), i + m = o.length → a = o.take i →
    WC cf _ (mkT 94 [(1, .ptr 0 0), (2, .ptr 1 0), (3, .ptr 2 0), (4, .int .i64 (i : Nat))])
      [(0, .box [.str x, .sl o.length t1 (flat encO o), .sl k.length t2 (flat encT k), .int .i64 n, .sl c.length t3 (flat encC c)]), (1, .box [.str ⟨#[]⟩, .nil, .nil, .int .i64 0, .nil]), (2, .box [.str x, .own 3 3 0 a.length, .nil, .int .i64 n, .nil]), (3, .row (flat encO a))] 0 4 _) o.length 0 [] (by omega) rfl)
  intro m
  induction m with
  | zero =>
    intro i a hi ha
    obtain rfl : i = o.length := by omega
    rw [List.take_length] at ha
    subst ha
    conv => arg 3; simp only [mkT, putT, List.reduceReplicate, List.set]
    refine EVgl2 trivial trivial trivial trivial trivial ?_
    refine WC.loop (T' := _) (H' := _) (n' := _) rfl ((?_ : ∀ (m i : Nat) (b : List (ByteArray × Int)), i + m = k.length → b = k.take i →
      WC cf _ (mkT 94 [(1, .ptr 0 0), (2, .ptr 1 0), (3, .ptr 2 0), (5, .int .i64 (i : Nat))])
        [(0, .box [.str x, .sl a.length t1 (flat encO a), .sl k.length t2 (flat encT k), .int .i64 n, .sl c.length t3 (flat encC c)]), (1, .box [.str ⟨#[]⟩, .nil, .nil, .int .i64 0, .nil]), (2, .box [.str x, .own 3 3 0 a.length, .own 4 2 0 b.length, .int .i64 n, .nil]), (3, .row (flat encO a)), (4, .row (flat encT b))] 0 5 _) k.length 0 [] (by omega) rfl)
    intro m
    induction m with
    | zero =>
      intro i b hi hb
      obtain rfl : i = k.length := by omega
      rw [List.take_length] at hb
      subst hb
      conv => arg 3; simp only [mkT, putT, List.reduceReplicate, List.set]
      refine EVgl2 trivial trivial trivial trivial trivial ?_
      refine WC.loop (T' := _) (H' := _) (n' := _) rfl ((?_ : ∀ (m i : Nat) (d : List (Bool × Int × Bool)), i + m = c.length → d = c.take i →
        WC cf _ (mkT 94 [(1, .ptr 0 0), (2, .ptr 1 0), (3, .ptr 2 0), (6, .int .i64 (i : Nat))])
          [(0, .box [.str x, .sl a.length t1 (flat encO a), .sl b.length t2 (flat encT b), .int .i64 n, .sl c.length t3 (flat encC c)]), (1, .box [.str ⟨#[]⟩, .nil, .nil, .int .i64 0, .nil]), (2, .box [.str x, .own 3 3 0 a.length, .own 4 2 0 b.length, .int .i64 n, .own 5 3 0 d.length]), (3, .row (flat encO a)), (4, .row (flat encT b)), (5, .row (flat encC d))] 0 6 _) c.length 0 [] (by omega) rfl)
      intro m
      induction m with
      | zero =>
        intro i d hi hd
        obtain rfl : i = c.length := by omega
        rw [List.take_length] at hd
        subst hd
        conv => arg 3; simp only [mkT, putT, List.reduceReplicate, List.set]
        refine EVgl2 trivial trivial trivial trivial trivial ?_
        exact WQ.ret rfl
      | succ m ih =>
        intro i d hi hd
        have hlt : (i : Int) < (c.length : Int) := by omega
        have hlt' : i < c.length := by omega
        have hw := wi i c.length m (by omega) (by omega)
        have hal : d.length = i := by rw [hd, List.length_take]; omega
        have e0 := flat_at (enc := encC) (es := 3) (fun _ => rfl) hlt'
        generalize hx0 : c[i] = y at e0
        obtain ⟨y1, y2, y3⟩ := y
        have e1 : (flat encC d).take (d.length * 3) = flat encC d := List.take_of_length_le (by rw [lenC]; omega)
        conv => arg 3; simp only [mkT, putT, List.reduceReplicate, List.set]
        refine EVgo2 (And.intro (hlt) ( And.intro (hw) ( And.intro (e0) ( And.intro (e1) ( And.intro (@encC.eq_1) (lenC)))))) trivial trivial trivial trivial ?_
        have e2 : ∀ x y z, flat encC d ++ [.bool x, .int .i64 y, .bool z] = flat encC (d ++ [(x, y, z)]) := fun x y z => by rw [flat_append]; rfl
        have e3 : ∀ o, d.length + 1 = (d ++ [o]).length := fun o => by simp
        rw [e2, e3]
        refine WC.loop rfl (ih (i + 1) _ (by omega) ?_)
        rw [hd, List.take_succ_eq_append_getElem hlt', hx0]
    | succ m ih =>
      intro i b hi hb
      have hlt : (i : Int) < (k.length : Int) := by omega
      have hlt' : i < k.length := by omega
      have hw := wi i k.length m (by omega) (by omega)
      have hal : b.length = i := by rw [hb, List.length_take]; omega
      have e0 := flat_at (enc := encT) (es := 2) (fun _ => rfl) hlt'
      generalize hx0 : k[i] = y at e0
      obtain ⟨y1, y2⟩ := y
      have e1 : (flat encT b).take (b.length * 2) = flat encT b := List.take_of_length_le (by rw [lenT]; omega)
      conv => arg 3; simp only [mkT, putT, List.reduceReplicate, List.set]
      refine EVgo2 (And.intro (hlt) ( And.intro (hw) ( And.intro (e0) ( And.intro (e1) ( And.intro (@encT.eq_1) (lenT)))))) trivial trivial trivial trivial ?_
      have e2 : ∀ x y, flat encT b ++ [.str x, .int .i64 y] = flat encT (b ++ [(x, y)]) := fun x y => by rw [flat_append]; rfl
      have e3 : ∀ o, b.length + 1 = (b ++ [o]).length := fun o => by simp
      rw [e2, e3]
      refine WC.loop rfl (ih (i + 1) _ (by omega) ?_)
      rw [hb, List.take_succ_eq_append_getElem hlt', hx0]
  | succ m ih =>
    intro i a hi ha
    have hlt : (i : Int) < (o.length : Int) := by omega
    have hlt' : i < o.length := by omega
    have hw := wi i o.length m (by omega) (by omega)
    have hal : a.length = i := by rw [ha, List.length_take]; omega
    have e0 := flat_at (enc := encO) (es := 3) (fun _ => rfl) hlt'
    generalize hx0 : o[i] = y at e0
    obtain ⟨y1, y2, y3⟩ := y
    have e1 : (flat encO a).take (a.length * 3) = flat encO a := List.take_of_length_le (by rw [lenO]; omega)
    conv => arg 3; simp only [mkT, putT, List.reduceReplicate, List.set]
    refine EVgo2 (And.intro (hlt) ( And.intro (hw) ( And.intro (e0) ( And.intro (e1) ( And.intro (@encO.eq_1) (lenO)))))) trivial trivial trivial trivial ?_
    have e2 : ∀ x y z, flat encO a ++ [.int .i64 x, .int .i64 y, .int .i64 z] = flat encO (a ++ [(x, y, z)]) := fun x y z => by rw [flat_append]; rfl
    have e3 : ∀ o, a.length + 1 = (a ++ [o]).length := fun o => by simp
    rw [e2, e3]
    refine WC.loop rfl (ih (i + 1) _ (by omega) ?_)
    rw [ha, List.take_succ_eq_append_getElem hlt', hx0]
theorem s9 (t1 t2 t3 : Bool) (m : Scr) (ho : m.objs.length < 4294967296) (hk : m.tasks.length < 4294967296) (hc : m.choices.length < 4294967296) : cf 9 [inS t1 t2 t3 m] [] = some (outS m) := by
  obtain ⟨x, o, k, n, c⟩ := m
  simp only at ho hk hc
  refine ev_ofC' hcf env9 ?_
  simp only [inS]
  conv => arg 2; simp only [ir9]
  conv => arg 3; simp only [ir9, Go.Proofs.YthmfjkakpefkeaaEv.start, List.length, Nat.reduceAdd, Nat.reduceSub, List.reduceReplicate, List.append_eq, List.cons_append, List.nil_append]
  conv => arg 4; simp only [heapOf]
  try conv => arg 5; simp only [List.length, Nat.reduceAdd]
  try conv => arg 6; simp only [List.length, Nat.reduceAdd]
  refine EVgo2 trivial trivial trivial trivial trivial ?_
  refine WC.loop (T' := _) (H' := _) (n' := _) rfl ((?_ : ∀ (m i : Nat) (a : List (Int × Int × Int)), i + m = o.length → a = o.take i →
    WC cf _ (mkT 94 [(1, .ptr 0 0), (2, .ptr 1 0), (3, .ptr 2 0), (4, .int .i64 (i : Nat))])
      [(0, .box [.str x, .sl o.length t1 (flat encO o), .sl k.length t2 (flat encT k), .int .i64 n, .sl c.length t3 (flat encC c)]), (1, .box [.str ⟨#[]⟩, .nil, .nil, .int .i64 0, .nil]), (2, .box [.str x, .own 3 3 0 a.length, .nil, .int .i64 n, .nil]), (3, .row (flat encO a))] 0 4 _) o.length 0 [] (by omega) rfl)
  intro m
  induction m with
  | zero =>
    intro i a hi ha
    obtain rfl : i = o.length := by omega
    rw [List.take_length] at ha
    subst ha
    conv => arg 3; simp only [mkT, putT, List.reduceReplicate, List.set]
    refine EVgl2 trivial trivial trivial trivial trivial ?_
    refine WC.loop (T' := _) (H' := _) (n' := _) rfl ((?_ : ∀ (m i : Nat) (b : List (ByteArray × Int)), i + m = k.length → b = k.take i →
      WC cf _ (mkT 94 [(1, .ptr 0 0), (2, .ptr 1 0), (3, .ptr 2 0), (5, .int .i64 (i : Nat))])
        [(0, .box [.str x, .sl a.length t1 (flat encO a), .sl k.length t2 (flat encT k), .int .i64 n, .sl c.length t3 (flat encC c)]), (1, .box [.str ⟨#[]⟩, .nil, .nil, .int .i64 0, .nil]), (2, .box [.str x, .own 3 3 0 a.length, .own 4 2 0 b.length, .int .i64 n, .nil]), (3, .row (flat encO a)), (4, .row (flat encT b))] 0 5 _) k.length 0 [] (by omega) rfl)
    intro m
    induction m with
    | zero =>
      intro i b hi hb
      obtain rfl : i = k.length := by omega
      rw [List.take_length] at hb
      subst hb
      conv => arg 3; simp only [mkT, putT, List.reduceReplicate, List.set]
      refine EVgl2 trivial trivial trivial trivial trivial ?_
      refine WC.loop (T' := _) (H' := _) (n' := _) rfl ((?_ : ∀ (m i : Nat) (d : List (Bool × Int × Bool)), i + m = c.length → d = c.take i →
        WC cf _ (mkT 94 [(1, .ptr 0 0), (2, .ptr 1 0), (3, .ptr 2 0), (6, .int .i64 (i : Nat))])
          [(0, .box [.str x, .sl a.length t1 (flat encO a), .sl b.length t2 (flat encT b), .int .i64 n, .sl c.length t3 (flat encC c)]), (1, .box [.str ⟨#[]⟩, .nil, .nil, .int .i64 0, .nil]), (2, .box [.str x, .own 3 3 0 a.length, .own 4 2 0 b.length, .int .i64 n, .own 5 3 0 d.length]), (3, .row (flat encO a)), (4, .row (flat encT b)), (5, .row (flat encC d))] 0 6 _) c.length 0 [] (by omega) rfl)
      intro m
      induction m with
      | zero =>
        intro i d hi hd
        obtain rfl : i = c.length := by omega
        rw [List.take_length] at hd
        subst hd
        conv => arg 3; simp only [mkT, putT, List.reduceReplicate, List.set]
        refine EVgl2 trivial trivial trivial trivial trivial ?_
        exact WQ.ret rfl
      | succ m ih =>
        intro i d hi hd
        have hlt : (i : Int) < (c.length : Int) := by omega
        have hlt' : i < c.length := by omega
        have hw := wi i c.length m (by omega) (by omega)
        have hal : d.length = i := by rw [hd, List.length_take]; omega
        have e0 := flat_at (enc := encC) (es := 3) (fun _ => rfl) hlt'
        generalize hx0 : c[i] = y at e0
        obtain ⟨y1, y2, y3⟩ := y
        have e1 : (flat encC d).take (d.length * 3) = flat encC d := List.take_of_length_le (by rw [lenC]; omega)
        conv => arg 3; simp only [mkT, putT, List.reduceReplicate, List.set]
        refine EVgo2 (And.intro (hlt) ( And.intro (hw) ( And.intro (e0) ( And.intro (e1) ( And.intro (@encC.eq_1) (lenC)))))) trivial trivial trivial trivial ?_
        have e2 : ∀ x y z, flat encC d ++ [.bool x, .int .i64 y, .bool z] = flat encC (d ++ [(x, y, z)]) := fun x y z => by rw [flat_append]; rfl
        have e3 : ∀ o, d.length + 1 = (d ++ [o]).length := fun o => by simp
        rw [e2, e3]
        refine WC.loop rfl (ih (i + 1) _ (by omega) ?_)
        rw [hd, List.take_succ_eq_append_getElem hlt', hx0]
    | succ m ih =>
      intro i b hi hb
      have hlt : (i : Int) < (k.length : Int) := by omega
      have hlt' : i < k.length := by omega
      have hw := wi i k.length m (by omega) (by omega)
      have hal : b.length = i := by rw [hb, List.length_take]; omega
      have e0 := flat_at (enc := encT) (es := 2) (fun _ => rfl) hlt'
      generalize hx0 : k[i] = y at e0
      obtain ⟨y1, y2⟩ := y
      have e1 : (flat encT b).take (b.length * 2) = flat encT b := List.take_of_length_le (by rw [lenT]; omega)
      conv => arg 3; simp only [mkT, putT, List.reduceReplicate, List.set]
      refine EVgo2 (And.intro (hlt) ( And.intro (hw) ( And.intro (e0) ( And.intro (e1) ( And.intro (@encT.eq_1) (lenT)))))) trivial trivial trivial trivial ?_
      have e2 : ∀ x y, flat encT b ++ [.str x, .int .i64 y] = flat encT (b ++ [(x, y)]) := fun x y => by rw [flat_append]; rfl
      have e3 : ∀ o, b.length + 1 = (b ++ [o]).length := fun o => by simp
      rw [e2, e3]
      refine WC.loop rfl (ih (i + 1) _ (by omega) ?_)
      rw [hb, List.take_succ_eq_append_getElem hlt', hx0]
  | succ m ih =>
    intro i a hi ha
    have hlt : (i : Int) < (o.length : Int) := by omega
    have hlt' : i < o.length := by omega
    have hw := wi i o.length m (by omega) (by omega)
    have hal : a.length = i := by rw [ha, List.length_take]; omega
    have e0 := flat_at (enc := encO) (es := 3) (fun _ => rfl) hlt'
    generalize hx0 : o[i] = y at e0
    obtain ⟨y1, y2, y3⟩ := y
    have e1 : (flat encO a).take (a.length * 3) = flat encO a := List.take_of_length_le (by rw [lenO]; omega)
    conv => arg 3; simp only [mkT, putT, List.reduceReplicate, List.set]
    refine EVgo2 (And.intro (hlt) ( And.intro (hw) ( And.intro (e0) ( And.intro (e1) ( And.intro (@encO.eq_1) (lenO)))))) trivial trivial trivial trivial ?_
    have e2 : ∀ x y z, flat encO a ++ [.int .i64 x, .int .i64 y, .int .i64 z] = flat encO (a ++ [(x, y, z)]) := fun x y z => by rw [flat_append]; rfl
    have e3 : ∀ o, a.length + 1 = (a ++ [o]).length := fun o => by simp
    rw [e2, e3]
    refine WC.loop rfl (ih (i + 1) _ (by omega) ?_)
    rw [ha, List.take_succ_eq_append_getElem hlt', hx0]
end
end Go.Proofs.YthmfjkakpefkeaaR
