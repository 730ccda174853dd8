/- Evs13C: a part of the proof. -/
import Derived.Test.YtklanpanmndakaaEvs13B
open Go Go.Proofs.YtklanpanmndakaaEv Go.Proofs.YtklanpanmndakaaR Go.IntWalk
set_option maxRecDepth 20000
set_option maxHeartbeats 8000000
set_option linter.unusedVariables false
set_option linter.unusedSimpArgs false
namespace Go.Proofs.YtklanpanmndakaaR
section
variable {cf : CF} (hcf : cf = ev env)
include hcf
theorem s62 (ta tb : Bool) (la lb : List Int) (m : Int) (h : la.length ≤ 500) (k : lb.length ≤ 500) (hm : (la.length : Int) + lb.length ≤ m) : cf 62 [.sl la.length ta (flat encI la), .int .i64 m, .sl lb.length tb (flat encI lb)] [] = some (.tup [.own 0 1 0 (la ++ lb).length, .int .i64 0], [some (.row (flat encI (la ++ lb)))]) := by
  have h67 := s67 hcf false ta tb la lb (by omega)
  refine ev_ofC' hcf env62 ?_
  conv => arg 2; simp only [ir62]
  conv => arg 3; simp only [ir62, Go.Proofs.YtklanpanmndakaaEv.start, List.length, Nat.reduceAdd, Nat.reduceSub, List.reduceReplicate, List.append_eq, List.cons_append, List.nil_append]
  conv => arg 4; simp only [heapOf]
  try conv => arg 5; simp only [List.length, Nat.reduceAdd]
  try conv => arg 6; simp only [List.length, Nat.reduceAdd]
  have w2 : IntKind.i64.wrap ((la.length : Int) + (lb.length : Int)) = (la.length : Int) + lb.length := by rw [i64_in _ (by omega)]
  have h1 : ¬ ((la.length : Int) + lb.length > m) := by omega
  refine EVgo2 (And.intro (w2) (h1)) (h67) trivial trivial trivial ?_
  exact WQ.ret rfl
theorem s62n (ta tb : Bool) (la lb : List Int) (m : Int) (h : la.length ≤ 500) (k : lb.length ≤ 500) (hm : ¬ ((la.length : Int) + lb.length ≤ m)) : cf 62 [.sl la.length ta (flat encI la), .int .i64 m, .sl lb.length tb (flat encI lb)] [] = some (.tup [.sl la.length ta (flat encI la), .int .i64 (-3)], []) := by
  refine ev_ofC' hcf env62 ?_
  conv => arg 2; simp only [ir62]
  conv => arg 3; simp only [ir62, Go.Proofs.YtklanpanmndakaaEv.start, List.length, Nat.reduceAdd, Nat.reduceSub, List.reduceReplicate, List.append_eq, List.cons_append, List.nil_append]
  conv => arg 4; simp only [heapOf]
  try conv => arg 5; simp only [List.length, Nat.reduceAdd]
  try conv => arg 6; simp only [List.length, Nat.reduceAdd]
  have w2 : IntKind.i64.wrap ((la.length : Int) + (lb.length : Int)) = (la.length : Int) + lb.length := by rw [i64_in _ (by omega)]
  have h1 : (la.length : Int) + lb.length > m := by omega
  refine EVgo2 (And.intro (w2) (h1)) trivial trivial trivial trivial ?_
  exact WQ.ret rfl
theorem s63 (t : Bool) (l : List Int) (n : Nat) (h : n ≤ l.length) (k : l.length ≤ 500) : ∃ a b, cf 63 [.sl l.length t (flat encI l), .int .i64 n] [] = some (.tup [.sl (l.length - n) a (flat encI (l.take (l.length - n))), .sl n b (flat encI (l.drop (l.length - n))), .int .i64 0], []) := by
  refine ⟨true, true, ?_⟩
  refine ev_ofC' hcf env63 ?_
  conv => arg 2; simp only [ir63]
  conv => arg 3; simp only [ir63, Go.Proofs.YtklanpanmndakaaEv.start, List.length, Nat.reduceAdd, Nat.reduceSub, List.reduceReplicate, List.append_eq, List.cons_append, List.nil_append]
  conv => arg 4; simp only [heapOf]
  try conv => arg 5; simp only [List.length, Nat.reduceAdd]
  try conv => arg 6; simp only [List.length, Nat.reduceAdd]
  have w2 : IntKind.i64.wrap ((l.length : Int) - (n : Int)) = ((l.length - n : Nat) : Int) := by rw [i64_in _ (by omega)]; omega
  have h1 : ¬ ((n : Int) < 0) := by omega
  have h2 : ¬ (((l.length - n : Nat) : Int) < 0) := by omega
  have e1 := flat_take (enc := encI) (es := 1) (fun _ => rfl) l (l.length - n)
  have e2 := flat_drop (enc := encI) (es := 1) (fun _ => rfl) l (l.length - n)
  simp only [Nat.mul_one] at e1 e2
  have e3 : l.length - (l.length - n) = n := by omega
  have e4 : (flat encI (l.drop (l.length - n))).take n = flat encI (l.drop (l.length - n)) := List.take_of_length_le (by rw [lenI, List.length_drop]; omega)
  refine EVgo2 (And.intro (w2) ( And.intro (h1) ( And.intro (h2) ( And.intro (e1) ( And.intro (e2) ( And.intro (e3) (e4))))))) trivial trivial trivial trivial ?_
  exact WQ.ret rfl
theorem s63n (t : Bool) (l : List Int) (n : Int) (h : n < 0 ∨ l.length < n) (hb : n ≤ 10000) (k : l.length ≤ 500) : cf 63 [.sl l.length t (flat encI l), .int .i64 n] [] = some (.tup [.sl l.length t (flat encI l), .nil, .int .i64 (-4)], []) := by
  refine ev_ofC' hcf env63 ?_
  conv => arg 2; simp only [ir63]
  conv => arg 3; simp only [ir63, Go.Proofs.YtklanpanmndakaaEv.start, List.length, Nat.reduceAdd, Nat.reduceSub, List.reduceReplicate, List.append_eq, List.cons_append, List.nil_append]
  conv => arg 4; simp only [heapOf]
  try conv => arg 5; simp only [List.length, Nat.reduceAdd]
  try conv => arg 6; simp only [List.length, Nat.reduceAdd]
  by_cases h1 : n < 0
  · refine EVgo2 (h1) trivial trivial trivial trivial ?_
    exact WQ.ret rfl
  · have w2 : IntKind.i64.wrap ((l.length : Int) - n) = (l.length : Int) - n := by rw [i64_in _ (by omega)]
    have h2 : (l.length : Int) - n < 0 := by omega
    refine EVgo2 (And.intro (w2) ( And.intro (h1) (h2))) trivial trivial trivial trivial ?_
    exact WQ.ret rfl
theorem s45 (a b c : Bool) (m : Tk) (l : List Int) : cf 45 [tk a b m, .sl l.length c (flat encI l)] [] = some (tk a c ⟨m.d, l, m.th, m.pl, if stands m.h l.length = true then m.h else 0⟩, []) := by
  obtain ⟨d, r, th, pl, h⟩ := m
  refine ev_ofC' hcf env45 ?_
  simp only [tk]
  conv => arg 2; simp only [ir45]
  conv => arg 3; simp only [ir45, Go.Proofs.YtklanpanmndakaaEv.start, List.length, Nat.reduceAdd, Nat.reduceSub, List.reduceReplicate, List.append_eq, List.cons_append, List.nil_append]
  conv => arg 4; simp only [heapOf]
  try conv => arg 5; simp only [List.length, Nat.reduceAdd]
  try conv => arg 6; simp only [List.length, Nat.reduceAdd]
  cases hs : stands h l.length with
  | true =>
    refine EVgo2 (hs) (s37 hcf h l.length) trivial trivial trivial ?_
    exact WQ.ret rfl
  | false =>
    refine EVgo2 (hs) (s37 hcf h l.length) trivial trivial trivial ?_
    exact WQ.ret rfl
theorem s13 (a b : Bool) (m : Tk) : cf 13 [tk a b m] [] = some (tk a b m, []) := by
  obtain ⟨d, r, th, pl, h⟩ := m
  refine ev_ofC' hcf env13 ?_
  simp only [tk]
  conv => arg 2; simp only [ir13]
  conv => arg 3; simp only [ir13, Go.Proofs.YtklanpanmndakaaEv.start, List.length, Nat.reduceAdd, Nat.reduceSub, List.reduceReplicate, List.append_eq, List.cons_append, List.nil_append]
  conv => arg 4; simp only [heapOf]
  try conv => arg 5; simp only [List.length, Nat.reduceAdd]
  try conv => arg 6; simp only [List.length, Nat.reduceAdd]
  refine EVgo2 trivial trivial trivial trivial trivial ?_
  exact WQ.ret rfl
theorem s19 (a b : Bool) (m : Tk) : cf 19 [tk a b m] [] = some (tk a b m, []) := by
  obtain ⟨d, r, th, pl, h⟩ := m
  refine ev_ofC' hcf env19 ?_
  simp only [tk]
  conv => arg 2; simp only [ir19]
  conv => arg 3; simp only [ir19, Go.Proofs.YtklanpanmndakaaEv.start, List.length, Nat.reduceAdd, Nat.reduceSub, List.reduceReplicate, List.append_eq, List.cons_append, List.nil_append]
  conv => arg 4; simp only [heapOf]
  try conv => arg 5; simp only [List.length, Nat.reduceAdd]
  try conv => arg 6; simp only [List.length, Nat.reduceAdd]
  refine EVgo2 trivial trivial trivial trivial trivial ?_
  exact WQ.ret rfl
theorem s11 (a b : Bool) (m : Tk) : cf 11 [tk a b m] [] = some (.bool (decide ((m.d.length : Int) ≤ 100) && decide ((m.r.length : Int) ≤ 100)), []) := by
  obtain ⟨d, r, th, pl, h⟩ := m
  refine ev_ofC' hcf env11 ?_
  simp only [tk]
  conv => arg 2; simp only [ir11]
  conv => arg 3; simp only [ir11, Go.Proofs.YtklanpanmndakaaEv.start, List.length, Nat.reduceAdd, Nat.reduceSub, List.reduceReplicate, List.append_eq, List.cons_append, List.nil_append]
  conv => arg 4; simp only [heapOf]
  try conv => arg 5; simp only [List.length, Nat.reduceAdd]
  try conv => arg 6; simp only [List.length, Nat.reduceAdd]
  by_cases h1 : (d.length : Int) ≤ 100
  · refine EVgo2 (h1) trivial trivial trivial trivial ?_
    exact WQ.ret (by simp only [h1, decide_true, Bool.true_and]; rfl)
  · refine EVgo2 (h1) trivial trivial trivial trivial ?_
    exact WQ.ret (by simp only [h1, decide_false, Bool.false_and]; rfl)
theorem s10 : cf 10 [] [] = some (.bool true, []) := by
  rw [hcf]
  refine ev_eq (n := 60) ?_
  kernel_rfl
theorem s16 (a b : Bool) (l : List Int) (h : l.length < 4294967296) : cf 16 [.sl l.length a (flat encI l), .sl l.length b (flat encI l)] [] = some (.bool true, []) := by
  refine ev_ofC' hcf env16 ?_
  conv => arg 2; simp only [ir16]
  conv => arg 3; simp only [ir16, Go.Proofs.YtklanpanmndakaaEv.start, List.length, Nat.reduceAdd, Nat.reduceSub, List.reduceReplicate, List.append_eq, List.cons_append, List.nil_append]
  conv => arg 4; simp only [heapOf]
  try conv => arg 5; simp only [List.length, Nat.reduceAdd]
  try conv => arg 6; simp only [List.length, Nat.reduceAdd]
  refine EVgl2 trivial trivial trivial trivial trivial ?_
  refine WC.loop (T' := _) (H' := _) (n' := _) rfl ((?_ : ∀ (m i : Nat), i + m = l.length →
    WC cf _ (mkT 26 [(0, .sl l.length a (flat encI l)), (1, .sl l.length b (flat encI l)), (5, .int .i64 (i : Nat))]) [] 0 0 _) l.length 0 (by omega))
  intro m
  induction m with
  | zero =>
    intro i hi
    obtain rfl : i = l.length := by omega
    conv => arg 3; simp only [mkT, putT, List.reduceReplicate, List.set]
    refine EVgl2 trivial trivial trivial trivial trivial ?_
    exact WQ.ret rfl
  | succ m ih =>
    intro i hi
    have hlt : (i : Int) < (l.length : Int) := by omega
    have hlt' : i < l.length := by omega
    have hw : IntKind.i64.wrap ((i : Int) + 1) = ((i + 1 : Nat) : Int) := by rw [i64_in _ (by omega)]; simp
    have e0 := flat_at (enc := encI) (es := 1) (fun _ => rfl) hlt'
    rw [Nat.mul_one] at e0
    simp only [encI, List.cons_append, List.nil_append] at e0
    conv => arg 3; simp only [mkT, putT, List.reduceReplicate, List.set]
    refine EVgl2 (And.intro (hlt) ( And.intro (hw) (e0))) trivial trivial trivial trivial ?_
    exact WC.loop rfl (ih (i + 1) (by omega))
theorem s18 (a b c d : Bool) (m : Tk) (h : m.d.length < 4294967296) (k : m.r.length < 4294967296) : cf 18 [tk a b m, tk c d m] [] = some (.bool true, []) := by
  have h1 := s16 hcf a c m.d h
  have h2 := s16 hcf b d m.r k
  obtain ⟨d, r, th, pl, h⟩ := m
  refine ev_ofC' hcf env18 ?_
  simp only [tk] at h1 h2 ⊢
  conv => arg 2; simp only [ir18]
  conv => arg 3; simp only [ir18, Go.Proofs.YtklanpanmndakaaEv.start, List.length, Nat.reduceAdd, Nat.reduceSub, List.reduceReplicate, List.append_eq, List.cons_append, List.nil_append]
  conv => arg 4; simp only [heapOf]
  try conv => arg 5; simp only [List.length, Nat.reduceAdd]
  try conv => arg 6; simp only [List.length, Nat.reduceAdd]
  refine EVgl2 trivial (h1) (h2) trivial trivial ?_
  exact WQ.ret rfl
end
end Go.Proofs.YtklanpanmndakaaR
