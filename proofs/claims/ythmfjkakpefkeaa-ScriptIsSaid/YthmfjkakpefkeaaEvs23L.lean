/- Evs23L: a part of the proof. -/
import Derived.Test.YthmfjkakpefkeaaEvs23K
import Derived.Test.YthmfjkakpefkeaaEvs23J
open Go Go.Proofs.YthmfjkakpefkeaaEv Go.Proofs.YthmfjkakpefkeaaR Go.IntWalk
set_option maxRecDepth 20000
set_option maxHeartbeats 8000000
set_option linter.unusedVariables false
set_option linter.unusedSimpArgs false
namespace Go.Proofs.YthmfjkakpefkeaaR
theorem sane_no {m : Scr} (h : ¬ Sn m) : sane m = false := by
  rw [Bool.eq_false_iff]
  exact fun q => h ((sane_iff m).1 q)
section
variable {cf : CF} (hcf : cf = ev env)
include hcf
theorem s10 (t1 t2 t3 : Bool) (m : Scr) (hw0 : (0 ≤ IntKind.i64.wrap (m.slice - 1) ∧ IntKind.i64.wrap (m.slice - 1) ≤ 255) ↔ (1 ≤ m.slice ∧ m.slice ≤ 256)) : cf 10 [inS t1 t2 t3 m] [] = some (.bool (sane m), []) := by
  obtain ⟨x, o, k, n, c⟩ := m
  simp only at hw0
  refine ev_ofC' hcf env10 ?_
  simp only [inS]
  conv => arg 2; simp only [ir10]
  conv => arg 3; simp only [ir10, Go.Proofs.YthmfjkakpefkeaaEv.start, List.length, Nat.reduceAdd, Nat.reduceSub, List.reduceReplicate, List.append_eq, List.cons_append, List.nil_append]
  conv => arg 4; simp only [heapOf]
  try conv => arg 5; simp only [List.length, Nat.reduceAdd]
  try conv => arg 6; simp only [List.length, Nat.reduceAdd]
  by_cases h1 : (x.size : Int) > 2000
  · rw [sane_no (fun q => by have := q.text; simp only at this; omega)]
    refine EVgo2 (h1) trivial trivial trivial trivial ?_
    exact WQ.ret rfl
  by_cases h2 : (o.length : Int) > 4
  · rw [sane_no (fun q => by have := q.objs; simp only at this; omega)]
    refine EVgo2 (And.intro (h1) (h2)) trivial trivial trivial trivial ?_
    exact WQ.ret rfl
  by_cases h3 : (k.length : Int) > 7
  · rw [sane_no (fun q => by have := q.tasks; simp only at this; omega)]
    refine EVgo2 (And.intro (h1) ( And.intro (h2) (h3))) trivial trivial trivial trivial ?_
    exact WQ.ret rfl
  cases h4 : decide (1 ≤ n ∧ n ≤ 256) with
  | false =>
    rw [sane_no (fun q => by have := hw0.1 q.slice; simp only [decide_eq_false_iff_not] at h4; omega)]
    refine EVgo2 (And.intro (h1) ( And.intro (h2) ( And.intro (h3) (h4)))) (s26 hcf n 1 256) trivial trivial trivial ?_
    exact WQ.ret rfl
  | true =>
  by_cases h5 : (c.length : Int) > 4000
  · rw [sane_no (fun q => by have := q.choices; simp only at this; omega)]
    refine EVgo2 (And.intro (h1) ( And.intro (h2) ( And.intro (h3) ( And.intro (h4) (h5))))) (s26 hcf n 1 256) trivial trivial trivial ?_
    exact WQ.ret rfl
  refine EVgo2 (And.intro (h1) ( And.intro (h2) ( And.intro (h3) ( And.intro (h4) (h5))))) (s26 hcf n 1 256) trivial trivial trivial ?_
  refine WC.loop (T' := _) (H' := _) (n' := _) rfl ((?_ : ∀ (m i : Nat), i + m = o.length → (∀ p ∈ o.take i, mayO p = true) →
    WC cf _ (mkT 109 [(1, .ptr 0 0), (3, .int .i64 (i : Nat))]) [(0, .box [.str x, .sl o.length t1 (flat encO o), .sl k.length t2 (flat encT k), .int .i64 n, .sl c.length t3 (flat encC c)])] 0 1 _) o.length 0 (by omega) (fun p hp => by simp at hp))
  intro m
  induction m with
  | zero =>
    intro i hi hallo
    obtain rfl : i = o.length := by omega
    rw [List.take_length] at hallo
    conv => arg 3; simp only [mkT, putT, List.reduceReplicate, List.set]
    refine EVgl2 trivial trivial trivial trivial trivial ?_
    refine WC.loop (T' := _) (H' := _) (n' := _) rfl ((?_ : ∀ (m i : Nat), i + m = k.length → (∀ p ∈ k.take i, mayT p = true) →
      WC cf _ (mkT 109 [(1, .ptr 0 0), (4, .int .i64 (i : Nat))]) [(0, .box [.str x, .sl o.length t1 (flat encO o), .sl k.length t2 (flat encT k), .int .i64 n, .sl c.length t3 (flat encC c)])] 0 1 _) k.length 0 (by omega) (fun p hp => by simp at hp))
    intro m
    induction m with
    | zero =>
      intro i hi hallk
      obtain rfl : i = k.length := by omega
      rw [List.take_length] at hallk
      conv => arg 3; simp only [mkT, putT, List.reduceReplicate, List.set]
      refine EVgl2 trivial trivial trivial trivial trivial ?_
      refine WC.loop (T' := _) (H' := _) (n' := _) rfl ((?_ : ∀ (m i : Nat), i + m = c.length → (∀ p ∈ c.take i, mayC p = true) →
        WC cf _ (mkT 109 [(1, .ptr 0 0), (5, .int .i64 (i : Nat))]) [(0, .box [.str x, .sl o.length t1 (flat encO o), .sl k.length t2 (flat encT k), .int .i64 n, .sl c.length t3 (flat encC c)])] 0 1 _) c.length 0 (by omega) (fun p hp => by simp at hp))
      intro m
      induction m with
      | zero =>
        intro i hi hallc
        obtain rfl : i = c.length := by omega
        rw [List.take_length] at hallc
        conv => arg 3; simp only [mkT, putT, List.reduceReplicate, List.set]
        refine EVgl2 trivial trivial trivial trivial trivial ?_
        have hy : sane ⟨x, o, k, n, c⟩ = true := (sane_iff _).2 ⟨by simp only; omega, by simp only; omega, by simp only; omega, by simp only; omega, hw0.2 (by simp only [decide_eq_true_eq] at h4; exact h4), hallo, hallk, hallc⟩
        rw [hy]
        exact WQ.ret rfl
      | succ m ih =>
        intro i hi hall
        have hlt : (i : Int) < (c.length : Int) := by omega
        have hlt' : i < c.length := by omega
        have hw := wi i c.length m (by omega) (by omega)
        have e0 := flat_at (enc := encC) (es := 3) (fun _ => rfl) hlt'
        have hmem : c[i] ∈ c := List.getElem_mem hlt'
        have hnext : mayC c[i] = true → ∀ p ∈ c.take (i + 1), mayC p = true := fun h p hp => by
          rw [List.take_succ_eq_append_getElem hlt'] at hp
          rcases List.mem_append.1 hp with hp | hp
          · exact hall p hp
          · rw [List.mem_singleton.1 hp]; exact h
        generalize c[i] = y at e0 hmem hnext
        obtain ⟨y1, y2, y3⟩ := y
        have hbad : mayC (y1, y2, y3) = false → sane ⟨x, o, k, n, c⟩ = false := fun h => sane_no fun q => by
          have := q.c _ hmem
          rw [h] at this; cases this
        conv => arg 3; simp only [mkT, putT, List.reduceReplicate, List.set]
        cases hd1 : decide (0 ≤ y2 ∧ y2 ≤ 63) with
        | false =>
          refine EVgo2 (And.intro (hlt) ( And.intro (hw) ( And.intro (e0) ( And.intro (@encC.eq_1) (hd1))))) (s26 hcf y2 0 63) trivial trivial trivial ?_
          rw [hbad (by simp only [mayC, hd1])]
          exact WQ.ret rfl
        | true =>
          refine EVgo2 (And.intro (hlt) ( And.intro (hw) ( And.intro (e0) ( And.intro (@encC.eq_1) (hd1))))) (s26 hcf y2 0 63) trivial trivial trivial ?_
          exact WC.loop rfl (ih (i + 1) (by omega) (hnext (by simp only [mayC, hd1])))
    | succ m ih =>
      intro i hi hall
      have hlt : (i : Int) < (k.length : Int) := by omega
      have hlt' : i < k.length := by omega
      have hw := wi i k.length m (by omega) (by omega)
      have e0 := flat_at (enc := encT) (es := 2) (fun _ => rfl) hlt'
      have hmem : k[i] ∈ k := List.getElem_mem hlt'
      have hnext : mayT k[i] = true → ∀ p ∈ k.take (i + 1), mayT p = true := fun h p hp => by
        rw [List.take_succ_eq_append_getElem hlt'] at hp
        rcases List.mem_append.1 hp with hp | hp
        · exact hall p hp
        · rw [List.mem_singleton.1 hp]; exact h
      generalize k[i] = y at e0 hmem hnext
      obtain ⟨y1, y2⟩ := y
      have hbad : mayT (y1, y2) = false → sane ⟨x, o, k, n, c⟩ = false := fun h => sane_no fun q => by
        have := q.t _ hmem
        rw [h] at this; cases this
      conv => arg 3; simp only [mkT, putT, List.reduceReplicate, List.set]
      by_cases hd1 : (y1.size : Int) > 31
      · refine EVgo2 (And.intro (hlt) ( And.intro (hw) ( And.intro (e0) ( And.intro (@encT.eq_1) (hd1))))) trivial trivial trivial trivial ?_
        rw [hbad (by rw [Bool.eq_false_iff]; intro h; have := (mayT_iff _).1 h; simp only at this; omega)]
        exact WQ.ret rfl
      · cases hd2 : decide (0 ≤ y2 ∧ y2 ≤ 4) with
        | false =>
          refine EVgo2 (And.intro (hlt) ( And.intro (hw) ( And.intro (e0) ( And.intro (@encT.eq_1) ( And.intro (hd1) (hd2)))))) (s26 hcf y2 0 4) trivial trivial trivial ?_
          rw [hbad (by simp only [mayT, hd2, Bool.and_false])]
          exact WQ.ret rfl
        | true =>
          refine EVgo2 (And.intro (hlt) ( And.intro (hw) ( And.intro (e0) ( And.intro (@encT.eq_1) ( And.intro (hd1) (hd2)))))) (s26 hcf y2 0 4) trivial trivial trivial ?_
          exact WC.loop rfl (ih (i + 1) (by omega) (hnext ((mayT_iff _).2 (by simp only [decide_eq_true_eq] at hd2; simp only; omega))))
  | succ m ih =>
    intro i hi hall
    have hlt : (i : Int) < (o.length : Int) := by omega
    have hlt' : i < o.length := by omega
    have hw := wi i o.length m (by omega) (by omega)
    have e0 := flat_at (enc := encO) (es := 3) (fun _ => rfl) hlt'
    have hmem : o[i] ∈ o := List.getElem_mem hlt'
    have hnext : mayO o[i] = true → ∀ p ∈ o.take (i + 1), mayO p = true := fun h p hp => by
      rw [List.take_succ_eq_append_getElem hlt'] at hp
      rcases List.mem_append.1 hp with hp | hp
      · exact hall p hp
      · rw [List.mem_singleton.1 hp]; exact h
    generalize o[i] = y at e0 hmem hnext
    obtain ⟨y1, y2, y3⟩ := y
    have hbad : mayO (y1, y2, y3) = false → sane ⟨x, o, k, n, c⟩ = false := fun h => sane_no fun q => by
      have := q.o _ hmem
      rw [h] at this; cases this
    conv => arg 3; simp only [mkT, putT, List.reduceReplicate, List.set]
    cases hd1 : decide (0 ≤ y1 ∧ y1 ≤ 3) with
    | false =>
      refine EVgo2 (And.intro (hlt) ( And.intro (hw) ( And.intro (e0) ( And.intro (@encO.eq_1) (hd1))))) (s26 hcf y1 0 3) trivial trivial trivial ?_
      rw [hbad (by simp only [mayO, hd1, Bool.false_and])]
      exact WQ.ret rfl
    | true =>
      cases hd2 : decide (0 ≤ y2 ∧ y2 ≤ 65535) with
      | false =>
        refine EVgo2 (And.intro (hlt) ( And.intro (hw) ( And.intro (e0) ( And.intro (@encO.eq_1) ( And.intro (hd1) (hd2)))))) (s26 hcf y1 0 3) (s26 hcf y2 0 65535) trivial trivial ?_
        rw [hbad (by simp only [mayO, hd2, Bool.false_and, Bool.and_false])]
        exact WQ.ret rfl
      | true =>
        cases hd3 : decide (0 ≤ y3 ∧ y3 ≤ 255) with
        | false =>
          refine EVgo9 (And.intro (hlt) ( And.intro (hw) ( And.intro (e0) ( And.intro (@encO.eq_1) ( And.intro (hd1) ( And.intro (hd2) (hd3))))))) (s26 hcf y1 0 3) (s26 hcf y2 0 65535) (s26 hcf y3 0 255) trivial trivial trivial trivial trivial trivial trivial trivial ?_
          rw [hbad (by simp only [mayO, hd3, Bool.false_and, Bool.and_false])]
          exact WQ.ret rfl
        | true =>
          refine EVgo9 (And.intro (hlt) ( And.intro (hw) ( And.intro (e0) ( And.intro (@encO.eq_1) ( And.intro (hd1) ( And.intro (hd2) (hd3))))))) (s26 hcf y1 0 3) (s26 hcf y2 0 65535) (s26 hcf y3 0 255) trivial trivial trivial trivial trivial trivial trivial trivial ?_
          exact WC.loop rfl (ih (i + 1) (by omega) (hnext (by simp only [mayO, hd1, hd2, hd3, Bool.and_true])))
end
end Go.Proofs.YthmfjkakpefkeaaR
