/- Evs23J: a part of the proof. -/
import Derived.Test.YthmfjkakpefkeaaEvs23E
import Derived.Test.YthmfjkakpefkeaaEvs23B
open Go Go.Proofs.YthmfjkakpefkeaaEv Go.Proofs.YthmfjkakpefkeaaR Go.IntWalk
set_option maxRecDepth 20000
set_option maxHeartbeats 1000000
set_option linter.unusedVariables false
set_option linter.unusedSimpArgs false
namespace Go.Proofs.YthmfjkakpefkeaaR
theorem mayO_iff (o : Int × Int × Int) : mayO o = true ↔ (0 ≤ o.1 ∧ o.1 ≤ 3) ∧ (0 ≤ o.2.1 ∧ o.2.1 ≤ 65535) ∧ 0 ≤ o.2.2 ∧ o.2.2 ≤ 255 := by
  simp only [mayO, Bool.and_eq_true, decide_eq_true_eq]
theorem mayT_iff (o : ByteArray × Int) : mayT o = true ↔ o.1.size ≤ 31 ∧ 0 ≤ o.2 ∧ o.2 ≤ 4 := by
  simp only [mayT, Bool.and_eq_true, decide_eq_true_eq]
  omega
theorem mayC_iff (o : Bool × Int × Bool) : mayC o = true ↔ 0 ≤ o.2.1 ∧ o.2.1 ≤ 63 := by
  simp only [mayC, decide_eq_true_eq]
theorem any_not {α : Type} {p : α → Bool} {l : List α} : (!(l.any fun o => !p o)) = true ↔ ∀ x ∈ l, p x = true := by
  simp only [Bool.not_eq_true', List.any_eq_false]
  constructor
  · intro h x hx
    have := h x hx
    simpa using this
  · intro h x hx
    simp [h x hx]
structure Sn (m : Scr) : Prop where
  text : m.text.size ≤ 2000
  objs : m.objs.length ≤ 4
  tasks : m.tasks.length ≤ 7
  choices : m.choices.length ≤ 4000
  slice : 0 ≤ IntKind.i64.wrap (m.slice - 1) ∧ IntKind.i64.wrap (m.slice - 1) ≤ 255
  o : ∀ x ∈ m.objs, mayO x = true
  t : ∀ x ∈ m.tasks, mayT x = true
  c : ∀ x ∈ m.choices, mayC x = true
theorem sane_iff (m : Scr) : sane m = true ↔ Sn m := by
  constructor
  · intro h
    simp only [sane, Bool.and_eq_true, decide_eq_true_eq, any_not] at h
    obtain ⟨⟨⟨⟨h1, h2⟩, h3⟩, h4⟩, h5, h6, h7, h8⟩ := h
    exact ⟨by omega, by omega, by omega, by omega, h5, h6, h7, h8⟩
  · intro h
    obtain ⟨h1, h2, h3, h4, h5, h6, h7, h8⟩ := h
    simp only [sane, Bool.and_eq_true, decide_eq_true_eq, any_not]
    exact ⟨⟨⟨⟨by omega, by omega⟩, by omega⟩, by omega⟩, h5, h6, h7, h8⟩
theorem objs_len : ∀ (n : Nat) (l : List UInt8), (objs n l).length = n
  | 0, _ => rfl
  | n + 1, l => by simp [objs, objs_len n]
theorem tasks_len : ∀ (n : Nat) (l : List UInt8), (tasks n l).length = n
  | 0, _ => rfl
  | n + 1, l => by simp [tasks, tasks_len n]
theorem objs_may : ∀ (n : Nat) (l : List UInt8), ∀ x ∈ objs n l, mayO x = true
  | 0, _, x, hx => by cases hx
  | n + 1, l, x, hx => by
    rcases List.mem_cons.1 hx with rfl | hx
    · rw [mayO_iff]
      have := hd_lt (l.drop 1)
      have := hd_lt (l.drop 2)
      have := hd_lt (l.drop 3)
      simp only
      omega
    · exact objs_may n _ x hx
theorem size_mk (l : List UInt8) : (ByteArray.mk l.toArray).size = l.length := by simp [ByteArray.size]
theorem tasks_may : ∀ (n : Nat) (l : List UInt8), ∀ x ∈ tasks n l, mayT x = true
  | 0, _, x, hx => by cases hx
  | n + 1, l, x, hx => by
    rcases List.mem_cons.1 hx with rfl | hx
    · rw [mayT_iff]
      simp only [size_mk, List.length_take]
      omega
    · exact tasks_may n _ x hx
theorem choice_may (b : UInt8) : mayC (choice b) = true := by
  have := b.toNat_lt
  rw [mayC_iff]
  simp only [choice]
  omega
theorem get_sane (l : List UInt8) : sane (get l) = true := by
  rw [sane_iff]
  have h1 := hd_lt (tasksR (hd (List.drop (1 + 4 * (hd (List.drop (2 + (hd l * 256 + hd (List.drop 1 l)) % 2001) l) % 5)) (List.drop (2 + (hd l * 256 + hd (List.drop 1 l)) % 2001) l)) % 8) ((List.drop (1 + 4 * (hd (List.drop (2 + (hd l * 256 + hd (List.drop 1 l)) % 2001) l) % 5)) (List.drop (2 + (hd l * 256 + hd (List.drop 1 l)) % 2001) l)).drop 1))
  refine ⟨?_, ?_, ?_, ?_, ?_, ?_, ?_, ?_⟩
  · simp only [get, size_mk, List.length_take]; omega
  · simp only [get, objs_len]; omega
  · simp only [get, tasks_len]; omega
  · simp only [get, List.length_map, List.length_take]; omega
  · simp only [get]
    rw [i64_in _ (by omega)]
    omega
  · exact objs_may _ _
  · exact tasks_may _ _
  · intro x hx
    obtain ⟨b, _, rfl⟩ := List.mem_map.1 hx
    exact choice_may b
theorem u8n (n : Int) (h : 0 ≤ n ∧ n ≤ 255) : ((u8 n).toNat : Int) = n := by
  unfold u8
  rw [UInt8.toNat_ofNat']
  omega
theorem u8nn (n : Nat) (h : n ≤ 255) : (u8 (n : Int)).toNat = n := by
  have := u8n n (by omega)
  omega
theorem u8p (n : Int) (h : 0 ≤ n ∧ n ≤ 65535) : (u8 (n / 256)).toNat * 256 + (u8 n).toNat = n.toNat := by
  unfold u8
  rw [UInt8.toNat_ofNat', UInt8.toNat_ofNat']
  omega
theorem objs_put : ∀ (os : List (Int × Int × Int)) (r : List UInt8), (∀ o ∈ os, mayO o = true) → objs os.length (os.flatMap pO ++ r) = os
  | [], r, _ => rfl
  | (a, b, c) :: os, r, h => by
    have h1 := (mayO_iff _).1 (h _ (List.mem_cons_self ..))
    simp only at h1
    have h2 := objs_put os r (fun o ho => h o (List.mem_cons_of_mem _ ho))
    have e1 := u8n a (by omega)
    have e2 := u8p b (by omega)
    have e3 := u8n c (by omega)
    have e4 : (((u8 a).toNat % 4 : Nat) : Int) = a := by omega
    have e5 : (((u8 (b / 256)).toNat * 256 + (u8 b).toNat : Nat) : Int) = b := by omega
    simp only [List.length_cons, List.flatMap_cons, pO, List.cons_append, List.nil_append, objs, hd, List.drop_succ_cons, List.drop_zero, h2, e3, e4, e5]
theorem objs_rest (os : List (Int × Int × Int)) (r : List UInt8) : (os.flatMap pO ++ r).drop (4 * os.length) = r := by
  rw [← pO_len, List.drop_left]
theorem toL (s : ByteArray) : (ByteArray.mk s.toList.toArray) = s := by rw [ByteArray.toList_eq]
theorem tasks_put : ∀ (ts : List (ByteArray × Int)) (r : List UInt8), (∀ o ∈ ts, mayT o = true) → tasks ts.length (ts.flatMap pT ++ r) = ts ∧ tasksR ts.length (ts.flatMap pT ++ r) = r
  | [], r, _ => ⟨rfl, rfl⟩
  | (a, b) :: ts, r, h => by
    have h1 := (mayT_iff _).1 (h _ (List.mem_cons_self ..))
    simp only at h1
    have h2 := tasks_put ts r (fun o ho => h o (List.mem_cons_of_mem _ ho))
    have hs := strLen a
    have e1 : (u8 (a.size : Int)).toNat % 32 = a.toList.length := by have := u8nn a.size (by omega); omega
    have e2 := u8n b (by omega)
    have e3 : (((u8 b).toNat % 5 : Nat) : Int) = b := by omega
    have q : (((a, b) :: ts).flatMap pT ++ r) = u8 a.size :: (a.toList ++ u8 b :: (ts.flatMap pT ++ r)) := by simp [pT]
    rw [q]
    have d1 : (u8 a.size :: (a.toList ++ u8 b :: (ts.flatMap pT ++ r))).drop (1 + a.toList.length) = u8 b :: (ts.flatMap pT ++ r) := by
      rw [Nat.add_comm, List.drop_succ_cons, List.drop_left]
    have d2 : (u8 a.size :: (a.toList ++ u8 b :: (ts.flatMap pT ++ r))).drop (2 + a.toList.length) = ts.flatMap pT ++ r := by
      rw [show 2 + a.toList.length = (1 + a.toList.length) + 1 by omega, ← List.drop_drop, d1]; rfl
    have d3 : List.take a.toList.length (a.toList ++ u8 b :: (ts.flatMap pT ++ r)) = a.toList := List.take_left
    constructor
    · simp only [List.length_cons, tasks, hd, List.drop_succ_cons, List.drop_zero, e1, d1, d2, d3, e3, h2.1, toL]
    · simp only [List.length_cons, tasksR, hd, e1, d2, h2.2]
theorem choice_pC (c : Bool × Int × Bool) (h : mayC c = true) : choice (pC c) = c := by
  obtain ⟨a, n, b⟩ := c
  have h1 := (mayC_iff _).1 h
  simp only at h1
  have e : ∀ (a b : Bool) (k : Fin 64), choice (pC (a, (k.val : Int), b)) = (a, (k.val : Int), b) := by decide +kernel
  have := e a b ⟨n.toNat, by omega⟩
  simp only at this
  rw [show ((n.toNat : Nat) : Int) = n by omega] at this
  exact this
theorem get_put (m : Scr) (r : List UInt8) (hs : sane m = true) (hn : 1 ≤ m.slice ∧ m.slice ≤ 256) : get (putB m ++ r) = ⟨m.text, m.objs, m.tasks, m.slice, (m.choices ++ r.map choice).take 4000⟩ := by
  have h := (sane_iff m).1 hs
  obtain ⟨x, o, k, n, c⟩ := m
  obtain ⟨h1, h2, h3, h4, h5, h6, h7, h8⟩ := h
  simp only at h1 h2 h3 h4 h5 h6 h7 h8 hn
  have hx := strLen x
  have e1 := u8p (x.size : Int) (by omega)
  have e2 : ((u8 ((x.size : Int) / 256)).toNat * 256 + (u8 (x.size : Int)).toNat) % 2001 = x.toList.length := by omega
  have q : putB ⟨x, o, k, n, c⟩ ++ r = u8 ((x.size : Int) / 256) :: u8 x.size :: (x.toList ++ u8 o.length :: (o.flatMap pO ++ u8 k.length :: (k.flatMap pT ++ u8 (n - 1) :: (c.map pC ++ r)))) := by simp [putB]
  rw [q]
  have d1 : ∀ y : List UInt8, (u8 ((x.size : Int) / 256) :: u8 x.size :: (x.toList ++ y)).drop (2 + x.toList.length) = y := fun y => by
    rw [Nat.add_comm, List.drop_succ_cons, List.drop_succ_cons, List.drop_left]
  have e3 : (u8 (o.length : Int)).toNat % 5 = o.length := by have := u8nn o.length (by omega); omega
  have e4 : (u8 (k.length : Int)).toNat % 8 = k.length := by have := u8nn k.length (by omega); omega
  have e5 := u8n (n - 1) (by omega)
  have e6 : ((1 + (u8 (n - 1)).toNat : Nat) : Int) = n := by omega
  have d2 : ∀ y z, (y :: (o.flatMap pO ++ z)).drop (1 + 4 * o.length) = z := fun y z => by
    rw [Nat.add_comm, List.drop_succ_cons, objs_rest]
  have e7 : (c.map pC).map choice = c := by
    rw [List.map_map]
    exact (List.map_congr_left (fun a ha => choice_pC a (h8 a ha))).trans (List.map_id _)
  have d3 : ∀ y z : List UInt8, List.take x.toList.length (x.toList ++ z) = x.toList := fun y z => List.take_left
  simp only [get, hd, List.drop_succ_cons, List.drop_zero, e2, d1, e3, d2, e4, objs_put _ _ h6, (tasks_put _ _ h7).1, (tasks_put _ _ h7).2, e6, List.take_left, toL, List.map_take, List.map_append, e7]
theorem get_slice (l : List UInt8) : 1 ≤ (get l).slice ∧ (get l).slice ≤ 256 := by
  simp only [get]
  generalize tasksR _ _ = r
  have := hd_lt r
  omega
end Go.Proofs.YthmfjkakpefkeaaR
