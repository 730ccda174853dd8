/- Evs23E: a part of the proof. -/
import Derived.Test.YthmfjkakpefkeaaEvs23D
open Go Go.Proofs.YthmfjkakpefkeaaEv Go.Proofs.YthmfjkakpefkeaaR Go.IntWalk
set_option maxRecDepth 20000
set_option maxHeartbeats 8000000
set_option linter.unusedVariables false
set_option linter.unusedSimpArgs false
namespace Go.Proofs.YthmfjkakpefkeaaR
/-- the byte that a number leaves -/
def u8 (n : Int) : UInt8 := UInt8.ofNat (n % 256).toNat
theorem wu8 (n : Int) : IntKind.u8.wrap n = ((u8 n).toNat : Int) := by
  rw [IntKind.wrap_u8]
  unfold u8
  rw [UInt8.toNat_ofNat']
  omega
theorem shr8 (n : Int) : n.fdiv (2 ^ min (Int.toNat 8) IntKind.i64.bits) = n / 256 := by
  have e1 : (2 : Int) ^ min (Int.toNat 8) IntKind.i64.bits = 256 := by decide
  rw [e1, Int.fdiv_eq_ediv_of_nonneg _ (by omega)]
theorem strCells (s : ByteArray) : (s.toList.map fun b => PV.int .u8 b.toNat) = flat encB s.toList := by
  induction s.toList with
  | nil => rfl
  | cons b l ih => rw [List.map_cons, flat_cons, ih]; rfl
theorem lenB (l : List UInt8) : (flat encB l).length = l.length := (flat_length (enc := encB) (es := 1) (fun _ => rfl) l).trans (Nat.mul_one _)
theorem snoc (l : List UInt8) (b : UInt8) : flat encB l ++ [PV.int .u8 b.toNat] = flat encB (l ++ [b]) := by rw [flat_append]; rfl
theorem snoc2 (l : List UInt8) (a b : UInt8) : flat encB l ++ [PV.int .u8 a.toNat, PV.int .u8 b.toNat] = flat encB (l ++ [a, b]) := by rw [flat_append]; rfl
theorem cat (l m : List UInt8) : flat encB l ++ flat encB m = flat encB (l ++ m) := by rw [flat_append]
theorem two (a b : UInt8) : [PV.int .u8 a.toNat, PV.int .u8 b.toNat] = flat encB [a, b] := rfl
theorem sane_tasks {x : ByteArray} {o : List (Int × Int × Int)} {k : List (ByteArray × Int)} {n : Int} {c : List (Bool × Int × Bool)} (hs : sane ⟨x, o, k, n, c⟩ = true) : ∀ p ∈ k, p.1.size ≤ 31 := by
  intro p hp
  simp only [sane, Bool.and_eq_true, Bool.not_eq_true', List.any_eq_false] at hs
  have := hs.2.2.2.1 p hp
  cases hm : mayT p with
  | false => rw [hm] at this; exact absurd rfl this
  | true =>
    simp only [mayT, Bool.and_eq_true, decide_eq_true_eq] at hm
    omega
theorem u8w (n : Int) : u8 (IntKind.i64.wrap n) = u8 n := by
  unfold u8
  rw [IntKind.wrap_i64]
  congr 2
  omega
theorem strLen (s : ByteArray) : s.toList.length = s.size := by rw [ByteArray.toList_eq]; rfl
section
variable {cf : CF} (hcf : cf = ev env)
include hcf
theorem s27' (n : Int) : cf 27 [.int .i64 n] [] = some (.own 0 1 0 2, [some (.row (flat encB [u8 (n / 256), u8 n]))]) := by
  rw [s27 hcf, wu8, wu8, shr8]
  rfl
omit hcf in
def pO (o : Int × Int × Int) : List UInt8 := [u8 o.1, u8 (o.2.1 / 256), u8 o.2.1, u8 o.2.2]
omit hcf in
theorem pO_len : ∀ l : List (Int × Int × Int), (l.flatMap pO).length = 4 * l.length
  | [] => rfl
  | x :: l => by rw [List.flatMap_cons, List.length_append, pO_len l]; simp [pO]; omega
omit hcf in
def pT (o : ByteArray × Int) : List UInt8 := u8 o.1.size :: (o.1.toList ++ [u8 o.2])
omit hcf in
theorem pT_len (hq : ∀ s : ByteArray, s.toList.length = s.size) : ∀ l : List (ByteArray × Int), (∀ o ∈ l, o.1.size ≤ 31) → (l.flatMap pT).length ≤ 33 * l.length
  | [], _ => by simp
  | x :: l, h => by
    have h1 := pT_len hq l (fun o ho => h o (List.mem_cons_of_mem _ ho))
    have h2 := h x (List.mem_cons_self ..)
    rw [List.flatMap_cons, List.length_append]
    simp only [pT, List.length_cons, List.length_append, List.length_nil, hq]
    omega
omit hcf in
def pC (c : Bool × Int × Bool) : UInt8 := u8 (code c)
omit hcf in
theorem code_pC (c : Bool × Int × Bool) : code c = ((pC c).toNat : Int) := by
  unfold pC
  rw [← wu8]
  unfold code
  simp only [IntKind.wrap_u8]
  omega
omit hcf in
def putB (m : Scr) : List UInt8 := u8 ((m.text.size : Int) / 256) :: u8 m.text.size :: (m.text.toList ++ u8 m.objs.length :: (m.objs.flatMap pO ++ u8 m.tasks.length :: (m.tasks.flatMap pT ++ u8 (m.slice - 1) :: m.choices.map pC)))
theorem s11 (t1 t2 t3 : Bool) (m : Scr) (hs : sane m = true) : cf 11 [inS t1 t2 t3 m] [] = some (.own 0 1 0 (putB m).length, [some (.row (flat encB (putB m)))]) := by
  have h8 := s8 hcf t1 t2 t3 m
  rw [hs] at h8
  obtain ⟨x, o, k, n, c⟩ := m
  have hxl := strLen x
  obtain ⟨⟨⟨⟨hx, ho⟩, hk⟩, hc⟩, hr⟩ : ((((x.size : Int) ≤ 2000 ∧ (o.length : Int) ≤ 4) ∧ (k.length : Int) ≤ 7) ∧ (c.length : Int) ≤ 4000) ∧ True := by
    simp only [sane, Bool.and_eq_true, decide_eq_true_eq] at hs
    exact ⟨hs.1, trivial⟩
  refine ev_ofC' hcf env11 ?_
  simp only [inS] at h8 ⊢
  conv => arg 2; simp only [ir11]
  conv => arg 3; simp only [ir11, Go.Proofs.YthmfjkakpefkeaaEv.start, List.length, Nat.reduceAdd, Nat.reduceSub, List.reduceReplicate, List.append_eq, List.cons_append, List.nil_append]
  conv => arg 4; simp only [heapOf]
  try conv => arg 5; simp only [List.length, Nat.reduceAdd]
  try conv => arg 6; simp only [List.length, Nat.reduceAdd]
  have htk : ∀ a b : UInt8, (flat encB (a :: b :: x.toList)).take (2 + x.size) = flat encB (a :: b :: x.toList) := fun a b => List.take_of_length_le (by rw [lenB]; simp [hxl]; omega)
  refine EVgl2 (And.intro (wu8) ( And.intro (strCells) ( And.intro (two) ( And.intro (cat) ( And.intro (htk) ( And.intro (snoc) (lenB))))))) (h8) (s27' hcf x.size) trivial trivial ?_
  generalize hb0 : u8 ((x.size : Int) / 256) :: u8 x.size :: (x.toList ++ [u8 o.length]) = b0
  have hl0 : 2 + x.size + 1 = b0.length := by rw [← hb0]; simp [hxl]; omega
  rw [hl0]
  have hb0l : b0.length ≤ 2003 := by omega
  refine WC.loop (T' := _) (H' := _) (n' := _) rfl ((?_ : ∀ (m i : Nat) (bs : List UInt8), i + m = o.length → bs = b0 ++ (o.take i).flatMap pO →
    WC cf _ (mkT 101 [(1, .ptr 0 0), (3, .own 1 1 0 bs.length), (28, .sl o.length t1 (flat encO o)), (29, .int .i64 (o.length : Nat)), (30, .int .i64 (i : Nat))])
      [(0, .box [.str x, .sl o.length t1 (flat encO o), .sl k.length t2 (flat encT k), .int .i64 n, .sl c.length t3 (flat encC c)]), (1, .row (flat encB bs))] 0 2 _) o.length 0 b0 (by omega) (by simp))
  intro m
  induction m with
  | zero =>
    intro i bs hi hbs
    obtain rfl : i = o.length := by omega
    rw [List.take_length] at hbs
    have hbl : bs.length ≤ 2019 := by
      rw [hbs, List.length_append, pO_len]; omega
    conv => arg 3; simp only [mkT, putT, List.reduceReplicate, List.set]
    refine EVgl2 (And.intro (wu8) ( And.intro (snoc) (lenB))) trivial trivial trivial trivial ?_
    have e3 : bs.length + 1 = (bs ++ [u8 k.length]).length := by simp
    rw [e3]
    generalize hb1 : bs ++ [u8 k.length] = b1
    have hb1l : b1.length ≤ 2020 := by rw [← hb1]; simp; omega
    have htl : ∀ o ∈ k, o.1.size ≤ 31 := by
      have := sane_tasks hs
      exact this
    refine WC.loop (T' := _) (H' := _) (n' := _) rfl ((?_ : ∀ (m i : Nat) (bs : List UInt8), i + m = k.length → bs = b1 ++ (k.take i).flatMap pT →
      WC cf _ (mkT 101 [(1, .ptr 0 0), (3, .own 1 1 0 bs.length), (58, .sl k.length t2 (flat encT k)), (59, .int .i64 (k.length : Nat)), (60, .int .i64 (i : Nat))])
        [(0, .box [.str x, .sl o.length t1 (flat encO o), .sl k.length t2 (flat encT k), .int .i64 n, .sl c.length t3 (flat encC c)]), (1, .row (flat encB bs))] 0 2 _) k.length 0 b1 (by omega) (by simp))
    intro m
    induction m with
    | zero =>
      intro i bs2 hi2 hbs2
      obtain rfl : i = k.length := by omega
      rw [List.take_length] at hbs2
      have hbl2 : bs2.length ≤ 3000 := by
        have := pT_len strLen k htl
        rw [hbs2, List.length_append]; omega
      conv => arg 3; simp only [mkT, putT, List.reduceReplicate, List.set]
      refine EVgl2 (And.intro (wu8) ( And.intro (u8w) ( And.intro (snoc) (lenB)))) trivial trivial trivial trivial ?_
      have e4 : bs2.length + 1 = (bs2 ++ [u8 (n - 1)]).length := by simp
      rw [e4]
      generalize hb2 : bs2 ++ [u8 (n - 1)] = b2
      have hb2l : b2.length ≤ 3001 := by rw [← hb2]; simp; omega
      refine WC.loop (T' := _) (H' := _) (n' := _) rfl ((?_ : ∀ (m i : Nat) (bs : List UInt8), i + m = c.length → bs = b2 ++ (c.take i).map pC →
        WC cf _ (mkT 101 [(3, .own 0 1 0 bs.length), (88, .sl c.length t3 (flat encC c)), (89, .int .i64 (c.length : Nat)), (90, .int .i64 (i : Nat))])
          [(0, .row (flat encB bs))] 0 1 _) c.length 0 b2 (by omega) (by simp))
      intro m
      induction m with
      | zero =>
        intro i bs3 hi3 hbs3
        obtain rfl : i = c.length := by omega
        rw [List.take_length] at hbs3
        conv => arg 3; simp only [mkT, putT, List.reduceReplicate, List.set]
        refine EVgl2 trivial trivial trivial trivial trivial ?_
        have hp : putB ⟨x, o, k, n, c⟩ = bs3 := by
          rw [hbs3, ← hb2, hbs2, ← hb1, hbs, ← hb0]
          simp [putB]
        rw [hp]
        exact WQ.ret rfl
      | succ m ih =>
        intro i bs3 hi3 hbs3
        have hlt : (i : Int) < (c.length : Int) := by omega
        have hlt' : i < c.length := by omega
        have hw := wi i c.length m (by omega) (by omega)
        have e0 := flat_at (enc := encC) (es := 3) (fun _ => rfl) hlt'
        generalize hx0 : c[i] = y at e0
        obtain ⟨y1, y2, y3⟩ := y
        have hbl3 : bs3.length ≤ 8000 := by
          rw [hbs3, List.length_append, List.length_map, List.length_take]
          omega
        conv => arg 3; simp only [mkT, putT, List.reduceReplicate, List.set]
        refine EVgl2 (And.intro (hlt) ( And.intro (hw) ( And.intro (e0) ( And.intro (@encC.eq_1) ( And.intro (code_pC) ( And.intro (snoc) (lenB))))))) (s28 hcf (y1, y2, y3)) trivial trivial trivial ?_
        have e3 : bs3.length + 1 = (bs3 ++ [pC (y1, y2, y3)]).length := by simp
        rw [e3]
        refine WC.loop rfl (ih (i + 1) _ (by omega) ?_)
        rw [hbs3, List.take_succ_eq_append_getElem hlt', List.map_append, hx0]
        simp
    | succ m ih =>
      intro i bs2 hi2 hbs2
      have hlt : (i : Int) < (k.length : Int) := by omega
      have hlt' : i < k.length := by omega
      have hw := wi i k.length m (by omega) (by omega)
      have e0 := flat_at (enc := encT) (es := 2) (fun _ => rfl) hlt'
      generalize hx0 : k[i] = y at e0
      obtain ⟨y1, y2⟩ := y
      have hyl : y1.size ≤ 31 := htl (y1, y2) (by rw [← hx0]; exact List.getElem_mem hlt')
      have hyL := strLen y1
      have hbl2 : bs2.length ≤ 3000 := by
        have := pT_len strLen (k.take i) (fun o ho => htl o (List.mem_of_mem_take ho))
        rw [hbs2, List.length_append]
        rw [List.length_take] at this
        omega
      conv => arg 3; simp only [mkT, putT, List.reduceReplicate, List.set]
      refine EVgl2 (And.intro (hlt) ( And.intro (hw) ( And.intro (e0) ( And.intro (@encT.eq_1) ( And.intro (wu8) ( And.intro (strCells) ( And.intro (two) ( And.intro (cat) ( And.intro (snoc) ( And.intro (lenB) (hyL))))))))))) trivial trivial trivial trivial ?_
      have e3 : bs2.length + 1 + y1.size + 1 = (bs2 ++ [u8 y1.size] ++ y1.toList ++ [u8 y2]).length := by simp [hyL]; omega
      rw [e3]
      refine WC.loop rfl (ih (i + 1) _ (by omega) ?_)
      rw [hbs2, List.take_succ_eq_append_getElem hlt', List.flatMap_append, hx0]
      simp [pT]
  | succ m ih =>
    intro i bs hi hbs
    have hlt : (i : Int) < (o.length : Int) := by omega
    have hlt' : i < o.length := by omega
    have hw := wi i o.length m (by omega) (by omega)
    have e0 := flat_at (enc := encO) (es := 3) (fun _ => rfl) hlt'
    generalize hx0 : o[i] = y at e0
    obtain ⟨y1, y2, y3⟩ := y
    have hbl : bs.length ≤ 2100 := by
      rw [hbs, List.length_append, pO_len, List.length_take]; omega
    conv => arg 3; simp only [mkT, putT, List.reduceReplicate, List.set]
    refine EVgl2 (And.intro (hlt) ( And.intro (hw) ( And.intro (e0) ( And.intro (@encO.eq_1) ( And.intro (wu8) ( And.intro (two) ( And.intro (cat) ( And.intro (snoc) (lenB))))))))) (s27' hcf y2) trivial trivial trivial ?_
    have e3 : bs.length + 1 + 2 + 1 = (bs ++ [u8 y1] ++ [u8 (y2 / 256), u8 y2] ++ [u8 y3]).length := by simp
    rw [e3]
    refine WC.loop rfl (ih (i + 1) _ (by omega) ?_)
    rw [hbs, List.take_succ_eq_append_getElem hlt', List.flatMap_append, hx0]
    simp [pO]
end
end Go.Proofs.YthmfjkakpefkeaaR
