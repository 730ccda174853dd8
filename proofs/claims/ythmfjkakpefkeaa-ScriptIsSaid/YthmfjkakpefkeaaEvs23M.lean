/- Evs23M: a part of the proof. -/
import Derived.Test.YthmfjkakpefkeaaEvs23L
open Go Go.Proofs.YthmfjkakpefkeaaEv Go.Proofs.YthmfjkakpefkeaaR Go.IntWalk
set_option maxRecDepth 20000
set_option maxHeartbeats 8000000
set_option linter.unusedVariables false
set_option linter.unusedSimpArgs false
namespace Go.Proofs.YthmfjkakpefkeaaR
theorem q256 (a : Int) (h : 0 ≤ a ∧ a ≤ 4294967296) : IntKind.i64.wrap (a.tdiv 256) = a / 256 := by
  rw [i64_quo _ _ (by omega)]
theorem r256 (a : Int) (h : 0 ≤ a) : a.tmod 256 = a % 256 := Int.tmod_eq_emod_of_nonneg h
theorem u8m (a : Int) : u8 (a % 256) = u8 a := by
  unfold u8
  congr 2
  omega
theorem code_R (y1 : Bool) (y2 : Int) (y3 : Bool) : IntKind.u8.wrap (IntKind.i64.wrap (IntKind.i64.wrap ((if y1 = true then 1 else 0) + (if y3 = true then 2 else 0)) + IntKind.i64.wrap (4 * y2))) = ((pC (y1, y2, y3)).toNat : Int) := by
  rw [← code_pC]
  cases y1 <;> cases y3 <;> simp only [code, IntKind.wrap_i64, IntKind.wrap_u8, if_true, if_false, Bool.false_eq_true] <;> omega
theorem snoc4 (l : List UInt8) (a b c d : UInt8) : flat encB l ++ [PV.int .u8 a.toNat, PV.int .u8 b.toNat, PV.int .u8 c.toNat, PV.int .u8 d.toNat] = flat encB (l ++ [a, b, c, d]) := by rw [flat_append]; rfl
section
variable {cf : CF} (hcf : cf = ev env)
include hcf
theorem s12 (t1 t2 t3 : Bool) (m : Scr) (hs : sane m = true) (hw0 : (0 ≤ IntKind.i64.wrap (m.slice - 1) ∧ IntKind.i64.wrap (m.slice - 1) ≤ 255) ↔ (1 ≤ m.slice ∧ m.slice ≤ 256)) : cf 12 [inS t1 t2 t3 m] [] = some (.own 0 1 0 (putB m).length, [some (.row (flat encB (putB m)))]) := by
  have h8 := s10 hcf t1 t2 t3 m hw0
  have hS := (sane_iff m).1 hs
  rw [hs] at h8
  obtain ⟨x, o, k, n, c⟩ := m
  have hxl := strLen x
  obtain ⟨hx, ho, hk, hc, hr, hmo, hmt, hmc⟩ := hS
  simp only at hx ho hk hc hr hmo hmt hmc hw0
  refine ev_ofC' hcf env12 ?_
  simp only [inS] at h8 ⊢
  conv => arg 2; simp only [ir12]
  conv => arg 3; simp only [ir12, Go.Proofs.YthmfjkakpefkeaaEv.start, List.length, Nat.reduceAdd, Nat.reduceSub, List.reduceReplicate, List.append_eq, List.cons_append, List.nil_append]
  conv => arg 4; simp only [heapOf]
  try conv => arg 5; simp only [List.length, Nat.reduceAdd]
  try conv => arg 6; simp only [List.length, Nat.reduceAdd]
  have hq := q256 x.size (by omega)
  have hrm := r256 x.size (by omega)
  have hm8 := u8m (x.size : Int)
  have htk : ∀ a b : UInt8, (flat encB (a :: b :: x.toList)).take (2 + x.size) = flat encB (a :: b :: x.toList) := fun a b => List.take_of_length_le (by rw [lenB]; simp [hxl]; omega)
  refine EVgl2 (And.intro (hq) ( And.intro (hrm) ( And.intro (hm8) ( And.intro (wu8) ( And.intro (strCells) ( And.intro (two) ( And.intro (cat) ( And.intro (htk) ( And.intro (snoc) (lenB)))))))))) (h8) trivial trivial trivial ?_
  generalize hb0 : u8 ((x.size : Int) / 256) :: u8 x.size :: (x.toList ++ [u8 o.length]) = b0
  have hl0 : 2 + x.size + 1 = b0.length := by rw [← hb0]; simp [hxl]; omega
  rw [hl0]
  have hb0l : b0.length ≤ 2003 := by omega
  have htl : ∀ o ∈ k, o.1.size ≤ 31 := fun o ho => ((mayT_iff o).1 (hmt o ho)).1
  refine WC.loop (T' := _) (H' := _) (n' := _) rfl ((?_ : ∀ (m i : Nat) (bs : List UInt8), i + m = o.length → bs = b0 ++ (o.take i).flatMap pO →
    WC cf _ (mkT 135 [(1, .ptr 0 0), (3, .own 1 1 0 bs.length), (4, .int .i64 (i : Nat))])
      [(0, .box [.str x, .sl o.length t1 (flat encO o), .sl k.length t2 (flat encT k), .int .i64 n, .sl c.length t3 (flat encC c)]), (1, .row (flat encB bs))] 0 2 _) o.length 0 b0 (by omega) (by simp))
  intro m
  induction m with
  | zero =>
    intro i bs hi hbs
    obtain rfl : i = o.length := by omega
    rw [List.take_length] at hbs
    have hbl : bs.length ≤ 2019 := by
      rw [hbs, List.length_append, pO_len]; omega
    conv => arg 3; simp only [mkT, putT, List.reduceReplicate, List.set]
    refine EVgl2 (And.intro (wu8) ( And.intro (snoc) (lenB))) trivial trivial trivial trivial ?_
    have e3 : bs.length + 1 = (bs ++ [u8 k.length]).length := by simp
    rw [e3]
    generalize hb1 : bs ++ [u8 k.length] = b1
    have hb1l : b1.length ≤ 2020 := by rw [← hb1]; simp; omega
    refine WC.loop (T' := _) (H' := _) (n' := _) rfl ((?_ : ∀ (m i : Nat) (bs : List UInt8), i + m = k.length → bs = b1 ++ (k.take i).flatMap pT →
      WC cf _ (mkT 135 [(1, .ptr 0 0), (3, .own 1 1 0 bs.length), (6, .int .i64 (i : Nat))])
        [(0, .box [.str x, .sl o.length t1 (flat encO o), .sl k.length t2 (flat encT k), .int .i64 n, .sl c.length t3 (flat encC c)]), (1, .row (flat encB bs))] 0 2 _) k.length 0 b1 (by omega) (by simp))
    intro m
    induction m with
    | zero =>
      intro i bs2 hi2 hbs2
      obtain rfl : i = k.length := by omega
      rw [List.take_length] at hbs2
      have hbl2 : bs2.length ≤ 3000 := by
        have := pT_len strLen k htl
        rw [hbs2, List.length_append]; omega
      conv => arg 3; simp only [mkT, putT, List.reduceReplicate, List.set]
      refine EVgl2 (And.intro (wu8) ( And.intro (u8w) ( And.intro (snoc) (lenB)))) trivial trivial trivial trivial ?_
      have e4 : bs2.length + 1 = (bs2 ++ [u8 (n - 1)]).length := by simp
      rw [e4]
      generalize hb2 : bs2 ++ [u8 (n - 1)] = b2
      have hb2l : b2.length ≤ 3001 := by rw [← hb2]; simp; omega
      refine WC.loop (T' := _) (H' := _) (n' := _) rfl ((?_ : ∀ (m i : Nat) (bs : List UInt8), i + m = c.length → bs = b2 ++ (c.take i).map pC →
        WC cf _ (mkT 135 [(1, .ptr 0 0), (3, .own 1 1 0 bs.length), (8, .int .i64 (i : Nat))])
          [(0, .box [.str x, .sl o.length t1 (flat encO o), .sl k.length t2 (flat encT k), .int .i64 n, .sl c.length t3 (flat encC c)]), (1, .row (flat encB bs))] 0 2 _) c.length 0 b2 (by omega) (by simp))
      intro m
      induction m with
      | zero =>
        intro i bs3 hi3 hbs3
        obtain rfl : i = c.length := by omega
        rw [List.take_length] at hbs3
        conv => arg 3; simp only [mkT, putT, List.reduceReplicate, List.set]
        refine EVgl2 trivial trivial trivial trivial trivial ?_
        have hp : putB ⟨x, o, k, n, c⟩ = bs3 := by
          rw [hbs3, ← hb2, hbs2, ← hb1, hbs, ← hb0]
          simp [putB]
        rw [hp]
        exact WQ.ret rfl
      | succ m ih =>
        intro i bs3 hi3 hbs3
        have hlt : (i : Int) < (c.length : Int) := by omega
        have hlt' : i < c.length := by omega
        have hw := wi i c.length m (by omega) (by omega)
        have e0 := flat_at (enc := encC) (es := 3) (fun _ => rfl) hlt'
        generalize hx0 : c[i] = y at e0
        obtain ⟨y1, y2, y3⟩ := y
        have hcode := code_R y1 y2 y3
        have hbl3 : bs3.length ≤ 8000 := by
          rw [hbs3, List.length_append, List.length_map, List.length_take]
          omega
        conv => arg 3; simp only [mkT, putT, List.reduceReplicate, List.set]
        refine EVgl2 (And.intro (hlt) ( And.intro (hw) ( And.intro (e0) ( And.intro (@encC.eq_1) ( And.intro (hcode) ( And.intro (snoc) (lenB))))))) (s29 hcf y1 1) (s29 hcf y3 2) trivial trivial ?_
        have e3 : bs3.length + 1 = (bs3 ++ [pC (y1, y2, y3)]).length := by simp
        rw [e3]
        refine WC.loop rfl (ih (i + 1) _ (by omega) ?_)
        rw [hbs3, List.take_succ_eq_append_getElem hlt', List.map_append, hx0]
        simp
    | succ m ih =>
      intro i bs2 hi2 hbs2
      have hlt : (i : Int) < (k.length : Int) := by omega
      have hlt' : i < k.length := by omega
      have hw := wi i k.length m (by omega) (by omega)
      have e0 := flat_at (enc := encT) (es := 2) (fun _ => rfl) hlt'
      generalize hx0 : k[i] = y at e0
      obtain ⟨y1, y2⟩ := y
      have hyl : y1.size ≤ 31 := htl (y1, y2) (by rw [← hx0]; exact List.getElem_mem hlt')
      have hyL := strLen y1
      have hbl2 : bs2.length ≤ 3000 := by
        have := pT_len strLen (k.take i) (fun o ho => htl o (List.mem_of_mem_take ho))
        rw [hbs2, List.length_append]
        rw [List.length_take] at this
        omega
      conv => arg 3; simp only [mkT, putT, List.reduceReplicate, List.set]
      refine EVgl2 (And.intro (hlt) ( And.intro (hw) ( And.intro (e0) ( And.intro (@encT.eq_1) ( And.intro (wu8) ( And.intro (strCells) ( And.intro (two) ( And.intro (cat) ( And.intro (snoc) ( And.intro (lenB) (hyL))))))))))) trivial trivial trivial trivial ?_
      have e3 : bs2.length + 1 + y1.size + 1 = (bs2 ++ [u8 y1.size] ++ y1.toList ++ [u8 y2]).length := by simp [hyL]; omega
      rw [e3]
      refine WC.loop rfl (ih (i + 1) _ (by omega) ?_)
      rw [hbs2, List.take_succ_eq_append_getElem hlt', List.flatMap_append, hx0]
      simp [pT]
  | succ m ih =>
    intro i bs hi hbs
    have hlt : (i : Int) < (o.length : Int) := by omega
    have hlt' : i < o.length := by omega
    have hw := wi i o.length m (by omega) (by omega)
    have e0 := flat_at (enc := encO) (es := 3) (fun _ => rfl) hlt'
    generalize hx0 : o[i] = y at e0
    obtain ⟨y1, y2, y3⟩ := y
    have hmy := (mayO_iff _).1 (hmo (y1, y2, y3) (by rw [← hx0]; exact List.getElem_mem hlt'))
    simp only at hmy
    have hq := q256 y2 (by omega)
    have hrm := r256 y2 (by omega)
    have hm8 := u8m y2
    have hbl : bs.length ≤ 2100 := by
      rw [hbs, List.length_append, pO_len, List.length_take]; omega
    conv => arg 3; simp only [mkT, putT, List.reduceReplicate, List.set]
    refine EVgl2 (And.intro (hlt) ( And.intro (hw) ( And.intro (hq) ( And.intro (hrm) ( And.intro (hm8) ( And.intro (e0) ( And.intro (@encO.eq_1) ( And.intro (wu8) ( And.intro (snoc4) (lenB)))))))))) trivial trivial trivial trivial ?_
    have e3 : bs.length + 4 = (bs ++ [u8 y1, u8 (y2 / 256), u8 y2, u8 y3]).length := by simp
    rw [e3]
    refine WC.loop rfl (ih (i + 1) _ (by omega) ?_)
    rw [hbs, List.take_succ_eq_append_getElem hlt', List.flatMap_append, hx0]
    simp [pO]
theorem s12n (t1 t2 t3 : Bool) (m : Scr) (hs : sane m = false) (hw0 : (0 ≤ IntKind.i64.wrap (m.slice - 1) ∧ IntKind.i64.wrap (m.slice - 1) ≤ 255) ↔ (1 ≤ m.slice ∧ m.slice ≤ 256)) : cf 12 [inS t1 t2 t3 m] [] = some (.nil, []) := by
  have h8 := s10 hcf t1 t2 t3 m hw0
  rw [hs] at h8
  refine ev_ofC' hcf env12 ?_
  simp only [inS] at h8 ⊢
  conv => arg 2; simp only [ir12]
  conv => arg 3; simp only [ir12, Go.Proofs.YthmfjkakpefkeaaEv.start, List.length, Nat.reduceAdd, Nat.reduceSub, List.reduceReplicate, List.append_eq, List.cons_append, List.nil_append]
  conv => arg 4; simp only [heapOf]
  try conv => arg 5; simp only [List.length, Nat.reduceAdd]
  try conv => arg 6; simp only [List.length, Nat.reduceAdd]
  refine EVgo2 trivial (h8) trivial trivial trivial ?_
  exact WQ.ret rfl
theorem s11n (t1 t2 t3 : Bool) (m : Scr) (hs : sane m = false) : cf 11 [inS t1 t2 t3 m] [] = some (.nil, []) := by
  have h8 := s8 hcf t1 t2 t3 m
  rw [hs] at h8
  refine ev_ofC' hcf env11 ?_
  simp only [inS] at h8 ⊢
  conv => arg 2; simp only [ir11]
  conv => arg 3; simp only [ir11, Go.Proofs.YthmfjkakpefkeaaEv.start, List.length, Nat.reduceAdd, Nat.reduceSub, List.reduceReplicate, List.append_eq, List.cons_append, List.nil_append]
  conv => arg 4; simp only [heapOf]
  try conv => arg 5; simp only [List.length, Nat.reduceAdd]
  try conv => arg 6; simp only [List.length, Nat.reduceAdd]
  refine EVgo2 trivial (h8) trivial trivial trivial ?_
  exact WQ.ret rfl
end
end Go.Proofs.YthmfjkakpefkeaaR
