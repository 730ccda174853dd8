/- Evf06H1: a part of the proof. -/
import Derived.Test.YtgiapbmeaobjiaaEvf06G1
open Go Go.Proofs.YtgiapbmeaobjiaaEv Go.Proofs.YtgiapbmeaobjiaaR Go.IntWalk
set_option maxRecDepth 20000
set_option maxHeartbeats 8000000
set_option linter.unusedVariables false
set_option linter.unusedSimpArgs false
namespace Go.Proofs.YtgiapbmeaobjiaaR
def headApp (w : Bs) : List Bs → List Bs
  | [] => [w]
  | x :: t => (w ++ x) :: t
/-- the lines of a text -/
def linesL : Bs → List Bs
  | [] => [[]]
  | b :: r => if b = 10 then [] :: linesL r else headApp [b] (linesL r)
theorem linesL_ne : ∀ L : Bs, linesL L ≠ []
  | [] => by simp [linesL]
  | b :: r => by
    unfold linesL
    split
    · simp
    · cases h : linesL r with
      | nil => simp [headApp]
      | cons x t => simp [headApp]
theorem headApp_nil {l : List Bs} (h : l ≠ []) : headApp [] l = l := by cases l with | nil => exact absurd rfl h | cons x t => rfl
theorem headApp_app (v w : Bs) {l : List Bs} (h : l ≠ []) : headApp v (headApp w l) = headApp (v ++ w) l := by
  cases l with
  | nil => exact absurd rfl h
  | cons x t => simp [headApp]
theorem lines_free : ∀ {L : Bs}, (∀ c ∈ L, c ≠ 10) → linesL L = [L]
  | [], _ => rfl
  | b :: r, h => by
    unfold linesL
    rw [if_neg (h b List.mem_cons_self), lines_free fun c hc => h c (List.mem_cons_of_mem _ hc)]
    rfl
theorem lines_cut : ∀ {q r : Bs}, (∀ c ∈ q, c ≠ 10) → linesL (q ++ 10 :: r) = q :: linesL r
  | [], r, _ => by rw [List.nil_append, linesL, if_pos rfl]
  | b :: q, r, h => by
    rw [List.cons_append, linesL, if_neg (h b List.mem_cons_self), lines_cut fun c hc => h c (List.mem_cons_of_mem _ hc)]
    rfl
theorem split10 : ∀ L : Bs, (∀ c ∈ L, c ≠ 10) ∨ ∃ q r, L = q ++ 10 :: r ∧ ∀ c ∈ q, c ≠ 10
  | [] => .inl fun c hc => absurd hc List.not_mem_nil
  | b :: L => by
    by_cases hb : b = 10
    · exact .inr ⟨[], L, by rw [hb]; rfl, fun c hc => absurd hc List.not_mem_nil⟩
    · rcases split10 L with h | ⟨q, r, h, hq⟩
      · refine .inl fun c hc => ?_
        rcases List.mem_cons.1 hc with rfl | hc
        · exact hb
        · exact h c hc
      · refine .inr ⟨b :: q, r, by rw [h]; rfl, fun c hc => ?_⟩
        rcases List.mem_cons.1 hc with rfl | hc
        · exact hb
        · exact hq c hc
theorem idx_free : ∀ {L : Bs}, (∀ c ∈ L, c ≠ 10) → Lib.indexByte L 10 = -1
  | [], _ => rfl
  | b :: r, h => by
    unfold Lib.indexByte
    rw [beq_eq_false_iff_ne.2 (h b List.mem_cons_self), idx_free fun c hc => h c (List.mem_cons_of_mem _ hc)]
    rfl
theorem idx_cut : ∀ {q r : Bs}, (∀ c ∈ q, c ≠ 10) → Lib.indexByte (q ++ 10 :: r) 10 = q.length
  | [], r, _ => rfl
  | b :: q, r, h => by
    rw [List.cons_append, Lib.indexByte, beq_eq_false_iff_ne.2 (h b List.mem_cons_self), idx_cut fun c hc => h c (List.mem_cons_of_mem _ hc)]
    have e : (((q.length : Nat) : Int) == -1) = false := beq_eq_false_iff_ne.2 (by omega)
    rw [if_neg (by decide), e, if_neg (by decide)]
    simp
theorem cutB_free {L : Bs} (h : ∀ c ∈ L, c ≠ 10) : cutB ⟨L.toArray⟩ = (⟨L.toArray⟩, ⟨#[]⟩, false) := by
  unfold cutB
  rw [if_neg (by show ¬ 0 ≤ Lib.indexByte L 10; rw [idx_free h]; decide)]
theorem cutB_cut {q r : Bs} (h : ∀ c ∈ q, c ≠ 10) : cutB ⟨(q ++ 10 :: r).toArray⟩ = (⟨q.toArray⟩, ⟨r.toArray⟩, true) := by
  have e : Lib.indexByte (⟨(q ++ 10 :: r).toArray⟩ : ByteArray).data.toList 10 = q.length := idx_cut h
  unfold cutB
  rw [if_pos (by rw [e]; omega), e, Int.toNat_natCast, exB, exB, List.take_left, List.drop_zero]
  have e2 : ((q ++ 10 :: r).take (⟨(q ++ 10 :: r).toArray⟩ : ByteArray).size).drop (q.length + 1) = r := by
    rw [szB, List.take_length, show q ++ 10 :: r = (q ++ [10]) ++ r by simp]
    exact List.drop_left' (by simp)
  rw [e2]
theorem pieces_lines : ∀ (n : Nat) (L : Bs), L.length ≤ n → pieces n ⟨L.toArray⟩ = (linesL L).map fun l => ⟨l.toArray⟩
  | 0, L, h => by
    obtain rfl : L = [] := List.length_eq_zero_iff.1 (by omega)
    rw [pieces, cutB_free fun c hc => absurd hc List.not_mem_nil]
    rfl
  | n + 1, L, h => by
    rcases split10 L with q | ⟨q, r, rfl, hq⟩
    · rw [pieces, cutB_free q, lines_free q]
      rfl
    · rw [pieces, cutB_cut hq, lines_cut hq, if_pos rfl, List.map_cons, pieces_lines n r (by rw [List.length_append, List.length_cons] at h; omega)]
def encS (l : Bs) : List PV := [sB l]
def slS (l : List Bs) : PV := .sl l.length false (flat encS l)
theorem lenS (l : List Bs) : (flat encS l).length = l.length := by have := flat_length (enc := encS) (es := 1) (fun _ => rfl) l; omega
theorem allS (l : List Bs) : (flat encS l).take l.length = flat encS l := List.take_of_length_le (by rw [lenS]; exact Nat.le_refl _)
theorem snocS (l : List Bs) (x : Bs) : flat encS l ++ [PV.str ⟨x.toArray⟩] = flat encS (l ++ [x]) := (flat_append l [x]).symm
theorem mid_S {m p r : List Bs} {x : Bs} (h : p ++ x :: r = m) : (flat encS m).drop p.length = .str ⟨x.toArray⟩ :: flat encS r := by
  subst h
  have := flat_drop (enc := encS) (es := 1) (fun _ => rfl) (p ++ x :: r) p.length
  rw [Nat.mul_one] at this
  rw [this, List.drop_left]
  rfl
theorem snoc_lenS (p : List Bs) (x : Bs) : (p ++ [x]).length = p.length + 1 := by simp
theorem flat_map : ∀ l : List Bs, (l.map fun l => (⟨l.toArray⟩ : ByteArray)).map PV.str = flat encS l
  | [] => rfl
  | x :: l => by rw [List.map_cons, List.map_cons, flat_map l]; rfl
section
variable {cf : CF} (hcf : cf = ev env)
include hcf
theorem s11 (L : Bs) (hL : L.length ≤ 1000000) : cf 11 [.str ⟨L.toArray⟩] [] = some (slS (linesL L), []) := by
  subst hcf
  refine ev_prim env11 _ _ ?_
  have hs : (⟨L.toArray⟩ : ByteArray).size ≤ 1000000000 := by rw [szB]; omega
  show (if (⟨L.toArray⟩ : ByteArray).size ≤ 1000000000 then some (strsV (pieces (⟨L.toArray⟩ : ByteArray).size ⟨L.toArray⟩), []) else none) = _
  rw [if_pos hs, szB, pieces_lines _ _ (Nat.le_refl _)]
  unfold strsV slS
  rw [flat_map, List.length_map]
theorem s22 (l : List Bs) (hl : l.length ≤ 1000000) : Sp cf 22 [slS l, slS l] (.bool true) := by
  refine sp_of hcf env22 ?_
  simp only [slS]
  conv => arg 2; simp only [ir22]
  conv => arg 3; simp only [ir22, Go.Proofs.YtgiapbmeaobjiaaEv.start, List.length, Nat.reduceAdd, Nat.reduceSub, List.reduceReplicate, List.append_eq, List.cons_append, List.nil_append]
  conv => arg 4; simp only [heapOf]
  try conv => arg 5; simp only [List.length, Nat.reduceAdd]
  try conv => arg 6; simp only [List.length, Nat.reduceAdd]
  refine EVgl9 trivial trivial trivial trivial trivial trivial trivial trivial trivial trivial trivial trivial ?_
  refine WC.loop (T' := _) (H' := _) (n' := _) rfl ((?_ : ∀ (r p : List Bs), p ++ r = l →
    WC cf _ (mkT 26 [(0, .sl l.length false (flat encS l)), (1, .sl l.length false (flat encS l)), (5, .int .i64 (p.length : Nat))]) [] 0 0 _) l [] rfl)
  intro r
  induction r with
  | nil =>
    intro p hp
    rw [List.append_nil] at hp
    subst hp
    conv => arg 3; simp only [mkT, putT, List.reduceReplicate, List.set]
    refine EVgl9 trivial trivial trivial trivial trivial trivial trivial trivial trivial trivial trivial trivial ?_
    exact EVret trivial
  | cons x r ih =>
    intro p hp
    have hlen : l.length = p.length + (r.length + 1) := by rw [← hp]; simp
    have hlt : (p.length : Int) < (l.length : Int) := by omega
    have hw : IntKind.i64.wrap ((p.length : Int) + 1) = ((p.length + 1 : Nat) : Int) := by rw [i64_in _ (by omega)]; simp
    have e0 := mid_S hp
    have hxy : ((⟨x.toArray⟩ : ByteArray).toList == (⟨x.toArray⟩ : ByteArray).toList) = true := beq_self_eq_true _
    have hih := ih (p ++ [x]) (by rw [List.append_assoc]; exact hp)
    rw [snoc_lenS] at hih
    conv => arg 3; simp only [mkT, putT, List.reduceReplicate, List.set]
    refine EVgo9 (And.intro (hlt) ( And.intro (hw) ( And.intro (e0) (hxy)))) trivial trivial trivial trivial trivial trivial trivial trivial trivial trivial trivial ?_
    exact WC.loop rfl hih
theorem s23 (L : Bs) (hL : L.length ≤ 1000000) : Sp cf 23 [sB L] (slS (linesL L)) := by
  refine sp_of hcf env23 ?_
  simp only [slS, sB]
  conv => arg 2; simp only [ir23]
  conv => arg 3; simp only [ir23, Go.Proofs.YtgiapbmeaobjiaaEv.start, List.length, Nat.reduceAdd, Nat.reduceSub, List.reduceReplicate, List.append_eq, List.cons_append, List.nil_append]
  conv => arg 4; simp only [heapOf]
  try conv => arg 5; simp only [List.length, Nat.reduceAdd]
  try conv => arg 6; simp only [List.length, Nat.reduceAdd]
  refine EVgo9 trivial trivial trivial trivial trivial trivial trivial trivial trivial trivial trivial trivial ?_
  refine WC.loop (T' := _) (H' := _) (n' := _) rfl ((?_ : ∀ (r pre w : Bs) (out : List Bs), (pre ++ w) ++ r = L → linesL L = out ++ headApp w (linesL r) → out.length ≤ pre.length →
    WC cf _ (mkT 31 [(0, .str ⟨L.toArray⟩), (3, .own 0 1 0 out.length), (4, .int .i64 (pre.length : Nat)), (5, .int .i64 ((pre ++ w).length : Nat))]) [(0, .row (flat encS out))] 0 1 _) L [] [] [] rfl (by rw [headApp_nil (linesL_ne L)]; rfl) (Nat.le_refl _))
  intro r
  induction r with
  | nil =>
    intro pre w out hq hx hol
    rw [List.append_nil] at hq
    have e1 : (⟨L.toArray⟩ : ByteArray).extract pre.length L.length = ⟨w.toArray⟩ := by
      rw [exB, List.take_length, ← hq, List.drop_left]
    have hpl : pre.length ≤ L.length := by rw [← hq, List.length_append]; omega
    have hxx : linesL L = out ++ [w] := by rw [hx]; simp [linesL, headApp]
    have hn : ¬ (((pre ++ w).length : Nat) : Int) < (L.length : Int) := by rw [hq]; exact Int.lt_irrefl _
    rw [hxx]
    rw [snoc_lenS]
    have hall := allS (out ++ [w])
    rw [snoc_lenS] at hall
    conv => arg 3; simp only [mkT, putT, List.reduceReplicate, List.set]
    refine EVgo9 (And.intro (szB) (hn)) trivial trivial trivial trivial trivial trivial trivial trivial trivial trivial trivial ?_
    refine EVgo9 (And.intro (szB) ( And.intro (e1) ( And.intro (lenS) ( And.intro (allS) (snocS))))) trivial trivial trivial trivial trivial trivial trivial trivial trivial trivial trivial ?_
    exact EVret (And.intro (hall) (snoc_lenS))
  | cons b r ih =>
    intro pre w out hq hx hol
    have hlen : L.length = (pre ++ w).length + (r.length + 1) := by rw [← hq]; simp; omega
    have hlt : (((pre ++ w).length : Nat) : Int) < (L.length : Int) := by omega
    have h0 : (0 : Int) ≤ (((pre ++ w).length : Nat) : Int) := Int.natCast_nonneg _
    have hb := at_B hq
    have hw : IntKind.i64.wrap ((((pre ++ w).length : Nat) : Int) + 1) = (((pre ++ w).length + 1 : Nat) : Int) := by rw [i64_in _ (by omega)]; simp
    have hpl : pre.length ≤ (pre ++ w).length := by rw [List.length_append]; omega
    have hpl2 : (pre ++ w).length ≤ L.length := by omega
    by_cases h10 : b = 10
    · subst h10
      have hb10 : (((10 : UInt8).toNat : Int) == 10) = true := rfl
      have e1 : (⟨L.toArray⟩ : ByteArray).extract pre.length (pre ++ w).length = ⟨w.toArray⟩ := by
        rw [exB, ← hq, List.take_left, List.drop_left]
      have hih := ih (pre ++ w ++ [10]) [] (out ++ [w]) (by rw [List.append_nil, List.append_assoc]; exact hq) (by rw [hx, headApp_nil (linesL_ne r)]; simp [linesL, headApp]) (by simp only [List.length_append, List.length_cons, List.length_nil]; omega)
      rw [List.append_nil, snoc_lenB, snoc_lenS] at hih
      generalize (pre ++ w).length = j at *
      conv => arg 3; simp only [mkT, putT, List.reduceReplicate, List.set]
      refine EVgo9 (And.intro (szB) (hlt)) trivial trivial trivial trivial trivial trivial trivial trivial trivial trivial trivial ?_
      first | refine WO.step (k_index rfl rfl h0 hb) ?_ | refine WOc.step (k_index rfl rfl h0 hb) ?_
      conv => arg 2; simp only [setOpt, List.set, Nat.reduceLT, Int.reduceToNat, List.drop_drop, valT, List.getD_cons_zero, List.getD_cons_succ, Int.reduceLT, Int.reduceLE, Int.reduceAdd, Int.reduceSub, Int.reduceMul, Int.reduceNeg, Int.reduceEq, Int.reduceNe, Int.cast_ofNat_Int, Int.natCast_zero, Int.natCast_one, ge_iff_le, gt_iff_lt, decide_true, decide_false, Bool.not_true, Bool.not_false, Int.toNat_natCast, Nat.sub_zero, Nat.mul_one, Option.isSome_some, Option.isSome_none, Bool.false_eq_true, Bool.and_true, Bool.true_and, Bool.and_false, Bool.false_and, Nat.zero_add, Nat.zero_mul, List.drop_zero, reduceIte, setRange, PV.cells, fillB, List.take, List.drop, List.append_eq, List.cons_append, List.nil_append, List.length, List.map, List.zip, List.zipWith, List.replicate, List.flatten, Nat.reduceAdd, Nat.reduceMul, Nat.reduceSub, PV.mapId, mapIds, Option.map, Blk.mapId, sigN, sigS, hlt]
      try conv => arg 3; simp only [Nat.reduceLT, List.reduceReplicate, List.flatten_cons, List.flatten_nil, List.append_nil, Nat.reduceMul, Nat.mul_one, Nat.one_mul, Nat.zero_mul, Nat.zero_add, List.drop_zero, List.drop_succ_cons, List.drop_nil, List.take_succ_cons, List.take_zero, List.take_nil, List.drop_drop, setRange, PV.cells, valT, List.getD_cons_zero, List.getD_cons_succ, List.take, List.length, Nat.reduceAdd, List.nil_append, applyU, hset, hdel, Nat.reduceEqDiff, reduceIte, List.append_eq, List.cons_append, List.nil_append, frz, rowsOf, updsNew, updsAt, sigN, sigS, PV.mapId, mapIds, Option.map, Blk.mapId, List.drop, heapOf, hlt]
      conv => arg 5; simp only [stride, Nat.reduceAdd]
      refine EVgo9 (And.intro (hb10) ( And.intro (szB) ( And.intro (e1) ( And.intro (lenS) ( And.intro (allS) ( And.intro (snocS) (hw))))))) trivial trivial trivial trivial trivial trivial trivial trivial trivial trivial trivial ?_
      exact WC.loop rfl hih
    · have hb10 : ((b.toNat : Int) == 10) = false := beq_eq_false_iff_ne.2 fun q => h10 (UInt8.toNat_inj.1 (by have : (10 : UInt8).toNat = 10 := rfl; omega))
      have hih := ih pre (w ++ [b]) out (by rw [← List.append_assoc, List.append_assoc]; exact hq) (by rw [hx, linesL, if_neg h10, headApp_app _ _ (linesL_ne r)]) hol
      rw [← List.append_assoc, snoc_lenB] at hih
      generalize (pre ++ w).length = j at *
      conv => arg 3; simp only [mkT, putT, List.reduceReplicate, List.set]
      refine EVgo9 (And.intro (szB) (hlt)) trivial trivial trivial trivial trivial trivial trivial trivial trivial trivial trivial ?_
      first | refine WO.step (k_index rfl rfl h0 hb) ?_ | refine WOc.step (k_index rfl rfl h0 hb) ?_
      conv => arg 2; simp only [setOpt, List.set, Nat.reduceLT, Int.reduceToNat, List.drop_drop, valT, List.getD_cons_zero, List.getD_cons_succ, Int.reduceLT, Int.reduceLE, Int.reduceAdd, Int.reduceSub, Int.reduceMul, Int.reduceNeg, Int.reduceEq, Int.reduceNe, Int.cast_ofNat_Int, Int.natCast_zero, Int.natCast_one, ge_iff_le, gt_iff_lt, decide_true, decide_false, Bool.not_true, Bool.not_false, Int.toNat_natCast, Nat.sub_zero, Nat.mul_one, Option.isSome_some, Option.isSome_none, Bool.false_eq_true, Bool.and_true, Bool.true_and, Bool.and_false, Bool.false_and, Nat.zero_add, Nat.zero_mul, List.drop_zero, reduceIte, setRange, PV.cells, fillB, List.take, List.drop, List.append_eq, List.cons_append, List.nil_append, List.length, List.map, List.zip, List.zipWith, List.replicate, List.flatten, Nat.reduceAdd, Nat.reduceMul, Nat.reduceSub, PV.mapId, mapIds, Option.map, Blk.mapId, sigN, sigS, hlt]
      try conv => arg 3; simp only [Nat.reduceLT, List.reduceReplicate, List.flatten_cons, List.flatten_nil, List.append_nil, Nat.reduceMul, Nat.mul_one, Nat.one_mul, Nat.zero_mul, Nat.zero_add, List.drop_zero, List.drop_succ_cons, List.drop_nil, List.take_succ_cons, List.take_zero, List.take_nil, List.drop_drop, setRange, PV.cells, valT, List.getD_cons_zero, List.getD_cons_succ, List.take, List.length, Nat.reduceAdd, List.nil_append, applyU, hset, hdel, Nat.reduceEqDiff, reduceIte, List.append_eq, List.cons_append, List.nil_append, frz, rowsOf, updsNew, updsAt, sigN, sigS, PV.mapId, mapIds, Option.map, Blk.mapId, List.drop, heapOf, hlt]
      conv => arg 5; simp only [stride, Nat.reduceAdd]
      refine EVgo9 (And.intro (hb10) (hw)) trivial trivial trivial trivial trivial trivial trivial trivial trivial trivial trivial ?_
      exact WC.loop rfl hih
end
end Go.Proofs.YtgiapbmeaobjiaaR
