/- Evf06J1: a part of the proof. -/
import Derived.Test.YtgiapbmeaobjiaaEvf06I1
open Go Go.Proofs.YtgiapbmeaobjiaaEv Go.Proofs.YtgiapbmeaobjiaaR Go.IntWalk
set_option maxRecDepth 20000
set_option maxHeartbeats 8000000
set_option linter.unusedVariables false
set_option linter.unusedSimpArgs false
namespace Go.Proofs.YtgiapbmeaobjiaaR
def joinL : List Bs → Bs
  | [] => []
  | x :: t => x ++ (match t with | [] => [] | y :: u => 10 :: joinL (y :: u))
def tailJ (r : List Bs) : Bs := match r with | [] => [] | y :: u => 10 :: joinL (y :: u)
theorem joinL_cons (x : Bs) (t : List Bs) : joinL (x :: t) = x ++ tailJ t := by cases t <;> rfl
theorem join_head (w : Bs) {l : List Bs} (h : l ≠ []) : joinL (headApp w l) = w ++ joinL l := by
  cases l with
  | nil => exact absurd rfl h
  | cons x t => rw [headApp, joinL_cons, joinL_cons, List.append_assoc]
theorem join_lines : ∀ L : Bs, joinL (linesL L) = L
  | [] => rfl
  | b :: r => by
    unfold linesL
    split
    · next h =>
      have ih := join_lines r
      rw [joinL_cons]
      cases hl : linesL r with
      | nil => exact absurd hl (linesL_ne r)
      | cons y u =>
        rw [hl] at ih
        show [] ++ 10 :: joinL (y :: u) = _
        rw [ih, h]
        rfl
    · rw [join_head _ (linesL_ne r), join_lines r]
      rfl
theorem lines_no10 : ∀ (L : Bs), ∀ x ∈ linesL L, ∀ c ∈ x, c ≠ 10
  | [], x, hx, c, hc => by
    rw [linesL, List.mem_singleton] at hx
    subst hx
    exact absurd hc List.not_mem_nil
  | b :: r, x, hx, c, hc => by
    have ih := lines_no10 r
    unfold linesL at hx
    split at hx
    · rcases List.mem_cons.1 hx with rfl | hx
      · exact absurd hc List.not_mem_nil
      · exact ih x hx c hc
    · next hb =>
      cases hl : linesL r with
      | nil => exact absurd hl (linesL_ne r)
      | cons y u =>
        rw [hl] at hx ih
        rcases List.mem_cons.1 hx with rfl | hx
        · rcases List.mem_append.1 hc with q | q
          · rw [List.mem_singleton.1 q]; exact hb
          · exact ih y List.mem_cons_self c q
        · exact ih x (List.mem_cons_of_mem _ hx) c hc
theorem up8_idem (b : UInt8) : up8 (up8 b) = up8 b := by
  apply UInt8.toNat_inj.1
  rw [up8_nat, up8_nat]
  unfold capN
  split <;> (try split) <;> omega
theorem upL_idem (l : Bs) : upL (upL l) = upL l := by
  unfold upL
  rw [List.map_map]
  congr 1
  funext b
  exact up8_idem b
theorem catB (a b : Bs) : (⟨a.toArray⟩ : ByteArray) ++ (⟨b.toArray⟩ : ByteArray) = ⟨(a ++ b).toArray⟩ := by
  apply ByteArray.ext
  rw [ByteArray.data_append]
  simp
theorem addS (a b : ByteArray) (h : a.size + b.size ≤ 1000000000) : binV .add (.str a) (.str b) = some (.str (a ++ b)) := by
  have hm : IntKind.i64.max = 9223372036854775807 := by decide
  unfold binV
  simp only [binOp, pureOf, Op.stringOp]
  rw [if_neg (by omega)]
  rfl
theorem k_cat {cf : CF} {new : Nat} {T : List PV} {H : Heap} {x y : X} {a b : Bs} (hx : valT T x = .str ⟨a.toArray⟩) (hy : valT T y = .str ⟨b.toArray⟩) (h : a.length + b.length ≤ 1000000) : EK cf (.bin .add x y) new T H (.str ⟨(a ++ b).toArray⟩) [] := ⟨by
  show (match binV .add (valT T x) (valT T y) with | some v => some (v, []) | none => none) = _
  rw [hx, hy, addS _ _ (by rw [szB, szB]; omega), catB]⟩
theorem lines_len (L : Bs) : (linesL L).length ≤ L.length + 1 := by
  have := pieces_len L.length ⟨L.toArray⟩
  rw [pieces_lines _ _ (Nat.le_refl _), List.length_map] at this
  exact this
theorem line_len {L x : Bs} (hx : x ∈ linesL L) : x.length ≤ L.length := by
  have key : ∀ l : List Bs, x ∈ l → x.length ≤ (joinL l).length := by
    intro l
    induction l with
    | nil => intro h; exact absurd h List.not_mem_nil
    | cons y t ih =>
      intro h
      rw [joinL_cons, List.length_append]
      rcases List.mem_cons.1 h with rfl | h
      · omega
      · cases t with
        | nil => exact absurd h List.not_mem_nil
        | cons z u =>
          have := ih h
          show _ ≤ y.length + (10 :: joinL (z :: u)).length
          rw [List.length_cons]
          omega
  have := key _ hx
  rw [join_lines] at this
  exact this
section
variable {cf : CF} (hcf : cf = ev env)
include hcf
theorem s4 (L : Bs) : Sp cf 4 [sB L] (.bool true) := by
  have h9 := s9 hcf
  refine sp_of hcf env4 ?_
  by_cases hl : L.length ≤ 1000
  · have hl' : ¬ (L.length : Int) > 1000 := by omega
    have h11 := s11 hcf L (by omega)
    have hlen := lines_len L
    have hne := linesL_ne L
    have hno := lines_no10 L
    have hjo := join_lines L
    have hxl : ∀ x ∈ linesL L, x.length ≤ L.length := fun x hx => line_len hx
    generalize linesL L = l at *
    simp only [sB, slS] at h11 ⊢
    conv => arg 2; simp only [ir4]
    conv => arg 3; simp only [ir4, Go.Proofs.YtgiapbmeaobjiaaEv.start, List.length, Nat.reduceAdd, Nat.reduceSub, List.reduceReplicate, List.append_eq, List.cons_append, List.nil_append]
    conv => arg 4; simp only [heapOf]
    try conv => arg 5; simp only [List.length, Nat.reduceAdd]
    try conv => arg 6; simp only [List.length, Nat.reduceAdd]
    refine EVgo9 (And.intro (szB) (hl')) (h9) (h11) trivial trivial trivial trivial trivial trivial trivial trivial trivial ?_
    refine WC.loop (T' := _) (H' := _) (n' := _) rfl ((?_ : ∀ (r q : List Bs) (acc : Bs), q ++ r = l → (q = [] ∧ acc = [] ∨ q ≠ [] ∧ L = acc ++ tailJ r) →
      WC cf _ (mkT 74 [(0, .str ⟨L.toArray⟩), (3, .bool true), (4, .sl l.length false (flat encS l)), (5, .str ⟨acc.toArray⟩), (6, .int .i64 (q.length : Nat))]) [] 0 0 _) l [] [] rfl (.inl ⟨rfl, rfl⟩))
    intro r
    induction r with
    | nil =>
      intro q acc hq hacc
      rw [List.append_nil] at hq
      subst hq
      have ha : acc = L := by
        rcases hacc with ⟨h, _⟩ | ⟨_, h⟩
        · exact absurd h hne
        · rw [h]; simp [tailJ]
      subst ha
      have h12 := s12 hcf ⟨acc.toArray⟩ (by rw [szB]; omega)
      have h12u := s12 hcf ⟨(upL acc).toArray⟩ (by rw [szB]; unfold upL; rw [List.length_map]; omega)
      rw [toL] at h12 h12u
      rw [upL_idem] at h12u
      have hul : (upL acc).length = acc.length := by unfold upL; rw [List.length_map]
      have e1 : ∀ a : ByteArray, (a.toList == a.toList) = true := fun a => beq_self_eq_true _
      have e2 : ∀ a : Int, (a == a) = true := fun a => beq_self_eq_true _
      have g0 : (q.length : Int) > 0 := by
        have : q.length ≠ 0 := fun w => hne (List.length_eq_zero_iff.1 w)
        omega
      conv => arg 3; simp only [mkT, putT, List.reduceReplicate, List.set]
      refine EVgl9 trivial trivial trivial trivial trivial trivial trivial trivial trivial trivial trivial trivial ?_
      refine EVgo9 (And.intro (e1) ( And.intro (e2) ( And.intro (g0) ( And.intro (szB) (hul))))) (h12) (h12u) trivial trivial trivial trivial trivial trivial trivial trivial trivial ?_
      exact EVret trivial
    | cons x r ih =>
      intro q acc hq hacc
      have hlen2 : l.length = q.length + (r.length + 1) := by rw [← hq]; simp
      have hlt : (q.length : Int) < (l.length : Int) := by omega
      have hw : IntKind.i64.wrap ((q.length : Int) + 1) = ((q.length + 1 : Nat) : Int) := by rw [i64_in _ (by omega)]; simp
      have e0 := mid_S hq
      have hmem : x ∈ l := by rw [← hq]; simp
      have hx10 := hno x hmem
      have hxx := hxl x hmem
      conv => arg 3; simp only [mkT, putT, List.reduceReplicate, List.set]
      refine EVgo9 (hlt) trivial trivial trivial trivial trivial trivial trivial trivial trivial trivial trivial ?_
      refine WC.loop (T' := _) (H' := _) (n' := _) rfl ((?_ : ∀ (u v : Bs), v ++ u = x →
        WC cf _ (mkT 74 [(0, .str ⟨L.toArray⟩), (3, .bool true), (4, .sl l.length false (flat encS l)), (5, .str ⟨acc.toArray⟩), (6, .int .i64 (q.length : Nat)), (7, .int .i64 (v.length : Nat))]) [] 0 0 _) x [] rfl)
      intro u
      induction u with
      | nil =>
        intro v hv
        rw [List.append_nil] at hv
        subst hv
        rcases hacc with ⟨rfl, rfl⟩ | ⟨hqn, hacc⟩
        · have hih := ih [v] v (by rw [← hq]; rfl) (.inr ⟨by simp, by rw [← hjo, ← hq, List.nil_append, joinL_cons]⟩)
          have e0' : flat encS l = .str ⟨v.toArray⟩ :: flat encS r := by simpa using e0
          have hw0 : IntKind.i64.wrap (1 : Int) = 1 := by decide
          have hlt0 : (0 : Int) < (l.length : Int) := by rw [List.length_nil] at hlt; exact hlt
          conv => arg 3; simp only [mkT, putT, List.reduceReplicate, List.set]
          refine EVgl9 (And.intro (hlt0) ( And.intro (e0') (szB))) trivial trivial trivial trivial trivial trivial trivial trivial trivial trivial trivial ?_
          refine EVgo9 (And.intro (hlt0) ( And.intro (e0') (hw0))) trivial trivial trivial trivial trivial trivial trivial trivial trivial trivial trivial ?_
          first | refine WO.step (k_cat (a := []) (b := v) rfl rfl (by simp; omega)) ?_ | refine WOc.step (k_cat (a := []) (b := v) rfl rfl (by simp; omega)) ?_
          conv => arg 2; simp only [setOpt, List.set, Nat.reduceLT, Int.reduceToNat, List.drop_drop, valT, List.getD_cons_zero, List.getD_cons_succ, Int.reduceLT, Int.reduceLE, Int.reduceAdd, Int.reduceSub, Int.reduceMul, Int.reduceNeg, Int.reduceEq, Int.reduceNe, Int.cast_ofNat_Int, Int.natCast_zero, Int.natCast_one, ge_iff_le, gt_iff_lt, decide_true, decide_false, Bool.not_true, Bool.not_false, Int.toNat_natCast, Nat.sub_zero, Nat.mul_one, Option.isSome_some, Option.isSome_none, Bool.false_eq_true, Bool.and_true, Bool.true_and, Bool.and_false, Bool.false_and, Nat.zero_add, Nat.zero_mul, List.drop_zero, reduceIte, setRange, PV.cells, fillB, List.take, List.drop, List.append_eq, List.cons_append, List.nil_append, List.length, List.map, List.zip, List.zipWith, List.replicate, List.flatten, Nat.reduceAdd, Nat.reduceMul, Nat.reduceSub, PV.mapId, mapIds, Option.map, Blk.mapId, sigN, sigS]
          try conv => arg 3; simp only [Nat.reduceLT, List.reduceReplicate, List.flatten_cons, List.flatten_nil, List.append_nil, Nat.reduceMul, Nat.mul_one, Nat.one_mul, Nat.zero_mul, Nat.zero_add, List.drop_zero, List.drop_succ_cons, List.drop_nil, List.take_succ_cons, List.take_zero, List.take_nil, List.drop_drop, setRange, PV.cells, valT, List.getD_cons_zero, List.getD_cons_succ, List.take, List.length, Nat.reduceAdd, List.nil_append, applyU, hset, hdel, Nat.reduceEqDiff, reduceIte, List.append_eq, List.cons_append, List.nil_append, frz, rowsOf, updsNew, updsAt, sigN, sigS, PV.mapId, mapIds, Option.map, Blk.mapId, List.drop, heapOf]
          conv => arg 5; simp only [stride, Nat.reduceAdd]
          refine EVgo9 (hw0) trivial trivial trivial trivial trivial trivial trivial trivial trivial trivial trivial ?_
          rw [← e0']
          exact WC.loop rfl hih
        · have hih := ih (q ++ [v]) (acc ++ [10] ++ v) (by rw [List.append_assoc]; exact hq) (.inr ⟨by simp, by rw [hacc]; show acc ++ 10 :: joinL (v :: r) = _; rw [joinL_cons]; simp⟩)
          rw [snoc_lenS] at hih
          have g0 : (q.length : Int) > 0 := by
            have : q.length ≠ 0 := fun w => hqn (List.length_eq_zero_iff.1 w)
            omega
          have hal : acc.length ≤ L.length := by rw [hacc, List.length_append]; omega
          conv => arg 3; simp only [mkT, putT, List.reduceReplicate, List.set]
          refine EVgl9 (And.intro (hlt) ( And.intro (e0) (szB))) trivial trivial trivial trivial trivial trivial trivial trivial trivial trivial trivial ?_
          refine EVgo9 (And.intro (hlt) ( And.intro (e0) (g0))) trivial trivial trivial trivial trivial trivial trivial trivial trivial trivial trivial ?_
          first | refine WO.step (k_cat (a := acc) (b := [10]) rfl rfl (by simp; omega)) ?_ | refine WOc.step (k_cat (a := acc) (b := [10]) rfl rfl (by simp; omega)) ?_
          conv => arg 2; simp only [setOpt, List.set, Nat.reduceLT, Int.reduceToNat, List.drop_drop, valT, List.getD_cons_zero, List.getD_cons_succ, Int.reduceLT, Int.reduceLE, Int.reduceAdd, Int.reduceSub, Int.reduceMul, Int.reduceNeg, Int.reduceEq, Int.reduceNe, Int.cast_ofNat_Int, Int.natCast_zero, Int.natCast_one, ge_iff_le, gt_iff_lt, decide_true, decide_false, Bool.not_true, Bool.not_false, Int.toNat_natCast, Nat.sub_zero, Nat.mul_one, Option.isSome_some, Option.isSome_none, Bool.false_eq_true, Bool.and_true, Bool.true_and, Bool.and_false, Bool.false_and, Nat.zero_add, Nat.zero_mul, List.drop_zero, reduceIte, setRange, PV.cells, fillB, List.take, List.drop, List.append_eq, List.cons_append, List.nil_append, List.length, List.map, List.zip, List.zipWith, List.replicate, List.flatten, Nat.reduceAdd, Nat.reduceMul, Nat.reduceSub, PV.mapId, mapIds, Option.map, Blk.mapId, sigN, sigS]
          try conv => arg 3; simp only [Nat.reduceLT, List.reduceReplicate, List.flatten_cons, List.flatten_nil, List.append_nil, Nat.reduceMul, Nat.mul_one, Nat.one_mul, Nat.zero_mul, Nat.zero_add, List.drop_zero, List.drop_succ_cons, List.drop_nil, List.take_succ_cons, List.take_zero, List.take_nil, List.drop_drop, setRange, PV.cells, valT, List.getD_cons_zero, List.getD_cons_succ, List.take, List.length, Nat.reduceAdd, List.nil_append, applyU, hset, hdel, Nat.reduceEqDiff, reduceIte, List.append_eq, List.cons_append, List.nil_append, frz, rowsOf, updsNew, updsAt, sigN, sigS, PV.mapId, mapIds, Option.map, Blk.mapId, List.drop, heapOf]
          conv => arg 5; simp only [stride, Nat.reduceAdd]
          refine EVgo9 (And.intro (hlt) (e0)) trivial trivial trivial trivial trivial trivial trivial trivial trivial trivial trivial ?_
          first | refine WO.step (k_cat (a := acc ++ [10]) (b := v) rfl rfl (by simp; omega)) ?_ | refine WOc.step (k_cat (a := acc ++ [10]) (b := v) rfl rfl (by simp; omega)) ?_
          conv => arg 2; simp only [setOpt, List.set, Nat.reduceLT, Int.reduceToNat, List.drop_drop, valT, List.getD_cons_zero, List.getD_cons_succ, Int.reduceLT, Int.reduceLE, Int.reduceAdd, Int.reduceSub, Int.reduceMul, Int.reduceNeg, Int.reduceEq, Int.reduceNe, Int.cast_ofNat_Int, Int.natCast_zero, Int.natCast_one, ge_iff_le, gt_iff_lt, decide_true, decide_false, Bool.not_true, Bool.not_false, Int.toNat_natCast, Nat.sub_zero, Nat.mul_one, Option.isSome_some, Option.isSome_none, Bool.false_eq_true, Bool.and_true, Bool.true_and, Bool.and_false, Bool.false_and, Nat.zero_add, Nat.zero_mul, List.drop_zero, reduceIte, setRange, PV.cells, fillB, List.take, List.drop, List.append_eq, List.cons_append, List.nil_append, List.length, List.map, List.zip, List.zipWith, List.replicate, List.flatten, Nat.reduceAdd, Nat.reduceMul, Nat.reduceSub, PV.mapId, mapIds, Option.map, Blk.mapId, sigN, sigS]
          try conv => arg 3; simp only [Nat.reduceLT, List.reduceReplicate, List.flatten_cons, List.flatten_nil, List.append_nil, Nat.reduceMul, Nat.mul_one, Nat.one_mul, Nat.zero_mul, Nat.zero_add, List.drop_zero, List.drop_succ_cons, List.drop_nil, List.take_succ_cons, List.take_zero, List.take_nil, List.drop_drop, setRange, PV.cells, valT, List.getD_cons_zero, List.getD_cons_succ, List.take, List.length, Nat.reduceAdd, List.nil_append, applyU, hset, hdel, Nat.reduceEqDiff, reduceIte, List.append_eq, List.cons_append, List.nil_append, frz, rowsOf, updsNew, updsAt, sigN, sigS, PV.mapId, mapIds, Option.map, Blk.mapId, List.drop, heapOf]
          conv => arg 5; simp only [stride, Nat.reduceAdd]
          refine EVgo9 (hw) trivial trivial trivial trivial trivial trivial trivial trivial trivial trivial trivial ?_
          exact WC.loop rfl hih
      | cons b u ihu =>
        intro v hv
        have hlen3 : x.length = v.length + (u.length + 1) := by rw [← hv]; simp
        have hltv : (v.length : Int) < (x.length : Int) := by omega
        have hwv : IntKind.i64.wrap ((v.length : Int) + 1) = ((v.length + 1 : Nat) : Int) := by rw [i64_in _ (by omega)]; simp
        have h0 : (0 : Int) ≤ (v.length : Int) := Int.natCast_nonneg _
        have hb := at_B hv
        have hbm : b ∈ x := by rw [← hv]; simp
        have hb10 : ((b.toNat : Int) == 10) = false := beq_eq_false_iff_ne.2 fun w => hx10 b hbm (UInt8.toNat_inj.1 (by have : (10 : UInt8).toNat = 10 := rfl; omega))
        have hihu := ihu (v ++ [b]) (by rw [List.append_assoc]; exact hv)
        rw [snoc_lenB] at hihu
        conv => arg 3; simp only [mkT, putT, List.reduceReplicate, List.set]
        refine EVgo9 (And.intro (hlt) ( And.intro (e0) ( And.intro (szB) (hltv)))) trivial trivial trivial trivial trivial trivial trivial trivial trivial trivial trivial ?_
        first | refine WO.step (k_index rfl rfl h0 hb) ?_ | refine WOc.step (k_index rfl rfl h0 hb) ?_
        conv => arg 2; simp only [setOpt, List.set, Nat.reduceLT, Int.reduceToNat, List.drop_drop, valT, List.getD_cons_zero, List.getD_cons_succ, Int.reduceLT, Int.reduceLE, Int.reduceAdd, Int.reduceSub, Int.reduceMul, Int.reduceNeg, Int.reduceEq, Int.reduceNe, Int.cast_ofNat_Int, Int.natCast_zero, Int.natCast_one, ge_iff_le, gt_iff_lt, decide_true, decide_false, Bool.not_true, Bool.not_false, Int.toNat_natCast, Nat.sub_zero, Nat.mul_one, Option.isSome_some, Option.isSome_none, Bool.false_eq_true, Bool.and_true, Bool.true_and, Bool.and_false, Bool.false_and, Nat.zero_add, Nat.zero_mul, List.drop_zero, reduceIte, setRange, PV.cells, fillB, List.take, List.drop, List.append_eq, List.cons_append, List.nil_append, List.length, List.map, List.zip, List.zipWith, List.replicate, List.flatten, Nat.reduceAdd, Nat.reduceMul, Nat.reduceSub, PV.mapId, mapIds, Option.map, Blk.mapId, sigN, sigS, hlt]
        try conv => arg 3; simp only [Nat.reduceLT, List.reduceReplicate, List.flatten_cons, List.flatten_nil, List.append_nil, Nat.reduceMul, Nat.mul_one, Nat.one_mul, Nat.zero_mul, Nat.zero_add, List.drop_zero, List.drop_succ_cons, List.drop_nil, List.take_succ_cons, List.take_zero, List.take_nil, List.drop_drop, setRange, PV.cells, valT, List.getD_cons_zero, List.getD_cons_succ, List.take, List.length, Nat.reduceAdd, List.nil_append, applyU, hset, hdel, Nat.reduceEqDiff, reduceIte, List.append_eq, List.cons_append, List.nil_append, frz, rowsOf, updsNew, updsAt, sigN, sigS, PV.mapId, mapIds, Option.map, Blk.mapId, List.drop, heapOf, hlt]
        conv => arg 5; simp only [stride, Nat.reduceAdd]
        refine EVgo9 (And.intro (hb10) (hwv)) trivial trivial trivial trivial trivial trivial trivial trivial trivial trivial trivial ?_
        exact WC.loop rfl hihu
  · have hl' : (L.length : Int) > 1000 := by omega
    simp only [sB]
    conv => arg 2; simp only [ir4]
    conv => arg 3; simp only [ir4, Go.Proofs.YtgiapbmeaobjiaaEv.start, List.length, Nat.reduceAdd, Nat.reduceSub, List.reduceReplicate, List.append_eq, List.cons_append, List.nil_append]
    conv => arg 4; simp only [heapOf]
    try conv => arg 5; simp only [List.length, Nat.reduceAdd]
    try conv => arg 6; simp only [List.length, Nat.reduceAdd]
    refine EVgo9 (And.intro (szB) (hl')) (h9) trivial trivial trivial trivial trivial trivial trivial trivial trivial trivial ?_
    exact EVret trivial
end
end Go.Proofs.YtgiapbmeaobjiaaR
