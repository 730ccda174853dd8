/- Evf06K1: a part of the proof. -/
import Derived.Test.YtgiapbmeaobjiaaEvf06J1
open Go Go.Proofs.YtgiapbmeaobjiaaEv Go.Proofs.YtgiapbmeaobjiaaR Go.IntWalk
set_option maxRecDepth 20000
set_option maxHeartbeats 8000000
set_option linter.unusedVariables false
set_option linter.unusedSimpArgs false
namespace Go.Proofs.YtgiapbmeaobjiaaR
theorem upto_split (p : UInt8 → Bool) (l : Bs) : upto p l ++ l.drop (upto p l).length = l := List.prefix_iff_eq_append.1 (List.takeWhile_prefix _)
theorem upto_mem {p : UInt8 → Bool} : ∀ {l : Bs} {b : UInt8}, b ∈ upto p l → p b = false
  | [], b, h => absurd h List.not_mem_nil
  | c :: l, b, h => by
    cases hc : p c with
    | true => rw [upto_nil hc] at h; exact absurd h List.not_mem_nil
    | false =>
      have e : upto p (c :: l) = c :: upto p l := by unfold upto; rw [List.takeWhile_cons_of_pos (by simp [hc])]
      rw [e] at h
      rcases List.mem_cons.1 h with rfl | h
      · exact hc
      · exact upto_mem h
/-- a text without blanks -/
def dense (l : Bs) : Bs := l.filter fullP
theorem empty_full (b : UInt8) : emptyP b = !fullP b := by
  unfold fullP emptyP
  by_cases w : b.toNat ≤ 32
  · rw [decide_eq_true (by omega), decide_eq_false (by omega)]; rfl
  · rw [decide_eq_false (by omega), decide_eq_true (by omega)]; rfl
theorem dense_app (a b : Bs) : dense (a ++ b) = dense a ++ dense b := List.filter_append ..
theorem dense_none {l : Bs} (h : ∀ b ∈ l, fullP b = false) : dense l = [] := List.filter_eq_nil_iff.2 fun b hb => by rw [h b hb]; decide
theorem dense_all {l : Bs} (h : ∀ b ∈ l, fullP b = true) : dense l = l := List.filter_eq_self.2 h
structure WordOk (L : Bs) (j : Nat) (w : Bs) (j' : Nat) : Prop where
  le : j ≤ j'
  top : j' ≤ L.length
  go : j < L.length → j < j'
  wgo : w ≠ [] → j < j'
  full : ∀ b ∈ w, fullP b = true
  den : dense (L.drop j) = w ++ dense (L.drop j')
theorem word_ok {L : Bs} {j : Nat} (hj : j ≤ L.length) : WordOk L j (wordP L (j : Nat)).1 (wordP L (j : Nat)).2 := by
  have hin : inN L.length ((j : Nat) : Int) = j := inN_nat hj
  have e1 := upto_split fullP (L.drop j)
  have m1 : ∀ b ∈ upto fullP (L.drop j), fullP b = false := fun b hb => upto_mem hb
  have hsk : skipN L (j : Nat) = j + (upto fullP (L.drop j)).length := by unfold skipN; rw [hin]
  have hsl := skipN_le L (j : Nat)
  unfold wordP cutP
  rw [hsk] at hsl ⊢
  rw [List.drop_drop] at e1
  generalize upto fullP (L.drop j) = bl at *
  have e2 := upto_split emptyP (L.drop (j + bl.length))
  have m2 : ∀ b ∈ upto emptyP (L.drop (j + bl.length)), fullP b = true := fun b hb => by
    have := upto_mem hb
    rw [empty_full] at this
    simpa using this
  have n2 := upto_next emptyP (L.drop (j + bl.length))
  have dl : (L.drop (j + bl.length)).length = L.length - (j + bl.length) := List.length_drop
  generalize upto emptyP (L.drop (j + bl.length)) = w at *
  rw [List.drop_drop] at e2 n2
  have hwl : w.length ≤ (L.drop (j + bl.length)).length := by rw [← e2, List.length_append]; omega
  have den1 : dense (L.drop j) = w ++ dense (L.drop (j + bl.length + w.length)) := by
    rw [← e1, dense_app, dense_none m1, List.nil_append, ← e2, dense_app, dense_all m2]
  simp only
  by_cases hlt : w.length < (L.drop (j + bl.length)).length
  · rw [if_pos hlt]
    refine ⟨by omega, by omega, fun _ => by omega, fun _ => by omega, m2, ?_⟩
    rw [den1]
    rcases n2 with h | ⟨b, r, h, hb⟩
    · have := congrArg List.length h
      rw [List.length_drop, List.length_nil] at this
      omega
    · have hd : L.drop (j + bl.length + w.length + 1) = r := by
        rw [← List.drop_drop, h]; rfl
      rw [h, hd]
      have hbf : fullP b = false := by
        rw [empty_full] at hb
        simpa using hb
      show w ++ dense ([b] ++ r) = _
      rw [dense_app, dense_none (by intro c hc; rw [List.mem_singleton.1 hc]; exact hbf), List.nil_append]
  · rw [if_neg hlt]
    have hwe : w.length = (L.drop (j + bl.length)).length := by omega
    refine ⟨hj, Nat.le_refl _, fun h => h, fun h => ?_, m2, ?_⟩
    · have : w.length ≠ 0 := fun q => h (List.length_eq_zero_iff.1 q)
      omega
    · rw [den1, show j + bl.length + w.length = L.length by omega]
abbrev rowB (l : Bs) : List PV := l.map fun b => PV.int .u8 b.toNat
theorem rowB_len (l : Bs) : (rowB l).length = l.length := List.length_map ..
theorem rowB_all (l : Bs) : (rowB l).take l.length = rowB l := List.take_of_length_le (by rw [rowB_len]; exact Nat.le_refl _)
theorem rowB_snoc (l : Bs) (b : UInt8) : rowB l ++ [PV.int .u8 (b.toNat : Nat)] = rowB (l ++ [b]) := by unfold rowB; rw [List.map_append]; rfl
theorem full_cmp (b : UInt8) : decide ((32 : Int) < (b.toNat : Int)) = fullP b := by unfold fullP; exact decide_eq_decide.2 (by omega)
theorem empty_cmp (b : UInt8) : decide ((b.toNat : Int) ≤ 32) = emptyP b := by unfold emptyP; exact decide_eq_decide.2 (by omega)
section
variable {cf : CF} (hcf : cf = ev env)
include hcf
theorem s3 (L : Bs) : Sp cf 3 [sB L] (.bool true) := by
  have h9 := s9 hcf
  refine sp_of hcf env3 ?_
  by_cases hl : L.length ≤ 1000
  · have hl' : ¬ (L.length : Int) > 1000 := by omega
    have e1 : ∀ a : ByteArray, (a.toList == a.toList) = true := fun a => beq_self_eq_true _
    simp only [sB]
    conv => arg 2; simp only [ir3]
    conv => arg 3; simp only [ir3, Go.Proofs.YtgiapbmeaobjiaaEv.start, List.length, Nat.reduceAdd, Nat.reduceSub, List.reduceReplicate, List.append_eq, List.cons_append, List.nil_append]
    conv => arg 4; simp only [heapOf]
    try conv => arg 5; simp only [List.length, Nat.reduceAdd]
    try conv => arg 6; simp only [List.length, Nat.reduceAdd]
    refine EVgo9 (And.intro (szB) (hl')) (h9) trivial trivial trivial trivial trivial trivial trivial trivial trivial trivial ?_
    refine WC.loop (T' := _) (H' := _) (n' := _) rfl ((?_ : ∀ (k m j : Nat) (all : Bs), m + k = L.length + 2 → j ≤ L.length → all ++ dense (L.drop j) = dense L → (m ≤ j ∨ j = L.length) →
      WC cf _ (mkT 105 [(0, .str ⟨L.toArray⟩), (3, .bool true), (4, .ptr 0 0), (5, .str ⟨all.toArray⟩), (6, .int .i64 (m : Nat))]) [(0, .box [.str ⟨L.toArray⟩, .int .i64 (j : Nat)])] 0 1 _) (L.length + 2) 0 0 [] (by omega) (by omega) rfl (.inl (Nat.le_refl _)))
    intro k
    induction k with
    | zero =>
      intro m j all hm hj hall hmj
      obtain rfl : j = L.length := by omega
      rw [List.drop_length] at hall
      have hall' : all = dense L := by rw [← hall]; simp [dense]
      subst hall'
      have w1 : IntKind.i64.wrap ((L.length : Int) + 1) = (L.length : Int) + 1 := i64_in _ (by omega)
      have hn : ¬ ((m : Int) ≤ (L.length : Int) + 1) := by omega
      conv => arg 3; simp only [mkT, putT, List.reduceReplicate, List.set]
      refine EVgo9 (And.intro (szB) ( And.intro (w1) (hn))) trivial trivial trivial trivial trivial trivial trivial trivial trivial trivial trivial ?_
      refine WC.loop (T' := _) (H' := _) (n' := _) rfl ((?_ : ∀ (r q : Bs), q ++ r = L →
        WC cf _ (mkT 105 [(0, .str ⟨L.toArray⟩), (3, .bool true), (4, .ptr 0 0), (5, .str ⟨(dense L).toArray⟩), (10, .own 1 1 0 (dense q).length), (11, .int .i64 (q.length : Nat))]) [(0, .box [.str ⟨L.toArray⟩, .int .i64 (L.length : Nat)]), (1, .row (rowB (dense q)))] 0 2 _) L [] rfl)
      intro r
      induction r with
      | nil =>
        intro q hq
        rw [List.append_nil] at hq
        subst hq
        have e2 : ∀ a : Int, (a == a) = true := fun a => beq_self_eq_true _
        conv => arg 3; simp only [mkT, putT, List.reduceReplicate, List.set]
        refine EVgl9 (szB) trivial trivial trivial trivial trivial trivial trivial trivial trivial trivial trivial ?_
        refine EVgo9 trivial trivial trivial trivial trivial trivial trivial trivial trivial trivial trivial trivial ?_
        first | refine WO.step (b2sM rfl rfl rfl) ?_ | refine WOc.step (b2sM rfl rfl rfl) ?_
        conv => arg 2; simp only [setOpt, List.set, Nat.reduceLT, Int.reduceToNat, List.drop_drop, valT, List.getD_cons_zero, List.getD_cons_succ, Int.reduceLT, Int.reduceLE, Int.reduceAdd, Int.reduceSub, Int.reduceMul, Int.reduceNeg, Int.reduceEq, Int.reduceNe, Int.cast_ofNat_Int, Int.natCast_zero, Int.natCast_one, ge_iff_le, gt_iff_lt, decide_true, decide_false, Bool.not_true, Bool.not_false, Int.toNat_natCast, Nat.sub_zero, Nat.mul_one, Option.isSome_some, Option.isSome_none, Bool.false_eq_true, Bool.and_true, Bool.true_and, Bool.and_false, Bool.false_and, Nat.zero_add, Nat.zero_mul, List.drop_zero, reduceIte, setRange, PV.cells, fillB, List.take, List.drop, List.append_eq, List.cons_append, List.nil_append, List.length, List.map, List.zip, List.zipWith, List.replicate, List.flatten, Nat.reduceAdd, Nat.reduceMul, Nat.reduceSub, PV.mapId, mapIds, Option.map, Blk.mapId, sigN, sigS, szB]
        try conv => arg 3; simp only [Nat.reduceLT, List.reduceReplicate, List.flatten_cons, List.flatten_nil, List.append_nil, Nat.reduceMul, Nat.mul_one, Nat.one_mul, Nat.zero_mul, Nat.zero_add, List.drop_zero, List.drop_succ_cons, List.drop_nil, List.take_succ_cons, List.take_zero, List.take_nil, List.drop_drop, setRange, PV.cells, valT, List.getD_cons_zero, List.getD_cons_succ, List.take, List.length, Nat.reduceAdd, List.nil_append, applyU, hset, hdel, Nat.reduceEqDiff, reduceIte, List.append_eq, List.cons_append, List.nil_append, frz, rowsOf, updsNew, updsAt, sigN, sigS, PV.mapId, mapIds, Option.map, Blk.mapId, List.drop, heapOf, szB]
        conv => arg 5; simp only [stride, Nat.reduceAdd]
        refine EVgo9 (And.intro (e1) ( And.intro (e2) (szB))) trivial trivial trivial trivial trivial trivial trivial trivial trivial trivial trivial ?_
        exact EVret trivial
      | cons b r ih =>
        intro q hq
        have hlen : L.length = q.length + (r.length + 1) := by rw [← hq]; simp
        have hlt : (q.length : Int) < (L.length : Int) := by omega
        have hw : IntKind.i64.wrap ((q.length : Int) + 1) = ((q.length + 1 : Nat) : Int) := by rw [i64_in _ (by omega)]; simp
        have h0 : (0 : Int) ≤ (q.length : Int) := Int.natCast_nonneg _
        have hb := at_B hq
        have hdl : (dense q).length ≤ q.length := List.length_filter_le _ _
        have hih := ih (q ++ [b]) (by rw [List.append_assoc]; exact hq)
        rw [snoc_lenB, dense_app] at hih
        have hc := full_cmp b
        cases hpb : fullP b with
        | true =>
          rw [dense_all (l := [b]) (by intro c hc; rw [List.mem_singleton.1 hc]; exact hpb), snoc_lenB] at hih
          rw [hpb] at hc
          conv => arg 3; simp only [mkT, putT, List.reduceReplicate, List.set]
          refine EVgo9 (And.intro (szB) (hlt)) trivial trivial trivial trivial trivial trivial trivial trivial trivial trivial trivial ?_
          first | refine WO.step (k_index rfl rfl h0 hb) ?_ | refine WOc.step (k_index rfl rfl h0 hb) ?_
          conv => arg 2; simp only [setOpt, List.set, Nat.reduceLT, Int.reduceToNat, List.drop_drop, valT, List.getD_cons_zero, List.getD_cons_succ, Int.reduceLT, Int.reduceLE, Int.reduceAdd, Int.reduceSub, Int.reduceMul, Int.reduceNeg, Int.reduceEq, Int.reduceNe, Int.cast_ofNat_Int, Int.natCast_zero, Int.natCast_one, ge_iff_le, gt_iff_lt, decide_true, decide_false, Bool.not_true, Bool.not_false, Int.toNat_natCast, Nat.sub_zero, Nat.mul_one, Option.isSome_some, Option.isSome_none, Bool.false_eq_true, Bool.and_true, Bool.true_and, Bool.and_false, Bool.false_and, Nat.zero_add, Nat.zero_mul, List.drop_zero, reduceIte, setRange, PV.cells, fillB, List.take, List.drop, List.append_eq, List.cons_append, List.nil_append, List.length, List.map, List.zip, List.zipWith, List.replicate, List.flatten, Nat.reduceAdd, Nat.reduceMul, Nat.reduceSub, PV.mapId, mapIds, Option.map, Blk.mapId, sigN, sigS, hlt]
          try conv => arg 3; simp only [Nat.reduceLT, List.reduceReplicate, List.flatten_cons, List.flatten_nil, List.append_nil, Nat.reduceMul, Nat.mul_one, Nat.one_mul, Nat.zero_mul, Nat.zero_add, List.drop_zero, List.drop_succ_cons, List.drop_nil, List.take_succ_cons, List.take_zero, List.take_nil, List.drop_drop, setRange, PV.cells, valT, List.getD_cons_zero, List.getD_cons_succ, List.take, List.length, Nat.reduceAdd, List.nil_append, applyU, hset, hdel, Nat.reduceEqDiff, reduceIte, List.append_eq, List.cons_append, List.nil_append, frz, rowsOf, updsNew, updsAt, sigN, sigS, PV.mapId, mapIds, Option.map, Blk.mapId, List.drop, heapOf, hlt]
          conv => arg 5; simp only [stride, Nat.reduceAdd]
          refine EVgo9 (hc) trivial trivial trivial trivial trivial trivial trivial trivial trivial trivial trivial ?_
          first | refine WO.step (k_index rfl rfl h0 hb) ?_ | refine WOc.step (k_index rfl rfl h0 hb) ?_
          conv => arg 2; simp only [setOpt, List.set, Nat.reduceLT, Int.reduceToNat, List.drop_drop, valT, List.getD_cons_zero, List.getD_cons_succ, Int.reduceLT, Int.reduceLE, Int.reduceAdd, Int.reduceSub, Int.reduceMul, Int.reduceNeg, Int.reduceEq, Int.reduceNe, Int.cast_ofNat_Int, Int.natCast_zero, Int.natCast_one, ge_iff_le, gt_iff_lt, decide_true, decide_false, Bool.not_true, Bool.not_false, Int.toNat_natCast, Nat.sub_zero, Nat.mul_one, Option.isSome_some, Option.isSome_none, Bool.false_eq_true, Bool.and_true, Bool.true_and, Bool.and_false, Bool.false_and, Nat.zero_add, Nat.zero_mul, List.drop_zero, reduceIte, setRange, PV.cells, fillB, List.take, List.drop, List.append_eq, List.cons_append, List.nil_append, List.length, List.map, List.zip, List.zipWith, List.replicate, List.flatten, Nat.reduceAdd, Nat.reduceMul, Nat.reduceSub, PV.mapId, mapIds, Option.map, Blk.mapId, sigN, sigS, hlt]
          try conv => arg 3; simp only [Nat.reduceLT, List.reduceReplicate, List.flatten_cons, List.flatten_nil, List.append_nil, Nat.reduceMul, Nat.mul_one, Nat.one_mul, Nat.zero_mul, Nat.zero_add, List.drop_zero, List.drop_succ_cons, List.drop_nil, List.take_succ_cons, List.take_zero, List.take_nil, List.drop_drop, setRange, PV.cells, valT, List.getD_cons_zero, List.getD_cons_succ, List.take, List.length, Nat.reduceAdd, List.nil_append, applyU, hset, hdel, Nat.reduceEqDiff, reduceIte, List.append_eq, List.cons_append, List.nil_append, frz, rowsOf, updsNew, updsAt, sigN, sigS, PV.mapId, mapIds, Option.map, Blk.mapId, List.drop, heapOf, hlt]
          conv => arg 5; simp only [stride, Nat.reduceAdd]
          refine EVgo9 (And.intro (rowB_len) ( And.intro (rowB_all) ( And.intro (rowB_snoc) (hw)))) trivial trivial trivial trivial trivial trivial trivial trivial trivial trivial trivial ?_
          exact WC.loop rfl hih
        | false =>
          rw [dense_none (l := [b]) (by intro c hc; rw [List.mem_singleton.1 hc]; exact hpb), List.append_nil] at hih
          rw [hpb] at hc
          conv => arg 3; simp only [mkT, putT, List.reduceReplicate, List.set]
          refine EVgo9 (And.intro (szB) (hlt)) trivial trivial trivial trivial trivial trivial trivial trivial trivial trivial trivial ?_
          first | refine WO.step (k_index rfl rfl h0 hb) ?_ | refine WOc.step (k_index rfl rfl h0 hb) ?_
          conv => arg 2; simp only [setOpt, List.set, Nat.reduceLT, Int.reduceToNat, List.drop_drop, valT, List.getD_cons_zero, List.getD_cons_succ, Int.reduceLT, Int.reduceLE, Int.reduceAdd, Int.reduceSub, Int.reduceMul, Int.reduceNeg, Int.reduceEq, Int.reduceNe, Int.cast_ofNat_Int, Int.natCast_zero, Int.natCast_one, ge_iff_le, gt_iff_lt, decide_true, decide_false, Bool.not_true, Bool.not_false, Int.toNat_natCast, Nat.sub_zero, Nat.mul_one, Option.isSome_some, Option.isSome_none, Bool.false_eq_true, Bool.and_true, Bool.true_and, Bool.and_false, Bool.false_and, Nat.zero_add, Nat.zero_mul, List.drop_zero, reduceIte, setRange, PV.cells, fillB, List.take, List.drop, List.append_eq, List.cons_append, List.nil_append, List.length, List.map, List.zip, List.zipWith, List.replicate, List.flatten, Nat.reduceAdd, Nat.reduceMul, Nat.reduceSub, PV.mapId, mapIds, Option.map, Blk.mapId, sigN, sigS, hlt]
          try conv => arg 3; simp only [Nat.reduceLT, List.reduceReplicate, List.flatten_cons, List.flatten_nil, List.append_nil, Nat.reduceMul, Nat.mul_one, Nat.one_mul, Nat.zero_mul, Nat.zero_add, List.drop_zero, List.drop_succ_cons, List.drop_nil, List.take_succ_cons, List.take_zero, List.take_nil, List.drop_drop, setRange, PV.cells, valT, List.getD_cons_zero, List.getD_cons_succ, List.take, List.length, Nat.reduceAdd, List.nil_append, applyU, hset, hdel, Nat.reduceEqDiff, reduceIte, List.append_eq, List.cons_append, List.nil_append, frz, rowsOf, updsNew, updsAt, sigN, sigS, PV.mapId, mapIds, Option.map, Blk.mapId, List.drop, heapOf, hlt]
          conv => arg 5; simp only [stride, Nat.reduceAdd]
          refine EVgo9 (And.intro (hc) (hw)) trivial trivial trivial trivial trivial trivial trivial trivial trivial trivial trivial ?_
          exact WC.loop rfl hih
    | succ k ih =>
      intro m j all hm hj hall hmj
      have h10 := s10 hcf L (j : Nat) (by omega)
      have wo := word_ok hj
      generalize wordP L (j : Nat) = x at *
      obtain ⟨w, j'⟩ := x
      obtain ⟨w1, w2, w3, w4, w5, w6⟩ := wo
      simp only at w1 w2 w3 w4 w5 w6
      have hwl : (all ++ w).length ≤ L.length := by
        have := congrArg List.length hall
        rw [w6] at this
        have hd : (dense L).length ≤ L.length := List.length_filter_le _ _
        simp only [List.length_append] at this ⊢
        omega
      have c1 : IntKind.i64.wrap ((L.length : Int) + 1) = (L.length : Int) + 1 := i64_in _ (by omega)
      have c2 : ((m : Int) ≤ (L.length : Int) + 1) := by omega
      have c3 : ¬ ((j' : Int) < (j : Int)) := by omega
      have c4 : ¬ ((j' : Int) > (L.length : Int)) := by omega
      have hw : IntKind.i64.wrap ((m : Int) + 1) = ((m + 1 : Nat) : Int) := by rw [i64_in _ (by omega)]; simp
      have hih := ih (m + 1) j' (all ++ w) (by omega) w2 (by rw [List.append_assoc, ← w6, hall]) (by
        by_cases q : j < L.length
        · have := w3 q; omega
        · omega)
      simp only [encC, srcE, sB] at h10
      have inner : ∀ (u v : Bs), v ++ u = w → ∀ b ∈ w, fullP b = true := fun _ _ _ => w5
      by_cases hwn : w = []
      · subst hwn
        have q3 : ((⟨[].toArray⟩ : ByteArray).toList == (⟨#[]⟩ : ByteArray).toList) = true := (cmpB [] []).trans (by decide)
        rw [List.append_nil] at hih
        conv => arg 3; simp only [mkT, putT, List.reduceReplicate, List.set]
        refine EVgo9 (And.intro (szB) ( And.intro (c1) (c2))) (h10) trivial trivial trivial trivial trivial trivial trivial trivial trivial trivial ?_
        refine EVgo9 (And.intro (e1) ( And.intro (c3) ( And.intro (c4) ( And.intro (q3) (szB))))) trivial trivial trivial trivial trivial trivial trivial trivial trivial trivial trivial ?_
        refine WC.loop (T' := _) (H' := _) (n' := _) rfl (?_ : WC cf _ (mkT 105 [(0, .str ⟨L.toArray⟩), (3, .bool true), (4, .ptr 0 0), (5, .str ⟨all.toArray⟩), (6, .int .i64 (m : Nat)), (7, .str ⟨[].toArray⟩), (8, .ptr 1 0), (9, .int .i64 0)]) [(0, .box [.str ⟨L.toArray⟩, .int .i64 (j : Nat)]), (1, .box [.str ⟨L.toArray⟩, .int .i64 (j' : Nat)])] 0 2 _)
        conv => arg 3; simp only [mkT, putT, List.reduceReplicate, List.set]
        refine EVgl9 (szB) trivial trivial trivial trivial trivial trivial trivial trivial trivial trivial trivial ?_
        refine EVgo9 trivial trivial trivial trivial trivial trivial trivial trivial trivial trivial trivial trivial ?_
        first | refine WO.step (k_cat (a := all) (b := []) rfl rfl (by simp at hwl ⊢; omega)) ?_ | refine WOc.step (k_cat (a := all) (b := []) rfl rfl (by simp at hwl ⊢; omega)) ?_
        conv => arg 2; simp only [setOpt, List.set, Nat.reduceLT, Int.reduceToNat, List.drop_drop, valT, List.getD_cons_zero, List.getD_cons_succ, Int.reduceLT, Int.reduceLE, Int.reduceAdd, Int.reduceSub, Int.reduceMul, Int.reduceNeg, Int.reduceEq, Int.reduceNe, Int.cast_ofNat_Int, Int.natCast_zero, Int.natCast_one, ge_iff_le, gt_iff_lt, decide_true, decide_false, Bool.not_true, Bool.not_false, Int.toNat_natCast, Nat.sub_zero, Nat.mul_one, Option.isSome_some, Option.isSome_none, Bool.false_eq_true, Bool.and_true, Bool.true_and, Bool.and_false, Bool.false_and, Nat.zero_add, Nat.zero_mul, List.drop_zero, reduceIte, setRange, PV.cells, fillB, List.take, List.drop, List.append_eq, List.cons_append, List.nil_append, List.length, List.map, List.zip, List.zipWith, List.replicate, List.flatten, Nat.reduceAdd, Nat.reduceMul, Nat.reduceSub, PV.mapId, mapIds, Option.map, Blk.mapId, sigN, sigS]
        try conv => arg 3; simp only [Nat.reduceLT, List.reduceReplicate, List.flatten_cons, List.flatten_nil, List.append_nil, Nat.reduceMul, Nat.mul_one, Nat.one_mul, Nat.zero_mul, Nat.zero_add, List.drop_zero, List.drop_succ_cons, List.drop_nil, List.take_succ_cons, List.take_zero, List.take_nil, List.drop_drop, setRange, PV.cells, valT, List.getD_cons_zero, List.getD_cons_succ, List.take, List.length, Nat.reduceAdd, List.nil_append, applyU, hset, hdel, Nat.reduceEqDiff, reduceIte, List.append_eq, List.cons_append, List.nil_append, frz, rowsOf, updsNew, updsAt, sigN, sigS, PV.mapId, mapIds, Option.map, Blk.mapId, List.drop, heapOf]
        conv => arg 5; simp only [stride, Nat.reduceAdd]
        have han : all ++ [] = all := List.append_nil _
        refine EVgo9 (And.intro (hw) (han)) trivial trivial trivial trivial trivial trivial trivial trivial trivial trivial trivial ?_
        exact WC.loop rfl hih
      · have q3 : ((⟨w.toArray⟩ : ByteArray).toList == (⟨#[]⟩ : ByteArray).toList) = false := (cmpB w []).trans (by simpa using hwn)
        have c5 : ¬ ((j' : Int) ≤ (j : Int)) := by have := w4 hwn; omega
        conv => arg 3; simp only [mkT, putT, List.reduceReplicate, List.set]
        refine EVgo9 (And.intro (szB) ( And.intro (c1) (c2))) (h10) trivial trivial trivial trivial trivial trivial trivial trivial trivial trivial ?_
        refine EVgo9 (And.intro (e1) ( And.intro (c3) ( And.intro (c4) ( And.intro (c5) ( And.intro (q3) (szB)))))) trivial trivial trivial trivial trivial trivial trivial trivial trivial trivial trivial ?_
        refine WC.loop (T' := _) (H' := _) (n' := _) rfl ((?_ : ∀ (u v : Bs), v ++ u = w →
          WC cf _ (mkT 105 [(0, .str ⟨L.toArray⟩), (3, .bool true), (4, .ptr 0 0), (5, .str ⟨all.toArray⟩), (6, .int .i64 (m : Nat)), (7, .str ⟨w.toArray⟩), (8, .ptr 1 0), (9, .int .i64 (v.length : Nat))]) [(0, .box [.str ⟨L.toArray⟩, .int .i64 (j : Nat)]), (1, .box [.str ⟨L.toArray⟩, .int .i64 (j' : Nat)])] 0 2 _) w [] rfl)
        intro u
        induction u with
        | nil =>
          intro v hv
          rw [List.append_nil] at hv
          subst hv
          conv => arg 3; simp only [mkT, putT, List.reduceReplicate, List.set]
          refine EVgl9 (szB) trivial trivial trivial trivial trivial trivial trivial trivial trivial trivial trivial ?_
          refine EVgo9 trivial trivial trivial trivial trivial trivial trivial trivial trivial trivial trivial trivial ?_
          first | refine WO.step (k_cat (a := all) (b := v) rfl rfl (by simp at hwl; omega)) ?_ | refine WOc.step (k_cat (a := all) (b := v) rfl rfl (by simp at hwl; omega)) ?_
          conv => arg 2; simp only [setOpt, List.set, Nat.reduceLT, Int.reduceToNat, List.drop_drop, valT, List.getD_cons_zero, List.getD_cons_succ, Int.reduceLT, Int.reduceLE, Int.reduceAdd, Int.reduceSub, Int.reduceMul, Int.reduceNeg, Int.reduceEq, Int.reduceNe, Int.cast_ofNat_Int, Int.natCast_zero, Int.natCast_one, ge_iff_le, gt_iff_lt, decide_true, decide_false, Bool.not_true, Bool.not_false, Int.toNat_natCast, Nat.sub_zero, Nat.mul_one, Option.isSome_some, Option.isSome_none, Bool.false_eq_true, Bool.and_true, Bool.true_and, Bool.and_false, Bool.false_and, Nat.zero_add, Nat.zero_mul, List.drop_zero, reduceIte, setRange, PV.cells, fillB, List.take, List.drop, List.append_eq, List.cons_append, List.nil_append, List.length, List.map, List.zip, List.zipWith, List.replicate, List.flatten, Nat.reduceAdd, Nat.reduceMul, Nat.reduceSub, PV.mapId, mapIds, Option.map, Blk.mapId, sigN, sigS]
          try conv => arg 3; simp only [Nat.reduceLT, List.reduceReplicate, List.flatten_cons, List.flatten_nil, List.append_nil, Nat.reduceMul, Nat.mul_one, Nat.one_mul, Nat.zero_mul, Nat.zero_add, List.drop_zero, List.drop_succ_cons, List.drop_nil, List.take_succ_cons, List.take_zero, List.take_nil, List.drop_drop, setRange, PV.cells, valT, List.getD_cons_zero, List.getD_cons_succ, List.take, List.length, Nat.reduceAdd, List.nil_append, applyU, hset, hdel, Nat.reduceEqDiff, reduceIte, List.append_eq, List.cons_append, List.nil_append, frz, rowsOf, updsNew, updsAt, sigN, sigS, PV.mapId, mapIds, Option.map, Blk.mapId, List.drop, heapOf]
          conv => arg 5; simp only [stride, Nat.reduceAdd]
          refine EVgo9 (hw) trivial trivial trivial trivial trivial trivial trivial trivial trivial trivial trivial ?_
          exact WC.loop rfl hih
        | cons b u ihu =>
          intro v hv
          have hlen3 : w.length = v.length + (u.length + 1) := by rw [← hv]; simp
          have hltv : (v.length : Int) < (w.length : Int) := by omega
          have hwl2 : w.length ≤ 1000 := by simp at hwl; omega
          have hwv : IntKind.i64.wrap ((v.length : Int) + 1) = ((v.length + 1 : Nat) : Int) := by rw [i64_in _ (by omega)]; simp
          have h0 : (0 : Int) ≤ (v.length : Int) := Int.natCast_nonneg _
          have hb := at_B hv
          have hbm : b ∈ w := by rw [← hv]; simp
          have hc := empty_cmp b
          rw [empty_full, w5 b hbm] at hc
          have hihu := ihu (v ++ [b]) (by rw [List.append_assoc]; exact hv)
          rw [snoc_lenB] at hihu
          conv => arg 3; simp only [mkT, putT, List.reduceReplicate, List.set]
          refine EVgo9 (And.intro (szB) (hltv)) trivial trivial trivial trivial trivial trivial trivial trivial trivial trivial trivial ?_
          first | refine WO.step (k_index rfl rfl h0 hb) ?_ | refine WOc.step (k_index rfl rfl h0 hb) ?_
          conv => arg 2; simp only [setOpt, List.set, Nat.reduceLT, Int.reduceToNat, List.drop_drop, valT, List.getD_cons_zero, List.getD_cons_succ, Int.reduceLT, Int.reduceLE, Int.reduceAdd, Int.reduceSub, Int.reduceMul, Int.reduceNeg, Int.reduceEq, Int.reduceNe, Int.cast_ofNat_Int, Int.natCast_zero, Int.natCast_one, ge_iff_le, gt_iff_lt, decide_true, decide_false, Bool.not_true, Bool.not_false, Int.toNat_natCast, Nat.sub_zero, Nat.mul_one, Option.isSome_some, Option.isSome_none, Bool.false_eq_true, Bool.and_true, Bool.true_and, Bool.and_false, Bool.false_and, Nat.zero_add, Nat.zero_mul, List.drop_zero, reduceIte, setRange, PV.cells, fillB, List.take, List.drop, List.append_eq, List.cons_append, List.nil_append, List.length, List.map, List.zip, List.zipWith, List.replicate, List.flatten, Nat.reduceAdd, Nat.reduceMul, Nat.reduceSub, PV.mapId, mapIds, Option.map, Blk.mapId, sigN, sigS, hltv]
          try conv => arg 3; simp only [Nat.reduceLT, List.reduceReplicate, List.flatten_cons, List.flatten_nil, List.append_nil, Nat.reduceMul, Nat.mul_one, Nat.one_mul, Nat.zero_mul, Nat.zero_add, List.drop_zero, List.drop_succ_cons, List.drop_nil, List.take_succ_cons, List.take_zero, List.take_nil, List.drop_drop, setRange, PV.cells, valT, List.getD_cons_zero, List.getD_cons_succ, List.take, List.length, Nat.reduceAdd, List.nil_append, applyU, hset, hdel, Nat.reduceEqDiff, reduceIte, List.append_eq, List.cons_append, List.nil_append, frz, rowsOf, updsNew, updsAt, sigN, sigS, PV.mapId, mapIds, Option.map, Blk.mapId, List.drop, heapOf, hltv]
          conv => arg 5; simp only [stride, Nat.reduceAdd]
          refine EVgo9 (And.intro (hc) ( And.intro (hwv) (Bool.not_true))) trivial trivial trivial trivial trivial trivial trivial trivial trivial trivial trivial ?_
          exact WC.loop rfl hihu
  · have hl' : (L.length : Int) > 1000 := by omega
    simp only [sB]
    conv => arg 2; simp only [ir3]
    conv => arg 3; simp only [ir3, Go.Proofs.YtgiapbmeaobjiaaEv.start, List.length, Nat.reduceAdd, Nat.reduceSub, List.reduceReplicate, List.append_eq, List.cons_append, List.nil_append]
    conv => arg 4; simp only [heapOf]
    try conv => arg 5; simp only [List.length, Nat.reduceAdd]
    try conv => arg 6; simp only [List.length, Nat.reduceAdd]
    refine EVgo9 (And.intro (szB) (hl')) (h9) trivial trivial trivial trivial trivial trivial trivial trivial trivial trivial ?_
    exact EVret trivial
end
end Go.Proofs.YtgiapbmeaobjiaaR
