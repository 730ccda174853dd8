/- The search's closure, where nothing is held yet. -/
import Derived.Test.YtipnedhclbopdaaDoorEvf22D2
open Go Go.Proofs.YtipnedhclbopdaaDoorEv Go.Proofs.YtipnedhclbopdaaDoorR Go.IntWalk Go.Proofs
set_option maxRecDepth 20000
set_option maxHeartbeats 8000000
set_option linter.unusedVariables false
set_option linter.unusedSimpArgs false
namespace Go.Proofs.YtipnedhclbopdaaDoorR
section
variable {cf : CF} (hcf : cf = ev env)
include hcf
theorem s27n (l : List Ot) (n : Int) (hl8 : l.length ≤ 8) (hl : ∀ x ∈ l, inI (argT x) = true) (m : Nat) (d : List Bool) (ms : List Key) (hin : In l d []) (hm : cntF d < m + 1) :
    cf 27 [slB d, .nil, .ptr 0 0, .ptr 2 0, .ptr 3 0, .ptr 4 0] (H5 l n ms) = some (.bool (memo l n (m + 1) d [] ms).1, H5 l n (memo l n (m + 1) d [] ms).2) := by
  have h28 := s28n hcf d (by rw [hin.len]; omega)
  have dlen : d.length ≤ 1000 := by rw [hin.len]; omega
  refine ev_ofC' hcf env27 ?_
  rw [memo]
  simp only [H5, capF, slB, slT, slI] at h28 ⊢
  cases hk : hasK ms (keyL d []) with
  | true =>
    rw [if_pos rfl]
    conv => arg 2; simp only [ir27]
    conv => arg 3; simp only [ir27, Go.Proofs.YtipnedhclbopdaaDoorEv.start, List.length, Nat.reduceAdd, Nat.reduceSub, List.reduceReplicate, List.append_eq, List.cons_append, List.nil_append]
    conv => arg 4; simp only [heapOf]
    try conv => arg 5; simp only [List.length, Nat.reduceAdd]
    try conv => arg 6; simp only [List.length, Nat.reduceAdd]
    refine EVgo9 trivial (h28) trivial trivial trivial trivial trivial trivial trivial trivial trivial trivial ?_
    refine EVgo9 trivial trivial trivial trivial trivial trivial trivial trivial trivial trivial (k_lookup rfl rfl rfl hk) trivial ?_
    exact WQ.ret rfl
  | false =>
    rw [if_neg (by simp)]
    generalize hR : (if leftL d 0 l = true then memoL (memo l n m) l n d [] 0 l (ms ++ [keyL d []]) else (true, ms ++ [keyL d []])) = R
    obtain ⟨R1, R2⟩ := R
    conv => arg 2; simp only [ir27]
    conv => arg 3; simp only [ir27, Go.Proofs.YtipnedhclbopdaaDoorEv.start, List.length, Nat.reduceAdd, Nat.reduceSub, List.reduceReplicate, List.append_eq, List.cons_append, List.nil_append]
    conv => arg 4; simp only [heapOf]
    try conv => arg 5; simp only [List.length, Nat.reduceAdd]
    try conv => arg 6; simp only [List.length, Nat.reduceAdd]
    refine EVgo9 trivial (h28) trivial trivial trivial trivial trivial trivial trivial trivial trivial trivial ?_
    refine EVgo9 trivial trivial trivial trivial trivial trivial trivial trivial trivial trivial (k_lookup rfl rfl rfl hk) trivial ?_
    first | refine WO.step (k_mapup rfl rfl rfl rfl hk) ?_ | refine WOc.step (k_mapup rfl rfl rfl rfl hk) ?_
    conv => arg 2; simp only [setOpt, List.set, Nat.reduceLT, Int.reduceToNat, List.drop_drop, valT, List.getD_cons_zero, List.getD_cons_succ, Int.reduceLT, Int.reduceLE, Int.reduceAdd, Int.reduceSub, Int.reduceMul, Int.reduceNeg, Int.reduceEq, Int.reduceNe, Int.cast_ofNat_Int, Int.natCast_zero, Int.natCast_one, ge_iff_le, gt_iff_lt, decide_true, decide_false, Bool.not_true, Bool.not_false, Int.toNat_natCast, Nat.sub_zero, Nat.mul_one, Option.isSome_some, Option.isSome_none, Bool.false_eq_true, Bool.and_true, Bool.true_and, Bool.and_false, Bool.false_and, Nat.zero_add, Nat.zero_mul, List.drop_zero, reduceIte, setRange, PV.cells, fillB, List.take, List.drop, List.append_eq, List.cons_append, List.nil_append, List.length, List.map, List.zip, List.zipWith, List.replicate, List.flatten, Nat.reduceAdd, Nat.reduceMul, Nat.reduceSub, PV.mapId, mapIds, Option.map, Blk.mapId, sigN, sigS]
    try conv => arg 3; simp only [Nat.reduceLT, List.reduceReplicate, List.flatten_cons, List.flatten_nil, List.append_nil, Nat.reduceMul, Nat.mul_one, Nat.one_mul, Nat.zero_mul, Nat.zero_add, List.drop_zero, List.drop_succ_cons, List.drop_nil, List.take_succ_cons, List.take_zero, List.take_nil, List.drop_drop, setRange, PV.cells, valT, List.getD_cons_zero, List.getD_cons_succ, List.take, List.length, Nat.reduceAdd, List.nil_append, applyU, hset, hdel, Nat.reduceEqDiff, reduceIte, List.append_eq, List.cons_append, List.nil_append, frz, rowsOf, updsNew, updsAt, sigN, sigS, PV.mapId, mapIds, Option.map, Blk.mapId, List.drop, heapOf]
    conv => arg 5; simp only [stride, Nat.reduceAdd]
    refine EVgo9 trivial trivial trivial trivial trivial trivial trivial trivial trivial trivial trivial trivial ?_
    generalize hL : leftL d 0 l = L at hR
    refine WC.loop (T' := _) (H' := _) (n' := _) rfl ((?_ : ∀ (r p : List Ot) (b : Bool), p ++ r = l → (b || leftL d p.length r) = L →
      WC cf _ (mkT 80 [(0, .sl d.length false (flat encB d)), (1, .nil), (3, .ptr 2 0), (4, .ptr 3 0), (5, .ptr 4 0), (10, .bool b), (26, .sl l.length false (flat encT l)), (27, .int .i64 (l.length : Nat)), (28, .int .i64 (p.length : Nat))])
        [(0, .box [.map 1]), (1, .mp (mOf (ms ++ [keyL d []]))), (2, .box [.sl l.length false (flat encT l)]), (3, .box [.int .i64 n]), (4, .box [.fn 27 [] [.ptr 0 0, .ptr 2 0, .ptr 3 0, .ptr 4 0]])] 5 5 _) l [] false rfl (by rw [Bool.false_or]; exact hL))
    intro r
    induction r with
    | nil =>
      intro p b hp hb
      rw [List.append_nil] at hp
      have hpl : p.length = l.length := by rw [hp]
      rw [hpl]
      clear hpl hp
      have hb' : b = L := by rw [← hb]; simp [leftL]
      subst hb'
      clear hb
      cases b with
      | false =>
        rw [if_neg (by simp)] at hR
        cases hR
        conv => arg 3; simp only [mkT, putT, List.reduceReplicate, List.set]
        refine EVgl9 trivial trivial trivial trivial trivial trivial trivial trivial trivial trivial trivial trivial ?_
        exact WQ.ret rfl
      | true =>
        rw [if_pos rfl] at hR
        conv => arg 3; simp only [mkT, putT, List.reduceReplicate, List.set]
        refine EVgl9 trivial trivial trivial trivial trivial trivial trivial trivial trivial trivial trivial trivial ?_
        refine WC.loop (T' := _) (H' := _) (n' := _) rfl ((?_ : ∀ (r p : List Ot) (ms' : List Key), p ++ r = l → memoL (memo l n m) l n d [] p.length r ms' = (R1, R2) →
          WC cf _ (mkT 80 [(0, .sl d.length false (flat encB d)), (1, .nil), (3, .ptr 2 0), (4, .ptr 3 0), (5, .ptr 4 0), (48, .sl l.length false (flat encT l)), (49, .int .i64 (l.length : Nat)), (50, .int .i64 (p.length : Nat))])
            [(0, .box [.map 1]), (1, .mp (mOf ms')), (2, .box [.sl l.length false (flat encT l)]), (3, .box [.int .i64 n]), (4, .box [.fn 27 [] [.ptr 0 0, .ptr 2 0, .ptr 3 0, .ptr 4 0]])] 5 5 _) l [] (ms ++ [keyL d []]) rfl hR)
        clear hR hk h28
        intro r
        induction r with
        | nil =>
          intro p ms' hp hR
          rw [List.append_nil] at hp
          have hpl : p.length = l.length := by rw [hp]
          rw [hpl]
          clear hpl hp
          rw [memoL] at hR
          cases hR
          conv => arg 3; simp only [mkT, putT, List.reduceReplicate, List.set]
          refine EVgl9 trivial trivial trivial trivial trivial trivial trivial trivial trivial trivial trivial trivial ?_
          exact WQ.ret rfl
        | cons x r ih2 =>
          intro p ms' hp hR
          have hx : x ∈ l := by rw [← hp]; simp
          have hlen : l.length = p.length + (r.length + 1) := by rw [← hp]; simp
          have hpl : p.length < l.length := by omega
          have hlt : (p.length : Int) < (l.length : Int) := by omega
          have hw : IntKind.i64.wrap ((p.length : Int) + 1) = ((p.length + 1 : Nat) : Int) := by rw [i64_in _ (by omega)]; simp
          have h17 := s17 hcf l d (p.length : Nat) (by omega) dlen
          have e17 : afterI l d ((p.length : Nat) : Int) = afterN l d p.length := by unfold afterI; rw [if_pos ⟨by omega, hlt⟩, Int.toNat_natCast]
          rw [e17] at h17
          have h10 := s10 hcf [] x n (by have := hin.few; simp only [List.length_nil] at *; omega)
          have h29 := s29 hcf d (by omega)
          have hih := ih2 (p ++ [x])
          rw [snoc_len] at hih
          obtain ⟨a, b, c, e, f, g, t⟩ := x
          have hih := fun ms2 => hih ms2 (by rw [List.append_assoc]; exact hp)
          have eK := mid_T hp
          rw [memoL] at hR
          simp only [slB, slT, slI, encT] at h17 h10 h29
          cases hA : afterN l d p.length with
          | false =>
            rw [hA] at h17 hR
            rw [if_neg (by simp)] at hR
            have hih' := hih ms' hR
            conv => arg 3; simp only [mkT, putT, List.reduceReplicate, List.set]
            refine EVgo9 (And.intro (hlt) ( And.intro (hw) (eK))) (h17) trivial trivial trivial trivial trivial trivial trivial trivial trivial trivial ?_
            exact WC.loop rfl hih'
          | true =>
            rw [hA] at h17 hR
            rw [if_pos rfl] at hR
            have hnb := after_not hA
            have hin2 := hin.step (o := (a, b, c, e, f, g, t)) n hpl hnb (hl _ hx)
            have hcnt := cntF_set d p.length (by rw [hin.len]; exact hpl) hnb
            have hrec := s27 hcf l n hl8 hl m (d.set p.length true) (applyT [] (a, b, c, e, f, g, t) n).1 ms' hin2 (by omega)
            have hsB := setB d p.length (by rw [hin.len]; exact hpl)
            have hpd : (p.length : Int) < (d.length : Int) := by rw [hin.len]; exact hlt
            have hall : ((flat encB (d.set p.length true)).drop 0).take (d.length * 1) = flat encB (d.set p.length true) := by
              have := allB (d.set p.length true)
              rwa [List.length_set, ← Nat.mul_one d.length] at this
            simp only [H5, capF, slB, slT, slI, List.length_set] at hrec
            rw [← hall] at hrec
            generalize applyT [] (a, b, c, e, f, g, t) n = q at h10 hR hrec
            obtain ⟨q1, q2⟩ := q
            simp only at h10 hR hrec
            cases q2 with
            | false =>
              rw [if_neg (by simp)] at hR
              have hih' := hih ms' hR
              conv => arg 3; simp only [mkT, putT, List.reduceReplicate, List.set]
              refine EVgo9 (And.intro (hlt) ( And.intro (hw) ( And.intro (eK) (hpd)))) (h17) (h10) (h29) trivial trivial trivial trivial trivial trivial trivial trivial ?_
              first | refine WO.step (k_store_row rfl rfl rfl rfl (by rw [lenB]; omega) rfl) ?_ | refine WOc.step (k_store_row rfl rfl rfl rfl (by rw [lenB]; omega) rfl) ?_
              conv => arg 2; simp only [setOpt, List.set, Nat.reduceLT, Int.reduceToNat, List.drop_drop, valT, List.getD_cons_zero, List.getD_cons_succ, Int.reduceLT, Int.reduceLE, Int.reduceAdd, Int.reduceSub, Int.reduceMul, Int.reduceNeg, Int.reduceEq, Int.reduceNe, Int.cast_ofNat_Int, Int.natCast_zero, Int.natCast_one, ge_iff_le, gt_iff_lt, decide_true, decide_false, Bool.not_true, Bool.not_false, Int.toNat_natCast, Nat.sub_zero, Nat.mul_one, Option.isSome_some, Option.isSome_none, Bool.false_eq_true, Bool.and_true, Bool.true_and, Bool.and_false, Bool.false_and, Nat.zero_add, Nat.zero_mul, List.drop_zero, reduceIte, setRange, PV.cells, fillB, List.take, List.drop, List.append_eq, List.cons_append, List.nil_append, List.length, List.map, List.zip, List.zipWith, List.replicate, List.flatten, Nat.reduceAdd, Nat.reduceMul, Nat.reduceSub, PV.mapId, mapIds, Option.map, Blk.mapId, sigN, sigS, hsB]
              try conv => arg 3; simp only [Nat.reduceLT, List.reduceReplicate, List.flatten_cons, List.flatten_nil, List.append_nil, Nat.reduceMul, Nat.mul_one, Nat.one_mul, Nat.zero_mul, Nat.zero_add, List.drop_zero, List.drop_succ_cons, List.drop_nil, List.take_succ_cons, List.take_zero, List.take_nil, List.drop_drop, setRange, PV.cells, valT, List.getD_cons_zero, List.getD_cons_succ, List.take, List.length, Nat.reduceAdd, List.nil_append, applyU, hset, hdel, Nat.reduceEqDiff, reduceIte, List.append_eq, List.cons_append, List.nil_append, frz, rowsOf, updsNew, updsAt, sigN, sigS, PV.mapId, mapIds, Option.map, Blk.mapId, List.drop, heapOf, hsB]
              conv => arg 5; simp only [stride, Nat.reduceAdd]
              refine EVgo9 (hw) trivial trivial trivial trivial trivial trivial trivial trivial trivial trivial trivial ?_
              exact WC.loop rfl hih'
            | true =>
              rw [if_pos rfl] at hR
              generalize memo l n m (d.set p.length true) q1 ms' = z at hR hrec
              obtain ⟨z1, ms2⟩ := z
              simp only at hR hrec
              cases z1 with
              | false =>
                rw [if_neg (by simp)] at hR
                have hih' := hih ms2 hR
                conv => arg 3; simp only [mkT, putT, List.reduceReplicate, List.set]
                refine EVgo9 (And.intro (hlt) ( And.intro (hw) ( And.intro (eK) (hpd)))) (h17) (h10) (h29) trivial trivial trivial trivial trivial trivial trivial trivial ?_
                first | refine WO.step (k_store_row rfl rfl rfl rfl (by rw [lenB]; omega) rfl) ?_ | refine WOc.step (k_store_row rfl rfl rfl rfl (by rw [lenB]; omega) rfl) ?_
                conv => arg 2; simp only [setOpt, List.set, Nat.reduceLT, Int.reduceToNat, List.drop_drop, valT, List.getD_cons_zero, List.getD_cons_succ, Int.reduceLT, Int.reduceLE, Int.reduceAdd, Int.reduceSub, Int.reduceMul, Int.reduceNeg, Int.reduceEq, Int.reduceNe, Int.cast_ofNat_Int, Int.natCast_zero, Int.natCast_one, ge_iff_le, gt_iff_lt, decide_true, decide_false, Bool.not_true, Bool.not_false, Int.toNat_natCast, Nat.sub_zero, Nat.mul_one, Option.isSome_some, Option.isSome_none, Bool.false_eq_true, Bool.and_true, Bool.true_and, Bool.and_false, Bool.false_and, Nat.zero_add, Nat.zero_mul, List.drop_zero, reduceIte, setRange, PV.cells, fillB, List.take, List.drop, List.append_eq, List.cons_append, List.nil_append, List.length, List.map, List.zip, List.zipWith, List.replicate, List.flatten, Nat.reduceAdd, Nat.reduceMul, Nat.reduceSub, PV.mapId, mapIds, Option.map, Blk.mapId, sigN, sigS, hsB]
                try conv => arg 3; simp only [Nat.reduceLT, List.reduceReplicate, List.flatten_cons, List.flatten_nil, List.append_nil, Nat.reduceMul, Nat.mul_one, Nat.one_mul, Nat.zero_mul, Nat.zero_add, List.drop_zero, List.drop_succ_cons, List.drop_nil, List.take_succ_cons, List.take_zero, List.take_nil, List.drop_drop, setRange, PV.cells, valT, List.getD_cons_zero, List.getD_cons_succ, List.take, List.length, Nat.reduceAdd, List.nil_append, applyU, hset, hdel, Nat.reduceEqDiff, reduceIte, List.append_eq, List.cons_append, List.nil_append, frz, rowsOf, updsNew, updsAt, sigN, sigS, PV.mapId, mapIds, Option.map, Blk.mapId, List.drop, heapOf, hsB]
                conv => arg 5; simp only [stride, Nat.reduceAdd]
                refine EVgo9 (hw) (hrec) trivial trivial trivial trivial trivial trivial trivial trivial trivial trivial ?_
                exact WC.loop rfl hih'
              | true =>
                rw [if_pos rfl] at hR
                cases hR
                conv => arg 3; simp only [mkT, putT, List.reduceReplicate, List.set]
                refine EVgo9 (And.intro (hlt) ( And.intro (hw) ( And.intro (eK) (hpd)))) (h17) (h10) (h29) trivial trivial trivial trivial trivial trivial trivial trivial ?_
                first | refine WO.step (k_store_row rfl rfl rfl rfl (by rw [lenB]; omega) rfl) ?_ | refine WOc.step (k_store_row rfl rfl rfl rfl (by rw [lenB]; omega) rfl) ?_
                conv => arg 2; simp only [setOpt, List.set, Nat.reduceLT, Int.reduceToNat, List.drop_drop, valT, List.getD_cons_zero, List.getD_cons_succ, Int.reduceLT, Int.reduceLE, Int.reduceAdd, Int.reduceSub, Int.reduceMul, Int.reduceNeg, Int.reduceEq, Int.reduceNe, Int.cast_ofNat_Int, Int.natCast_zero, Int.natCast_one, ge_iff_le, gt_iff_lt, decide_true, decide_false, Bool.not_true, Bool.not_false, Int.toNat_natCast, Nat.sub_zero, Nat.mul_one, Option.isSome_some, Option.isSome_none, Bool.false_eq_true, Bool.and_true, Bool.true_and, Bool.and_false, Bool.false_and, Nat.zero_add, Nat.zero_mul, List.drop_zero, reduceIte, setRange, PV.cells, fillB, List.take, List.drop, List.append_eq, List.cons_append, List.nil_append, List.length, List.map, List.zip, List.zipWith, List.replicate, List.flatten, Nat.reduceAdd, Nat.reduceMul, Nat.reduceSub, PV.mapId, mapIds, Option.map, Blk.mapId, sigN, sigS, hsB]
                try conv => arg 3; simp only [Nat.reduceLT, List.reduceReplicate, List.flatten_cons, List.flatten_nil, List.append_nil, Nat.reduceMul, Nat.mul_one, Nat.one_mul, Nat.zero_mul, Nat.zero_add, List.drop_zero, List.drop_succ_cons, List.drop_nil, List.take_succ_cons, List.take_zero, List.take_nil, List.drop_drop, setRange, PV.cells, valT, List.getD_cons_zero, List.getD_cons_succ, List.take, List.length, Nat.reduceAdd, List.nil_append, applyU, hset, hdel, Nat.reduceEqDiff, reduceIte, List.append_eq, List.cons_append, List.nil_append, frz, rowsOf, updsNew, updsAt, sigN, sigS, PV.mapId, mapIds, Option.map, Blk.mapId, List.drop, heapOf, hsB]
                conv => arg 5; simp only [stride, Nat.reduceAdd]
                refine EVgo9 (hw) (hrec) trivial trivial trivial trivial trivial trivial trivial trivial trivial trivial ?_
                exact WQ.ret rfl
    | cons x r ih2 =>
      intro p b hp hb
      obtain ⟨a, b1, c, e, f, g, t⟩ := x
      have hlen : l.length = p.length + (r.length + 1) := by rw [← hp]; simp
      have hpl : p.length < l.length := by omega
      have hlt : (p.length : Int) < (l.length : Int) := by omega
      have hpd : (p.length : Int) < (d.length : Int) := by rw [hin.len]; exact hlt
      have hw : IntKind.i64.wrap ((p.length : Int) + 1) = ((p.length + 1 : Nat) : Int) := by rw [i64_in _ (by omega)]; simp
      have eK := mid_T hp
      have eB := at_B (l := d) (i := p.length) (by rw [hin.len]; exact hpl)
      have h24 := s24 hcf (a, b1, c, e, f, g, t)
      have hih := fun b => ih2 (p ++ [(a, b1, c, e, f, g, t)]) b (by rw [List.append_assoc]; exact hp)
      rw [snoc_len] at hih
      have hq0 : d.getD p.length false = isB d p.length := rfl
      rw [hq0] at eB
      simp only [encT] at h24
      rw [leftL] at hb
      cases b with
      | true =>
        have hih' := hih true (by rw [← hb]; rfl)
        conv => arg 3; simp only [mkT, putT, List.reduceReplicate, List.set]
        refine EVgo9 (And.intro (hlt) ( And.intro (hw) ( And.intro (eK) ( And.intro (hpd) (eB))))) trivial trivial trivial trivial trivial trivial trivial trivial trivial trivial trivial ?_
        exact WC.loop rfl hih'
      | false =>
        cases hq : isB d p.length with
        | true =>
          rw [hq] at eB hb
          have hih' := hih false (by rw [← hb]; rfl)
          conv => arg 3; simp only [mkT, putT, List.reduceReplicate, List.set]
          refine EVgo9 (And.intro (hlt) ( And.intro (hw) ( And.intro (eK) ( And.intro (hpd) (eB))))) trivial trivial trivial trivial trivial trivial trivial trivial trivial trivial trivial ?_
          exact WC.loop rfl hih'
        | false =>
          rw [hq] at eB hb
          cases hE : endT (a, b1, c, e, f, g, t) with
          | false =>
            rw [hE] at h24 hb
            have hih' := hih false (by rw [← hb]; rfl)
            conv => arg 3; simp only [mkT, putT, List.reduceReplicate, List.set]
            refine EVgo9 (And.intro (hlt) ( And.intro (hw) ( And.intro (eK) ( And.intro (hpd) (eB))))) (h24) trivial trivial trivial trivial trivial trivial trivial trivial trivial trivial ?_
            exact WC.loop rfl hih'
          | true =>
            rw [hE] at h24 hb
            have hih' := hih true (by rw [← hb]; rfl)
            conv => arg 3; simp only [mkT, putT, List.reduceReplicate, List.set]
            refine EVgo9 (And.intro (hlt) ( And.intro (hw) ( And.intro (eK) ( And.intro (hpd) (eB))))) (h24) trivial trivial trivial trivial trivial trivial trivial trivial trivial trivial ?_
            exact WC.loop rfl hih'
end
end Go.Proofs.YtipnedhclbopdaaDoorR
