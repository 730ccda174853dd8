/- Evf08YC: a part of the proof. -/
import Derived.Test.YtcphpiboamlanaaEvf08X0
import Derived.Test.YtcphpiboamlanaaEvf08Q
open Go Go.Proofs.YtcphpiboamlanaaEv Go.Proofs.YtcphpiboamlanaaR Go.IntWalk
set_option maxRecDepth 20000
set_option maxHeartbeats 16000000
set_option linter.unusedVariables false
set_option linter.unusedSimpArgs false
namespace Go.Proofs.YtcphpiboamlanaaR
def encI (x : Int) : List PV := [.int .i64 x]
def slI (l : List Int) : PV := .sl l.length false (flat encI l)
theorem mid_I {m p r : List Int} {x : Int} (h : p ++ x :: r = m) : (flat encI m).drop p.length = .int .i64 x :: flat encI r := by
  subst h
  have := flat_drop (enc := encI) (es := 1) (fun _ => rfl) (p ++ x :: r) p.length
  rw [Nat.mul_one] at this
  rw [this, List.drop_left]
  rfl
theorem snoc_lenI (p : List Int) (x : Int) : (p ++ [x]).length = p.length + 1 := by simp
def andI (a b : Int) : Int := IntKind.i64.wrap ((BitVec.ofInt 64 a &&& BitVec.ofInt 64 b).toNat : Int)
theorem andI_le (a : Int) (b : Nat) (hb : b < 1000) : ∃ k : Nat, andI a b = k ∧ k ≤ b := by
  refine ⟨(BitVec.ofInt 64 a &&& BitVec.ofInt 64 b).toNat, ?_, ?_⟩
  · have h : (BitVec.ofInt 64 a &&& BitVec.ofInt 64 (b : Int)).toNat ≤ b := by
      rw [BitVec.toNat_and, BitVec.ofInt_natCast, BitVec.toNat_ofNat, Nat.mod_eq_of_lt (by omega)]
      exact Nat.and_le_right
    unfold andI
    rw [i64_in _ (by omega)]
  · rw [BitVec.toNat_and, BitVec.ofInt_natCast, BitVec.toNat_ofNat, Nat.mod_eq_of_lt (by omega)]
    exact Nat.and_le_right
/-- a build's three slices, as they lie in a cell -/
def Box3 {α : Type} (p : List α) (b : Bd) (v1 v2 v3 : PV) : Prop := (v1 = .sl b.c.length false (flat encP b.c) ∧ v2 = .sl b.m.length false (flat encP b.m) ∧ v3 = .sl b.o.length false (flat encP b.o)) ∨ (p = [] ∧ b = emp ∧ v1 = .nil ∧ v2 = .nil ∧ v3 = .nil)
def kOf (x : Int) : Nat := (andI x 255).toNat % 6
theorem kOf_lt (x : Int) : kOf x < 6 := Nat.mod_lt _ (by decide)
theorem rem6 (x : Int) : (andI x 255).tmod 6 = ((kOf x : Nat) : Int) := by
  obtain ⟨k, hk, hk2⟩ := andI_le x 255 (by decide)
  have hk' : andI x 255 = (k : Int) := hk
  unfold kOf
  rw [hk', Int.toNat_natCast]
  exact (Int.ofNat_tmod k 6).symm
def segs (l : List Int) : List Int := l.flatMap fun x => segL.getD (kOf x) []
theorem segs_snoc (p : List Int) (x : Int) : segs (p ++ [x]) = segs p ++ segL.getD (kOf x) [] := by unfold segs; rw [List.flatMap_append]; simp
def firstRow : List PV := [.str ⟨#[105, 102]⟩, .str ⟨#[98, 101, 103, 105, 110]⟩, .str ⟨#[100, 111]⟩, .str ⟨#[63, 100, 111]⟩, .str ⟨#[98, 101, 103, 105, 110]⟩, .str ⟨#[105, 102]⟩]
theorem k_first {cf : CF} {new : Nat} {T : List PV} {H : Heap} : EK cf (.bslice 1 6 [.str ⟨#[]⟩] [(0, (X.c (.str ⟨#[105, 102]⟩))), (1, (X.c (.str ⟨#[98, 101, 103, 105, 110]⟩))), (2, (X.c (.str ⟨#[100, 111]⟩))), (3, (X.c (.str ⟨#[63, 100, 111]⟩))), (4, (X.c (.str ⟨#[98, 101, 103, 105, 110]⟩))), (5, (X.c (.str ⟨#[105, 102]⟩)))]) new T H (.own new 1 0 6) [(new, some (.row firstRow))] :=
  k_bslice_row (vs := firstRow) rfl (by decide) rfl rfl
theorem first_at {k : Nat} (h : k < 6) : (firstRow.drop k).take 1 = [.str (strAt firstL k)] := by
  match k, h with
  | 0, _ => rfl
  | 1, _ => rfl
  | 2, _ => rfl
  | 3, _ => rfl
  | 4, _ => rfl
  | 5, _ => rfl
theorem first_size {k : Nat} (h : k < 6) : (strAt firstL k).size ≤ 1000000 := by
  match k, h with
  | 0, _ => exact (by decide)
  | 1, _ => exact (by decide)
  | 2, _ => exact (by decide)
  | 3, _ => exact (by decide)
  | 4, _ => exact (by decide)
  | 5, _ => exact (by decide)
def midRow : List PV := [.str ⟨#[101, 108, 115, 101]⟩, .str ⟨#[]⟩, .str ⟨#[108, 101, 97, 118, 101]⟩, .str ⟨#[]⟩, .str ⟨#[119, 104, 105, 108, 101]⟩, .str ⟨#[]⟩]
theorem k_mid {cf : CF} {new : Nat} {T : List PV} {H : Heap} : EK cf (.bslice 1 6 [.str ⟨#[]⟩] [(0, (X.c (.str ⟨#[101, 108, 115, 101]⟩))), (1, (X.c (.str ⟨#[]⟩))), (2, (X.c (.str ⟨#[108, 101, 97, 118, 101]⟩))), (3, (X.c (.str ⟨#[]⟩))), (4, (X.c (.str ⟨#[119, 104, 105, 108, 101]⟩))), (5, (X.c (.str ⟨#[]⟩)))]) new T H (.own new 1 0 6) [(new, some (.row midRow))] :=
  k_bslice_row (vs := midRow) rfl (by decide) rfl rfl
theorem mid_at {k : Nat} (h : k < 6) : (midRow.drop k).take 1 = [.str (strAt midL k)] := by
  match k, h with
  | 0, _ => rfl
  | 1, _ => rfl
  | 2, _ => rfl
  | 3, _ => rfl
  | 4, _ => rfl
  | 5, _ => rfl
theorem mid_size {k : Nat} (h : k < 6) : (strAt midL k).size ≤ 1000000 := by
  match k, h with
  | 0, _ => exact (by decide)
  | 1, _ => exact (by decide)
  | 2, _ => exact (by decide)
  | 3, _ => exact (by decide)
  | 4, _ => exact (by decide)
  | 5, _ => exact (by decide)
def lastRow : List PV := [.str ⟨#[116, 104, 101, 110]⟩, .str ⟨#[117, 110, 116, 105, 108]⟩, .str ⟨#[108, 111, 111, 112]⟩, .str ⟨#[43, 108, 111, 111, 112]⟩, .str ⟨#[114, 101, 112, 101, 97, 116]⟩, .str ⟨#[116, 104, 101, 110]⟩]
theorem k_last {cf : CF} {new : Nat} {T : List PV} {H : Heap} : EK cf (.bslice 1 6 [.str ⟨#[]⟩] [(0, (X.c (.str ⟨#[116, 104, 101, 110]⟩))), (1, (X.c (.str ⟨#[117, 110, 116, 105, 108]⟩))), (2, (X.c (.str ⟨#[108, 111, 111, 112]⟩))), (3, (X.c (.str ⟨#[43, 108, 111, 111, 112]⟩))), (4, (X.c (.str ⟨#[114, 101, 112, 101, 97, 116]⟩))), (5, (X.c (.str ⟨#[116, 104, 101, 110]⟩)))]) new T H (.own new 1 0 6) [(new, some (.row lastRow))] :=
  k_bslice_row (vs := lastRow) rfl (by decide) rfl rfl
theorem last_at {k : Nat} (h : k < 6) : (lastRow.drop k).take 1 = [.str (strAt lastL k)] := by
  match k, h with
  | 0, _ => rfl
  | 1, _ => rfl
  | 2, _ => rfl
  | 3, _ => rfl
  | 4, _ => rfl
  | 5, _ => rfl
theorem last_size {k : Nat} (h : k < 6) : (strAt lastL k).size ≤ 1000000 := by
  match k, h with
  | 0, _ => exact (by decide)
  | 1, _ => exact (by decide)
  | 2, _ => exact (by decide)
  | 3, _ => exact (by decide)
  | 4, _ => exact (by decide)
  | 5, _ => exact (by decide)
section
variable {cf : CF} (hcf : cf = ev env)
include hcf
theorem s3 (l : List Int) : Sp cf 3 [slI l] (.bool true) := by
  have h9 := s9 hcf
  refine sp_of hcf env3 ?_
  by_cases hl : l.length ≤ 20
  · have hl' : ¬ (l.length : Int) > 20 := by omega
    have f1 : ∀ a b : Int, IntKind.i64.wrap ((BitVec.ofInt IntKind.i64.bits a &&& BitVec.ofInt IntKind.i64.bits b).toNat : Int) = andI a b := fun _ _ => rfl
    simp only [slI]
    conv => arg 2; simp only [ir3]
    conv => arg 3; simp only [ir3, Go.Proofs.YtcphpiboamlanaaEv.start, List.length, Nat.reduceAdd, Nat.reduceSub, List.reduceReplicate, List.append_eq, List.cons_append, List.nil_append]
    conv => arg 4; simp only [heapOf]
    try conv => arg 5; simp only [List.length, Nat.reduceAdd]
    try conv => arg 6; simp only [List.length, Nat.reduceAdd]
    refine EVgo9 (hl') (h9) trivial trivial trivial trivial trivial trivial trivial trivial (@k_first cf) (@k_mid cf) ?_
    refine WC.loop (T' := _) (H' := _) (n' := _) rfl ((?_ : ∀ (r p : List Int) (b : Bd) (v1 v2 v3 : PV), p ++ r = l → InvB b (4 * p.length) (segs p) → Box3 p b v1 v2 v3 →
      WC cf _ (mkT 126 [(0, .sl l.length false (flat encI l)), (3, .bool true), (4, .own 0 1 0 6), (5, .own 1 1 0 6), (6, .own 2 1 0 6), (7, .ptr 3 0), (8, .int .i64 (p.length : Nat))]) [(0, .row firstRow), (1, .row midRow), (2, .row lastRow), (3, .box [v1, v2, v3])] 0 4 _) l [] emp .nil .nil .nil rfl inv_emp (.inr ⟨rfl, rfl, rfl, rfl, rfl⟩))
    intro r
    induction r with
    | nil =>
      intro p b v1 v2 v3 hp hb hv
      rw [List.append_nil] at hp
      subst hp
      rcases hv with ⟨rfl, rfl, rfl⟩ | ⟨rfl, rfl, rfl, rfl, rfl⟩
      · have w0 : IntKind.i64.wrap ((p.length : Int) - 1) = (p.length : Int) - 1 := i64_in _ (by omega)
        conv => arg 3; simp only [mkT, putT, List.reduceReplicate, List.set]
        refine EVgl9 trivial trivial trivial trivial trivial trivial trivial trivial trivial trivial trivial trivial ?_
        refine EVgo9 (w0) trivial trivial trivial trivial trivial trivial trivial trivial trivial trivial trivial ?_
        refine WC.loop (T' := _) (H' := _) (n' := _) rfl ((?_ : ∀ (k : Nat) (q r : List Int) (b : Bd) (j : Int), q.length = k → q ++ r = p → j = (k : Int) - 1 → InvB b (80 + 2 * r.length) (segs q) →
          WC cf _ (mkT 126 [(0, .sl p.length false (flat encI p)), (3, .bool true), (6, .own 0 1 0 6), (7, .ptr 1 0), (16, .int .i64 j)]) [(0, .row lastRow), (1, .box [.sl b.c.length false (flat encP b.c), .sl b.m.length false (flat encP b.m), .sl b.o.length false (flat encP b.o)])] 0 2 _) p.length p [] b _ rfl (List.append_nil _) rfl (hb.up (by simp; omega)))
        intro k
        induction k with
        | zero =>
          intro q r b j hq hqr hj hb
          obtain rfl : q = [] := List.length_eq_zero_iff.1 hq
          have hr : r.length ≤ 20 := by rw [List.nil_append] at hqr; rw [hqr]; exact hl
          have hj' : ¬ (j ≥ 0) := by omega
          obtain ⟨he, hwh⟩ := end_ok hb (by omega)
          have h11 := s11 hcf b (hb.few (by omega))
          have hlen : (b.c ++ [((4 : Int), (0 : Int))]).length ≤ 1000000 := by have := hb.ln; rw [snoc_len]; omega
          have h12 := s12 hcf (b.c ++ [(4, 0)]) hlen
          rw [he] at h11
          rw [hwh] at h12
          generalize b.c ++ [((4 : Int), (0 : Int))] = z at *
          simp only [encEnd, bE, slP] at h11 h12
          conv => arg 3; simp only [mkT, putT, List.reduceReplicate, List.set]
          refine EVgo9 (hj') trivial trivial trivial trivial trivial trivial trivial trivial trivial trivial trivial ?_
          refine EVgo9 trivial (h11) (h12) trivial trivial trivial trivial trivial trivial trivial trivial trivial ?_
          exact EVret trivial
        | succ k ih =>
          intro q r b j hq hqr hj hb
          obtain ⟨q', x, rfl⟩ : ∃ q' x, q = q' ++ [x] := by
            refine ⟨q.dropLast, q.getLast (by intro h; rw [h] at hq; cases hq), (List.dropLast_concat_getLast _).symm⟩
          have hq' : q'.length = k := by rw [snoc_lenI] at hq; omega
          obtain rfl : j = (k : Int) := by omega
          have hlen : p.length = k + 1 + r.length := by rw [← hqr, List.length_append, hq]
          have hk0 : ((k : Int) ≥ 0) := by omega
          have hlt : ((k : Int) < (p.length : Int)) := by omega
          have hw : IntKind.i64.wrap ((k : Int) - 1) = (k : Int) - 1 := i64_in _ (by omega)
          have e0 := mid_I (m := p) (p := q') (r := r) (x := x) (by rw [← hqr, List.append_assoc]; rfl)
          rw [hq'] at e0
          have e6 := rem6 x
          have hx := kOf_lt x
          rw [segs_snoc] at hb
          obtain ⟨c, hw1, he, hc⟩ := down_ok hx hb (by omega)
          have h10 := s10 hcf b (strAt lastL (kOf x)) (hb.few (by omega)) (last_size hx)
          have h11 := s11 hcf b (hb.few (by omega))
          rw [hw1] at h10
          rw [he, show encEnd ([], -22) = .tup [.sl 0 false [], .int .i64 (-22)] from rfl] at h11
          have hr := last_at hx
          have hih := ih q' (x :: r) c _ hq' (by rw [← hqr, List.append_assoc]; rfl) rfl (hc.up (by rw [List.length_cons]; omega))
          generalize kOf x = n at *
          generalize strAt lastL n = ss at *
          have hn0 : ((n : Int) < 6) := by omega
          simp only [encWord, bE, slP] at h10 h11
          conv => arg 3; simp only [mkT, putT, List.reduceReplicate, List.set]
          refine EVgo9 (And.intro (hk0) ( And.intro (hlt) ( And.intro (e0) ( And.intro (f1) (e6))))) trivial trivial trivial trivial trivial trivial trivial trivial trivial trivial trivial ?_
          refine EVgo9 (hn0) (h11) trivial trivial trivial trivial trivial trivial trivial trivial trivial trivial ?_
          first | refine WO.step (k_load1 rfl rfl hr) ?_ | refine WOc.step (k_load1 rfl rfl hr) ?_
          conv => arg 2; simp only [setOpt, List.set, Nat.reduceLT, Int.reduceToNat, List.drop_drop, valT, List.getD_cons_zero, List.getD_cons_succ, Int.reduceLT, Int.reduceLE, Int.reduceAdd, Int.reduceSub, Int.reduceMul, Int.reduceNeg, Int.reduceEq, Int.reduceNe, Int.cast_ofNat_Int, Int.natCast_zero, Int.natCast_one, ge_iff_le, gt_iff_lt, decide_true, decide_false, Bool.not_true, Bool.not_false, Int.toNat_natCast, Nat.sub_zero, Nat.mul_one, Option.isSome_some, Option.isSome_none, Bool.false_eq_true, Bool.and_true, Bool.true_and, Bool.and_false, Bool.false_and, Nat.zero_add, Nat.zero_mul, List.drop_zero, reduceIte, setRange, PV.cells, fillB, List.take, List.drop, List.append_eq, List.cons_append, List.nil_append, List.length, List.map, List.zip, List.zipWith, List.replicate, List.flatten, Nat.reduceAdd, Nat.reduceMul, Nat.reduceSub, PV.mapId, mapIds, Option.map, Blk.mapId, sigN, sigS, hn0]
          try conv => arg 3; simp only [Nat.reduceLT, List.reduceReplicate, List.flatten_cons, List.flatten_nil, List.append_nil, Nat.reduceMul, Nat.mul_one, Nat.one_mul, Nat.zero_mul, Nat.zero_add, List.drop_zero, List.drop_succ_cons, List.drop_nil, List.take_succ_cons, List.take_zero, List.take_nil, List.drop_drop, setRange, PV.cells, valT, List.getD_cons_zero, List.getD_cons_succ, List.take, List.length, Nat.reduceAdd, List.nil_append, applyU, hset, hdel, Nat.reduceEqDiff, reduceIte, List.append_eq, List.cons_append, List.nil_append, frz, rowsOf, updsNew, updsAt, sigN, sigS, PV.mapId, mapIds, Option.map, Blk.mapId, List.drop, heapOf, hn0]
          conv => arg 5; simp only [stride, Nat.reduceAdd]
          refine EVgo9 (hw) (h10) trivial trivial trivial trivial trivial trivial trivial trivial trivial trivial ?_
          exact WC.loop rfl hih
      · obtain ⟨he, hwh⟩ := end_ok hb (by decide)
        have h11 := s11 hcf emp (hb.few (by decide))
        have h12 := s12 hcf (emp.c ++ [(4, 0)]) (by decide)
        rw [he] at h11
        rw [hwh] at h12
        simp only [encEnd, bE, slP, emp, List.nil_append] at h11 h12
        conv => arg 3; simp only [mkT, putT, List.reduceReplicate, List.set]
        refine EVgl9 trivial trivial trivial trivial trivial trivial trivial trivial trivial trivial trivial trivial ?_
        refine EVgl9 trivial trivial trivial trivial trivial trivial trivial trivial trivial trivial trivial trivial ?_
        refine WC.loop (T' := _) (H' := _) (n' := _) rfl ?_
        conv => arg 3; simp only [mkT, putT, List.reduceReplicate, List.set]
        refine EVgo9 trivial trivial trivial trivial trivial trivial trivial trivial trivial trivial trivial trivial ?_
        refine EVgo9 trivial (h11) (h12) trivial trivial trivial trivial trivial trivial trivial trivial trivial ?_
        exact EVret trivial
    | cons x r ih =>
      intro p b v1 v2 v3 hp hb hv
      have hlen : l.length = p.length + (r.length + 1) := by rw [← hp]; simp
      have hlt : (p.length : Int) < (l.length : Int) := by omega
      have hw : IntKind.i64.wrap ((p.length : Int) + 1) = ((p.length + 1 : Nat) : Int) := by rw [i64_in _ (by omega)]; simp
      have e0 := mid_I hp
      have e6 := rem6 x
      have hx := kOf_lt x
      obtain ⟨c, d, t, hw1, hw2, hfc, hd⟩ := up_ok hx hb (by omega)
      have h10a := s10 hcf b (strAt firstL (kOf x)) (hb.few (by omega)) (first_size hx)
      have h10b := s10 hcf c (strAt midL (kOf x)) hfc (mid_size hx)
      rw [hw1] at h10a
      rw [hw2] at h10b
      have hr := first_at hx
      have hr2 := mid_at hx
      have hih := ih (p ++ [x]) d _ _ _ (by rw [List.append_assoc]; exact hp) (by rw [segs_snoc, snoc_lenI]; exact hd.up (by omega)) (.inl ⟨rfl, rfl, rfl⟩)
      rw [snoc_lenI] at hih
      generalize kOf x = n at *
      generalize strAt firstL n = s1 at *
      generalize strAt midL n = s2 at *
      have hn0 : ((n : Int) < 6) := by omega
      simp only [encWord, bE, slP] at h10a h10b
      rcases hv with ⟨rfl, rfl, rfl⟩ | ⟨rfl, rfl, rfl, rfl, rfl⟩
      · conv => arg 3; simp only [mkT, putT, List.reduceReplicate, List.set]
        refine EVgo9 (And.intro (hlt) ( And.intro (e0) ( And.intro (f1) (e6)))) trivial trivial trivial trivial trivial trivial trivial trivial trivial trivial trivial ?_
        refine EVgo9 (hn0) trivial trivial trivial trivial trivial trivial trivial trivial trivial trivial trivial ?_
        first | refine WO.step (k_load1 rfl rfl hr) ?_ | refine WOc.step (k_load1 rfl rfl hr) ?_
        conv => arg 2; simp only [setOpt, List.set, Nat.reduceLT, Int.reduceToNat, List.drop_drop, valT, List.getD_cons_zero, List.getD_cons_succ, Int.reduceLT, Int.reduceLE, Int.reduceAdd, Int.reduceSub, Int.reduceMul, Int.reduceNeg, Int.reduceEq, Int.reduceNe, Int.cast_ofNat_Int, Int.natCast_zero, Int.natCast_one, ge_iff_le, gt_iff_lt, decide_true, decide_false, Bool.not_true, Bool.not_false, Int.toNat_natCast, Nat.sub_zero, Nat.mul_one, Option.isSome_some, Option.isSome_none, Bool.false_eq_true, Bool.and_true, Bool.true_and, Bool.and_false, Bool.false_and, Nat.zero_add, Nat.zero_mul, List.drop_zero, reduceIte, setRange, PV.cells, fillB, List.take, List.drop, List.append_eq, List.cons_append, List.nil_append, List.length, List.map, List.zip, List.zipWith, List.replicate, List.flatten, Nat.reduceAdd, Nat.reduceMul, Nat.reduceSub, PV.mapId, mapIds, Option.map, Blk.mapId, sigN, sigS, hn0]
        try conv => arg 3; simp only [Nat.reduceLT, List.reduceReplicate, List.flatten_cons, List.flatten_nil, List.append_nil, Nat.reduceMul, Nat.mul_one, Nat.one_mul, Nat.zero_mul, Nat.zero_add, List.drop_zero, List.drop_succ_cons, List.drop_nil, List.take_succ_cons, List.take_zero, List.take_nil, List.drop_drop, setRange, PV.cells, valT, List.getD_cons_zero, List.getD_cons_succ, List.take, List.length, Nat.reduceAdd, List.nil_append, applyU, hset, hdel, Nat.reduceEqDiff, reduceIte, List.append_eq, List.cons_append, List.nil_append, frz, rowsOf, updsNew, updsAt, sigN, sigS, PV.mapId, mapIds, Option.map, Blk.mapId, List.drop, heapOf, hn0]
        conv => arg 5; simp only [stride, Nat.reduceAdd]
        refine EVgo9 (hn0) (h10a) trivial trivial trivial trivial trivial trivial trivial trivial trivial trivial ?_
        first | refine WO.step (k_load1 rfl rfl hr2) ?_ | refine WOc.step (k_load1 rfl rfl hr2) ?_
        conv => arg 2; simp only [setOpt, List.set, Nat.reduceLT, Int.reduceToNat, List.drop_drop, valT, List.getD_cons_zero, List.getD_cons_succ, Int.reduceLT, Int.reduceLE, Int.reduceAdd, Int.reduceSub, Int.reduceMul, Int.reduceNeg, Int.reduceEq, Int.reduceNe, Int.cast_ofNat_Int, Int.natCast_zero, Int.natCast_one, ge_iff_le, gt_iff_lt, decide_true, decide_false, Bool.not_true, Bool.not_false, Int.toNat_natCast, Nat.sub_zero, Nat.mul_one, Option.isSome_some, Option.isSome_none, Bool.false_eq_true, Bool.and_true, Bool.true_and, Bool.and_false, Bool.false_and, Nat.zero_add, Nat.zero_mul, List.drop_zero, reduceIte, setRange, PV.cells, fillB, List.take, List.drop, List.append_eq, List.cons_append, List.nil_append, List.length, List.map, List.zip, List.zipWith, List.replicate, List.flatten, Nat.reduceAdd, Nat.reduceMul, Nat.reduceSub, PV.mapId, mapIds, Option.map, Blk.mapId, sigN, sigS, hn0]
        try conv => arg 3; simp only [Nat.reduceLT, List.reduceReplicate, List.flatten_cons, List.flatten_nil, List.append_nil, Nat.reduceMul, Nat.mul_one, Nat.one_mul, Nat.zero_mul, Nat.zero_add, List.drop_zero, List.drop_succ_cons, List.drop_nil, List.take_succ_cons, List.take_zero, List.take_nil, List.drop_drop, setRange, PV.cells, valT, List.getD_cons_zero, List.getD_cons_succ, List.take, List.length, Nat.reduceAdd, List.nil_append, applyU, hset, hdel, Nat.reduceEqDiff, reduceIte, List.append_eq, List.cons_append, List.nil_append, frz, rowsOf, updsNew, updsAt, sigN, sigS, PV.mapId, mapIds, Option.map, Blk.mapId, List.drop, heapOf, hn0]
        conv => arg 5; simp only [stride, Nat.reduceAdd]
        refine EVgo9 (hw) (h10b) trivial trivial trivial trivial trivial trivial trivial trivial trivial trivial ?_
        exact WC.loop rfl hih
      · have e0' : flat encI l = .int .i64 x :: flat encI r := by simpa using e0
        have hw0 : IntKind.i64.wrap (1 : Int) = 1 := by decide
        have hlt0 : (0 : Int) < (l.length : Int) := by omega
        conv => arg 3; simp only [mkT, putT, List.reduceReplicate, List.set]
        refine EVgo9 (And.intro (hlt0) ( And.intro (e0') ( And.intro (f1) (e6)))) trivial trivial trivial trivial trivial trivial trivial trivial trivial trivial trivial ?_
        refine EVgo9 (hn0) trivial trivial trivial trivial trivial trivial trivial trivial trivial trivial trivial ?_
        first | refine WO.step (k_load1 rfl rfl hr) ?_ | refine WOc.step (k_load1 rfl rfl hr) ?_
        conv => arg 2; simp only [setOpt, List.set, Nat.reduceLT, Int.reduceToNat, List.drop_drop, valT, List.getD_cons_zero, List.getD_cons_succ, Int.reduceLT, Int.reduceLE, Int.reduceAdd, Int.reduceSub, Int.reduceMul, Int.reduceNeg, Int.reduceEq, Int.reduceNe, Int.cast_ofNat_Int, Int.natCast_zero, Int.natCast_one, ge_iff_le, gt_iff_lt, decide_true, decide_false, Bool.not_true, Bool.not_false, Int.toNat_natCast, Nat.sub_zero, Nat.mul_one, Option.isSome_some, Option.isSome_none, Bool.false_eq_true, Bool.and_true, Bool.true_and, Bool.and_false, Bool.false_and, Nat.zero_add, Nat.zero_mul, List.drop_zero, reduceIte, setRange, PV.cells, fillB, List.take, List.drop, List.append_eq, List.cons_append, List.nil_append, List.length, List.map, List.zip, List.zipWith, List.replicate, List.flatten, Nat.reduceAdd, Nat.reduceMul, Nat.reduceSub, PV.mapId, mapIds, Option.map, Blk.mapId, sigN, sigS, hn0]
        try conv => arg 3; simp only [Nat.reduceLT, List.reduceReplicate, List.flatten_cons, List.flatten_nil, List.append_nil, Nat.reduceMul, Nat.mul_one, Nat.one_mul, Nat.zero_mul, Nat.zero_add, List.drop_zero, List.drop_succ_cons, List.drop_nil, List.take_succ_cons, List.take_zero, List.take_nil, List.drop_drop, setRange, PV.cells, valT, List.getD_cons_zero, List.getD_cons_succ, List.take, List.length, Nat.reduceAdd, List.nil_append, applyU, hset, hdel, Nat.reduceEqDiff, reduceIte, List.append_eq, List.cons_append, List.nil_append, frz, rowsOf, updsNew, updsAt, sigN, sigS, PV.mapId, mapIds, Option.map, Blk.mapId, List.drop, heapOf, hn0]
        conv => arg 5; simp only [stride, Nat.reduceAdd]
        refine EVgo9 (hn0) (h10a) trivial trivial trivial trivial trivial trivial trivial trivial trivial trivial ?_
        first | refine WO.step (k_load1 rfl rfl hr2) ?_ | refine WOc.step (k_load1 rfl rfl hr2) ?_
        conv => arg 2; simp only [setOpt, List.set, Nat.reduceLT, Int.reduceToNat, List.drop_drop, valT, List.getD_cons_zero, List.getD_cons_succ, Int.reduceLT, Int.reduceLE, Int.reduceAdd, Int.reduceSub, Int.reduceMul, Int.reduceNeg, Int.reduceEq, Int.reduceNe, Int.cast_ofNat_Int, Int.natCast_zero, Int.natCast_one, ge_iff_le, gt_iff_lt, decide_true, decide_false, Bool.not_true, Bool.not_false, Int.toNat_natCast, Nat.sub_zero, Nat.mul_one, Option.isSome_some, Option.isSome_none, Bool.false_eq_true, Bool.and_true, Bool.true_and, Bool.and_false, Bool.false_and, Nat.zero_add, Nat.zero_mul, List.drop_zero, reduceIte, setRange, PV.cells, fillB, List.take, List.drop, List.append_eq, List.cons_append, List.nil_append, List.length, List.map, List.zip, List.zipWith, List.replicate, List.flatten, Nat.reduceAdd, Nat.reduceMul, Nat.reduceSub, PV.mapId, mapIds, Option.map, Blk.mapId, sigN, sigS, hn0]
        try conv => arg 3; simp only [Nat.reduceLT, List.reduceReplicate, List.flatten_cons, List.flatten_nil, List.append_nil, Nat.reduceMul, Nat.mul_one, Nat.one_mul, Nat.zero_mul, Nat.zero_add, List.drop_zero, List.drop_succ_cons, List.drop_nil, List.take_succ_cons, List.take_zero, List.take_nil, List.drop_drop, setRange, PV.cells, valT, List.getD_cons_zero, List.getD_cons_succ, List.take, List.length, Nat.reduceAdd, List.nil_append, applyU, hset, hdel, Nat.reduceEqDiff, reduceIte, List.append_eq, List.cons_append, List.nil_append, frz, rowsOf, updsNew, updsAt, sigN, sigS, PV.mapId, mapIds, Option.map, Blk.mapId, List.drop, heapOf, hn0]
        conv => arg 5; simp only [stride, Nat.reduceAdd]
        refine EVgo9 (hw0) (h10b) trivial trivial trivial trivial trivial trivial trivial trivial trivial trivial ?_
        rw [← e0']
        exact WC.loop rfl hih
  · have hl' : (l.length : Int) > 20 := by omega
    simp only [slI]
    conv => arg 2; simp only [ir3]
    conv => arg 3; simp only [ir3, Go.Proofs.YtcphpiboamlanaaEv.start, List.length, Nat.reduceAdd, Nat.reduceSub, List.reduceReplicate, List.append_eq, List.cons_append, List.nil_append]
    conv => arg 4; simp only [heapOf]
    try conv => arg 5; simp only [List.length, Nat.reduceAdd]
    try conv => arg 6; simp only [List.length, Nat.reduceAdd]
    refine EVgo9 (hl') (h9) trivial trivial trivial trivial trivial trivial trivial trivial trivial trivial ?_
    exact EVret trivial
end
end Go.Proofs.YtcphpiboamlanaaR
