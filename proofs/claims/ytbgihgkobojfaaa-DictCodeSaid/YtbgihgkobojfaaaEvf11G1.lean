/- Evf11G1: a part of the proof. -/
import Derived.Test.YtbgihgkobojfaaaEvf11F1
open Go Go.Proofs.YtbgihgkobojfaaaEv Go.Proofs.YtbgihgkobojfaaaR Go.IntWalk Go.Proofs
set_option maxRecDepth 20000
set_option maxHeartbeats 8000000
set_option linter.unusedVariables false
set_option linter.unusedSimpArgs false
namespace Go.Proofs.YtbgihgkobojfaaaR
def sizedB (l : Bs) : Bool := !decide (l = []) && decide (l.length ≤ 31)
def ixE : Bs → Nat → Int
  | [], _ => -1
  | b :: r, k => if emptyP b = true then (k : Int) else ixE r (k + 1)
theorem ixE_any : ∀ (l : Bs) (k : Nat), decide (ixE l k ≥ 0) = l.any emptyP
  | [], k => rfl
  | b :: r, k => by
    rw [List.any_cons]
    show decide ((if emptyP b = true then (k : Int) else ixE r (k + 1)) ≥ 0) = _
    cases h : emptyP b with
    | true => rw [if_pos rfl, decide_eq_true (show (k : Int) ≥ 0 by omega), Bool.true_or]
    | false => rw [if_neg (by simp), ixE_any r (k + 1), Bool.false_or]
def namedB (l : Bs) : Bool := sizedB l && (decide (upL l = l) && !(l.any emptyP))
def bytesP (l : Bs) : List PV := l.map fun b => PV.int .u8 b.toNat
theorem mid_by {m p r : Bs} {b : UInt8} (h : p ++ b :: r = m) : (bytesP m).drop p.length = .int .u8 b.toNat :: bytesP r := by
  subst h
  unfold bytesP
  rw [List.map_append, List.drop_left' (by simp)]
  rfl
def addrV (t a : Int) : Int := if withinB t 1000000 = true ∧ withinB a 4095 = true then t * 4096 + a else -1
/-- a number's place -/
def atV (n : Int) : Int × Int × Bool := if n < 0 ∨ IntKind.i64.wrap (n.tdiv 4096) > 1000000 then (0, 0, false) else (IntKind.i64.wrap (n.tdiv 4096), n.tmod 4096, true)
def encA (x : Int × Int × Bool) : PV := .tup [.agg [.int .i64 x.1, .int .i64 x.2.1], .bool x.2.2]
theorem within_iff {n m : Int} : withinB n m = true ↔ 0 ≤ n ∧ n ≤ m := by unfold withinB; simp
theorem neB (u v : Bs) : ((⟨u.toArray⟩ : ByteArray).toList != (⟨v.toArray⟩ : ByteArray).toList) = !decide (u = v) := by
  show (!(_ == _)) = _
  rw [cmpB]
section
variable {cf : CF} (hcf : cf = ev env)
include hcf
theorem s39 (l : Bs) : Sp cf 39 [sB l] (.bool (sizedB l)) := by
  refine sp_of hcf env39 ?_
  unfold sizedB
  have q : ((⟨l.toArray⟩ : ByteArray).toList == (⟨#[]⟩ : ByteArray).toList) = decide (l = []) := cmpB l []
  simp only [sB]
  by_cases h : l = []
  · rw [decide_eq_true h] at q ⊢
    conv => arg 2; simp only [ir39]
    conv => arg 3; simp only [ir39, Go.Proofs.YtbgihgkobojfaaaEv.start, List.length, Nat.reduceAdd, Nat.reduceSub, List.reduceReplicate, List.append_eq, List.cons_append, List.nil_append]
    conv => arg 4; simp only [heapOf]
    try conv => arg 5; simp only [List.length, Nat.reduceAdd]
    try conv => arg 6; simp only [List.length, Nat.reduceAdd]
    refine EVgo9 (q) trivial trivial trivial trivial trivial trivial trivial trivial trivial trivial trivial ?_
    exact EVret trivial
  · rw [decide_eq_false h] at q ⊢
    by_cases h2 : l.length ≤ 31
    · have h2' : (l.length : Int) ≤ 31 := by omega
      rw [decide_eq_true h2]
      conv => arg 2; simp only [ir39]
      conv => arg 3; simp only [ir39, Go.Proofs.YtbgihgkobojfaaaEv.start, List.length, Nat.reduceAdd, Nat.reduceSub, List.reduceReplicate, List.append_eq, List.cons_append, List.nil_append]
      conv => arg 4; simp only [heapOf]
      try conv => arg 5; simp only [List.length, Nat.reduceAdd]
      try conv => arg 6; simp only [List.length, Nat.reduceAdd]
      refine EVgo9 (And.intro (q) ( And.intro (szB) (h2'))) trivial trivial trivial trivial trivial trivial trivial trivial trivial trivial trivial ?_
      exact EVret trivial
    · have h2' : ¬ (l.length : Int) ≤ 31 := by omega
      rw [decide_eq_false h2]
      conv => arg 2; simp only [ir39]
      conv => arg 3; simp only [ir39, Go.Proofs.YtbgihgkobojfaaaEv.start, List.length, Nat.reduceAdd, Nat.reduceSub, List.reduceReplicate, List.append_eq, List.cons_append, List.nil_append]
      conv => arg 4; simp only [heapOf]
      try conv => arg 5; simp only [List.length, Nat.reduceAdd]
      try conv => arg 6; simp only [List.length, Nat.reduceAdd]
      refine EVgo9 (And.intro (q) ( And.intro (szB) (h2'))) trivial trivial trivial trivial trivial trivial trivial trivial trivial trivial trivial ?_
      exact EVret trivial
theorem s48 (b : UInt8) : cf 48 [.int .u8 (b.toNat : Nat)] [] = some (.bool (emptyP b), []) := by
  refine ev_ofC' hcf env48 ?_
  have e : decide ((b.toNat : Int) ≤ 32) = emptyP b := by unfold emptyP; exact decide_eq_decide.2 (by omega)
  conv => arg 2; simp only [ir48]
  conv => arg 3; simp only [ir48, Go.Proofs.YtbgihgkobojfaaaEv.start, List.length, Nat.reduceAdd, Nat.reduceSub, List.reduceReplicate, List.append_eq, List.cons_append, List.nil_append]
  conv => arg 4; simp only [heapOf]
  try conv => arg 5; simp only [List.length, Nat.reduceAdd]
  try conv => arg 6; simp only [List.length, Nat.reduceAdd]
  refine EVgo9 (e) trivial trivial trivial trivial trivial trivial trivial trivial trivial trivial trivial ?_
  exact WQ.ret rfl
theorem s50 (l : Bs) (hl : l.length ≤ 1000000) : cf 50 [.sl l.length false (bytesP l), .fn 48 [] []] [] = some (.int .i64 (ixE l 0), []) := by
  refine ev_ofC' hcf env50 ?_
  conv => arg 2; simp only [ir50]
  conv => arg 3; simp only [ir50, Go.Proofs.YtbgihgkobojfaaaEv.start, List.length, Nat.reduceAdd, Nat.reduceSub, List.reduceReplicate, List.append_eq, List.cons_append, List.nil_append]
  conv => arg 4; simp only [heapOf]
  try conv => arg 5; simp only [List.length, Nat.reduceAdd]
  try conv => arg 6; simp only [List.length, Nat.reduceAdd]
  refine EVgo9 trivial trivial trivial trivial trivial trivial trivial trivial trivial trivial trivial trivial ?_
  refine WC.loop (T' := _) (H' := _) (n' := _) rfl ((?_ : ∀ (r p : Bs), p ++ r = l → ixE l 0 = ixE r p.length →
    WC cf _ (mkT 19 [(0, .sl l.length false (bytesP l)), (1, .fn 48 [] []), (7, .int .i64 (l.length : Nat)), (8, .int .i64 (p.length : Nat))]) [] 0 0 _) l [] rfl rfl)
  intro r
  induction r with
  | nil =>
    intro p hp hok
    rw [List.append_nil] at hp
    subst hp
    rw [hok]
    conv => arg 3; simp only [mkT, putT, List.reduceReplicate, List.set]
    refine EVgl9 trivial trivial trivial trivial trivial trivial trivial trivial trivial trivial trivial trivial ?_
    exact WQ.ret rfl
  | cons x r ih =>
    intro p hp hok
    have hlen : l.length = p.length + (r.length + 1) := by rw [← hp]; simp
    have hlt : (p.length : Int) < (l.length : Int) := by omega
    have hw : IntKind.i64.wrap ((p.length : Int) + 1) = ((p.length + 1 : Nat) : Int) := by rw [i64_in _ (by omega)]; simp
    have eK := mid_by hp
    have h48 := s48 hcf x
    have hih := ih (p ++ [x]) (by rw [List.append_assoc]; exact hp)
    rw [snoc_lenB] at hih
    have hok' : ixE l 0 = if emptyP x = true then (p.length : Int) else ixE r (p.length + 1) := hok
    cases hx : emptyP x with
    | true =>
      rw [hx, if_pos rfl] at hok'
      rw [hx] at h48
      rw [hok']
      conv => arg 3; simp only [mkT, putT, List.reduceReplicate, List.set]
      refine EVgo9 (And.intro (hlt) (eK)) (h48) trivial trivial trivial trivial trivial trivial trivial trivial trivial trivial ?_
      exact WQ.ret rfl
    | false =>
      rw [hx, if_neg (by simp)] at hok'
      rw [hx] at h48
      conv => arg 3; simp only [mkT, putT, List.reduceReplicate, List.set]
      refine EVgo9 (And.intro (hlt) (eK)) (h48) trivial trivial trivial trivial trivial trivial trivial trivial trivial trivial ?_
      refine EVgo9 (hw) trivial trivial trivial trivial trivial trivial trivial trivial trivial trivial trivial ?_
      exact WC.loop rfl (hih hok')
theorem s47 (l : Bs) (hl : l.length ≤ 1000000) : cf 47 [.sl l.length false (bytesP l), .fn 48 [] []] [] = some (.bool (l.any emptyP), []) := by
  have h50 := s50 hcf l hl
  refine ev_ofC' hcf env47 ?_
  rw [← ixE_any l 0]
  generalize ixE l 0 = z at h50
  conv => arg 2; simp only [ir47]
  conv => arg 3; simp only [ir47, Go.Proofs.YtbgihgkobojfaaaEv.start, List.length, Nat.reduceAdd, Nat.reduceSub, List.reduceReplicate, List.append_eq, List.cons_append, List.nil_append]
  conv => arg 4; simp only [heapOf]
  try conv => arg 5; simp only [List.length, Nat.reduceAdd]
  try conv => arg 6; simp only [List.length, Nat.reduceAdd]
  refine EVgo9 trivial (h50) trivial trivial trivial trivial trivial trivial trivial trivial trivial trivial ?_
  exact WQ.ret rfl
theorem s37 (l : Bs) (hl : l.length ≤ 1000000) : Sp cf 37 [sB l] (.bool (namedB l)) := by
  have h39 := s39 hcf l
  have h22 := s22 hcf env_but ⟨l.toArray⟩ (by rw [szB]; exact hl)
  rw [toL] at h22
  have h47 := s47 hcf l hl
  have ow : ((bytesP l).drop 0).take (l.length * 1) = bytesP l := by rw [List.drop_zero, Nat.mul_one]; exact List.take_of_length_le (by unfold bytesP; simp)
  conv at h47 => lhs; rw [← ow]
  have q := cmpB (upL l) l
  have tb : (⟨l.toArray⟩ : ByteArray).toList = l := toL l
  have eb : (l.map fun b => PV.int .u8 b.toNat) = bytesP l := rfl
  refine sp_of hcf env37 ?_
  unfold namedB
  simp only [sB] at *
  cases h : sizedB l with
  | false =>
    rw [h] at h39
    conv => arg 2; simp only [ir37]
    conv => arg 3; simp only [ir37, Go.Proofs.YtbgihgkobojfaaaEv.start, List.length, Nat.reduceAdd, Nat.reduceSub, List.reduceReplicate, List.append_eq, List.cons_append, List.nil_append]
    conv => arg 4; simp only [heapOf]
    try conv => arg 5; simp only [List.length, Nat.reduceAdd]
    try conv => arg 6; simp only [List.length, Nat.reduceAdd]
    refine EVgo9 trivial (h39) trivial trivial trivial trivial trivial trivial trivial trivial trivial trivial ?_
    exact EVret trivial
  | true =>
    rw [h] at h39
    cases h2 : decide (upL l = l) with
    | false =>
      rw [h2] at q
      conv => arg 2; simp only [ir37]
      conv => arg 3; simp only [ir37, Go.Proofs.YtbgihgkobojfaaaEv.start, List.length, Nat.reduceAdd, Nat.reduceSub, List.reduceReplicate, List.append_eq, List.cons_append, List.nil_append]
      conv => arg 4; simp only [heapOf]
      try conv => arg 5; simp only [List.length, Nat.reduceAdd]
      try conv => arg 6; simp only [List.length, Nat.reduceAdd]
      refine EVgo9 (q) (h39) (h22) trivial trivial trivial trivial trivial trivial trivial trivial trivial ?_
      exact EVret trivial
    | true =>
      rw [h2] at q
      conv => arg 2; simp only [ir37]
      conv => arg 3; simp only [ir37, Go.Proofs.YtbgihgkobojfaaaEv.start, List.length, Nat.reduceAdd, Nat.reduceSub, List.reduceReplicate, List.append_eq, List.cons_append, List.nil_append]
      conv => arg 4; simp only [heapOf]
      try conv => arg 5; simp only [List.length, Nat.reduceAdd]
      try conv => arg 6; simp only [List.length, Nat.reduceAdd]
      refine EVgo9 (And.intro (q) ( And.intro (szB) (eb))) (h39) (h22) trivial trivial trivial trivial trivial trivial trivial trivial trivial ?_
      refine EVgo9 (And.intro (q) ( And.intro (szB) ( And.intro (tb) (eb)))) (h47) trivial trivial trivial trivial trivial trivial trivial trivial trivial trivial ?_
      exact EVret trivial
theorem s43 (l : Bs) (hl : l.length ≤ 1000000) : Sp cf 43 [sB l] (.bool (namedB l)) := by
  have h42 := s42 hcf ⟨l.toArray⟩ (by rw [szB]; exact hl)
  rw [toL] at h42
  have q := cmpB (upL l) l
  refine sp_of hcf env43 ?_
  simp only [sB] at *
  conv => arg 2; simp only [ir43]
  conv => arg 3; simp only [ir43, Go.Proofs.YtbgihgkobojfaaaEv.start, List.length, Nat.reduceAdd, Nat.reduceSub, List.reduceReplicate, List.append_eq, List.cons_append, List.nil_append]
  conv => arg 4; simp only [heapOf]
  try conv => arg 5; simp only [List.length, Nat.reduceAdd]
  try conv => arg 6; simp only [List.length, Nat.reduceAdd]
  refine EVgo9 trivial trivial trivial trivial trivial trivial trivial trivial trivial trivial trivial trivial ?_
  refine WC.loop (T' := _) (H' := _) (n' := _) rfl ((?_ : ∀ (r p : Bs), p ++ r = l → l.any emptyP = r.any emptyP →
    WC cf _ (mkT 28 [(0, .str ⟨l.toArray⟩), (3, .int .i64 (p.length : Nat))]) [] 0 0 _) l [] rfl rfl)
  intro r
  induction r with
  | nil =>
    intro p hp hok
    rw [List.append_nil] at hp
    subst hp
    have hany : p.any emptyP = false := hok
    unfold namedB sizedB
    rw [hany]
    by_cases h : p = []
    · subst h
      have hz : ((([] : Bs).length : Nat) : Int) = 0 := rfl
      conv => arg 3; simp only [mkT, putT, List.reduceReplicate, List.set]
      refine EVgo9 (And.intro (szB) (hz)) trivial trivial trivial trivial trivial trivial trivial trivial trivial trivial trivial ?_
      refine EVgo9 (And.intro (szB) (hz)) trivial trivial trivial trivial trivial trivial trivial trivial trivial trivial trivial ?_
      exact EVret trivial
    · have h1 : 0 < p.length := List.length_pos_iff.2 h
      have h1' : (p.length : Int) ≥ 1 := by omega
      rw [decide_eq_false h]
      by_cases h2 : p.length ≤ 31
      · have h2' : (p.length : Int) ≤ 31 := by omega
        rw [decide_eq_true h2]
        generalize decide (upL p = p) = d at *
        cases d with
        | true =>
          conv => arg 3; simp only [mkT, putT, List.reduceReplicate, List.set]
          refine EVgl9 (szB) trivial trivial trivial trivial trivial trivial trivial trivial trivial trivial trivial ?_
          refine EVgo9 (And.intro (szB) ( And.intro (h1') ( And.intro (h2') (q)))) (h42) trivial trivial trivial trivial trivial trivial trivial trivial trivial trivial ?_
          exact EVret trivial
        | false =>
          conv => arg 3; simp only [mkT, putT, List.reduceReplicate, List.set]
          refine EVgl9 (szB) trivial trivial trivial trivial trivial trivial trivial trivial trivial trivial trivial ?_
          refine EVgo9 (And.intro (szB) ( And.intro (h1') ( And.intro (h2') (q)))) (h42) trivial trivial trivial trivial trivial trivial trivial trivial trivial trivial ?_
          exact EVret trivial
      · have h2' : ¬ (p.length : Int) ≤ 31 := by omega
        rw [decide_eq_false h2]
        conv => arg 3; simp only [mkT, putT, List.reduceReplicate, List.set]
        refine EVgl9 (szB) trivial trivial trivial trivial trivial trivial trivial trivial trivial trivial trivial ?_
        refine EVgo9 (And.intro (szB) ( And.intro (h1') (h2'))) trivial trivial trivial trivial trivial trivial trivial trivial trivial trivial trivial ?_
        exact EVret trivial
  | cons x r ih =>
    intro p hp hok
    have hlen : l.length = p.length + (r.length + 1) := by rw [← hp]; simp
    have hlt : (p.length : Int) < (l.length : Int) := by omega
    have h0 : (0 : Int) ≤ (p.length : Int) := Int.natCast_nonneg _
    have hw : IntKind.i64.wrap ((p.length : Int) + 1) = ((p.length + 1 : Nat) : Int) := by rw [i64_in _ (by omega)]; simp
    have hb := at_B hp
    have e : decide ((x.toNat : Int) ≤ 32) = emptyP x := by unfold emptyP; exact decide_eq_decide.2 (by omega)
    have hih := ih (p ++ [x]) (by rw [List.append_assoc]; exact hp)
    rw [snoc_lenB] at hih
    rw [List.any_cons] at hok
    cases hx : emptyP x with
    | true =>
      rw [hx] at e hok
      have hnm : namedB l = false := by unfold namedB; rw [hok]; simp
      rw [hnm]
      conv => arg 3; simp only [mkT, putT, List.reduceReplicate, List.set]
      refine EVgo9 (And.intro (szB) (hlt)) trivial trivial trivial trivial trivial trivial trivial trivial trivial trivial trivial ?_
      first | refine WO.step (k_index rfl rfl h0 hb) ?_ | refine WOc.step (k_index rfl rfl h0 hb) ?_
      conv => arg 2; simp only [setOpt, List.set, Nat.reduceLT, Int.reduceToNat, List.drop_drop, valT, List.getD_cons_zero, List.getD_cons_succ, Int.reduceLT, Int.reduceLE, Int.reduceAdd, Int.reduceSub, Int.reduceMul, Int.reduceNeg, Int.reduceEq, Int.reduceNe, Int.cast_ofNat_Int, Int.natCast_zero, Int.natCast_one, ge_iff_le, gt_iff_lt, decide_true, decide_false, Bool.not_true, Bool.not_false, Int.toNat_natCast, Nat.sub_zero, Nat.mul_one, Option.isSome_some, Option.isSome_none, Bool.false_eq_true, Bool.and_true, Bool.true_and, Bool.and_false, Bool.false_and, Nat.zero_add, Nat.zero_mul, List.drop_zero, reduceIte, setRange, PV.cells, fillB, List.take, List.drop, List.append_eq, List.cons_append, List.nil_append, List.length, List.map, List.zip, List.zipWith, List.replicate, List.flatten, Nat.reduceAdd, Nat.reduceMul, Nat.reduceSub, PV.mapId, mapIds, Option.map, Blk.mapId, sigN, sigS, hlt]
      try conv => arg 3; simp only [Nat.reduceLT, List.reduceReplicate, List.flatten_cons, List.flatten_nil, List.append_nil, Nat.reduceMul, Nat.mul_one, Nat.one_mul, Nat.zero_mul, Nat.zero_add, List.drop_zero, List.drop_succ_cons, List.drop_nil, List.take_succ_cons, List.take_zero, List.take_nil, List.drop_drop, setRange, PV.cells, valT, List.getD_cons_zero, List.getD_cons_succ, List.take, List.length, Nat.reduceAdd, List.nil_append, applyU, hset, hdel, Nat.reduceEqDiff, reduceIte, List.append_eq, List.cons_append, List.nil_append, frz, rowsOf, updsNew, updsAt, sigN, sigS, PV.mapId, mapIds, Option.map, Blk.mapId, List.drop, heapOf, hlt]
      conv => arg 5; simp only [stride, Nat.reduceAdd]
      refine EVgo9 (e) trivial trivial trivial trivial trivial trivial trivial trivial trivial trivial trivial ?_
      exact EVret trivial
    | false =>
      rw [hx] at e hok
      conv => arg 3; simp only [mkT, putT, List.reduceReplicate, List.set]
      refine EVgo9 (And.intro (szB) (hlt)) trivial trivial trivial trivial trivial trivial trivial trivial trivial trivial trivial ?_
      first | refine WO.step (k_index rfl rfl h0 hb) ?_ | refine WOc.step (k_index rfl rfl h0 hb) ?_
      conv => arg 2; simp only [setOpt, List.set, Nat.reduceLT, Int.reduceToNat, List.drop_drop, valT, List.getD_cons_zero, List.getD_cons_succ, Int.reduceLT, Int.reduceLE, Int.reduceAdd, Int.reduceSub, Int.reduceMul, Int.reduceNeg, Int.reduceEq, Int.reduceNe, Int.cast_ofNat_Int, Int.natCast_zero, Int.natCast_one, ge_iff_le, gt_iff_lt, decide_true, decide_false, Bool.not_true, Bool.not_false, Int.toNat_natCast, Nat.sub_zero, Nat.mul_one, Option.isSome_some, Option.isSome_none, Bool.false_eq_true, Bool.and_true, Bool.true_and, Bool.and_false, Bool.false_and, Nat.zero_add, Nat.zero_mul, List.drop_zero, reduceIte, setRange, PV.cells, fillB, List.take, List.drop, List.append_eq, List.cons_append, List.nil_append, List.length, List.map, List.zip, List.zipWith, List.replicate, List.flatten, Nat.reduceAdd, Nat.reduceMul, Nat.reduceSub, PV.mapId, mapIds, Option.map, Blk.mapId, sigN, sigS, hlt]
      try conv => arg 3; simp only [Nat.reduceLT, List.reduceReplicate, List.flatten_cons, List.flatten_nil, List.append_nil, Nat.reduceMul, Nat.mul_one, Nat.one_mul, Nat.zero_mul, Nat.zero_add, List.drop_zero, List.drop_succ_cons, List.drop_nil, List.take_succ_cons, List.take_zero, List.take_nil, List.drop_drop, setRange, PV.cells, valT, List.getD_cons_zero, List.getD_cons_succ, List.take, List.length, Nat.reduceAdd, List.nil_append, applyU, hset, hdel, Nat.reduceEqDiff, reduceIte, List.append_eq, List.cons_append, List.nil_append, frz, rowsOf, updsNew, updsAt, sigN, sigS, PV.mapId, mapIds, Option.map, Blk.mapId, List.drop, heapOf, hlt]
      conv => arg 5; simp only [stride, Nat.reduceAdd]
      refine EVgo9 (And.intro (e) (hw)) trivial trivial trivial trivial trivial trivial trivial trivial trivial trivial trivial ?_
      exact WC.loop rfl (hih hok)
theorem s29 (t a : Int) : Sp cf 29 [.agg [.int .i64 t, .int .i64 a]] (.int .i64 (addrV t a)) := by
  have h1 := s36 hcf t 1000000
  have h2 := s36 hcf a 4095
  refine sp_of hcf env29 ?_
  unfold addrV
  cases c1 : withinB t 1000000 with
  | false =>
    rw [c1] at h1
    rw [if_neg (by simp)]
    conv => arg 2; simp only [ir29]
    conv => arg 3; simp only [ir29, Go.Proofs.YtbgihgkobojfaaaEv.start, List.length, Nat.reduceAdd, Nat.reduceSub, List.reduceReplicate, List.append_eq, List.cons_append, List.nil_append]
    conv => arg 4; simp only [heapOf]
    try conv => arg 5; simp only [List.length, Nat.reduceAdd]
    try conv => arg 6; simp only [List.length, Nat.reduceAdd]
    refine EVgo9 trivial (h1) (h2) trivial trivial trivial trivial trivial trivial trivial trivial trivial ?_
    exact EVret trivial
  | true =>
    rw [c1] at h1
    cases c2 : withinB a 4095 with
    | false =>
      rw [c2] at h2
      rw [if_neg (by simp)]
      conv => arg 2; simp only [ir29]
      conv => arg 3; simp only [ir29, Go.Proofs.YtbgihgkobojfaaaEv.start, List.length, Nat.reduceAdd, Nat.reduceSub, List.reduceReplicate, List.append_eq, List.cons_append, List.nil_append]
      conv => arg 4; simp only [heapOf]
      try conv => arg 5; simp only [List.length, Nat.reduceAdd]
      try conv => arg 6; simp only [List.length, Nat.reduceAdd]
      refine EVgo9 trivial (h1) (h2) trivial trivial trivial trivial trivial trivial trivial trivial trivial ?_
      exact EVret trivial
    | true =>
      rw [c2] at h2
      rw [if_pos ⟨rfl, rfl⟩]
      have b1 := within_iff.1 c1
      have b2 := within_iff.1 c2
      have w1 : IntKind.i64.wrap (t * 4096) = t * 4096 := i64_in _ (by omega)
      have w2 : IntKind.i64.wrap (t * 4096 + a) = t * 4096 + a := i64_in _ (by omega)
      conv => arg 2; simp only [ir29]
      conv => arg 3; simp only [ir29, Go.Proofs.YtbgihgkobojfaaaEv.start, List.length, Nat.reduceAdd, Nat.reduceSub, List.reduceReplicate, List.append_eq, List.cons_append, List.nil_append]
      conv => arg 4; simp only [heapOf]
      try conv => arg 5; simp only [List.length, Nat.reduceAdd]
      try conv => arg 6; simp only [List.length, Nat.reduceAdd]
      refine EVgo9 (And.intro (w1) (w2)) (h1) (h2) trivial trivial trivial trivial trivial trivial trivial trivial trivial ?_
      exact EVret trivial
theorem s30 (t a : Int) : Sp cf 30 [.agg [.int .i64 t, .int .i64 a]] (.int .i64 (addrV t a)) := by
  refine sp_of hcf env30 ?_
  unfold addrV
  by_cases c1 : t < 0
  · rw [if_neg (by rw [within_iff]; omega)]
    conv => arg 2; simp only [ir30]
    conv => arg 3; simp only [ir30, Go.Proofs.YtbgihgkobojfaaaEv.start, List.length, Nat.reduceAdd, Nat.reduceSub, List.reduceReplicate, List.append_eq, List.cons_append, List.nil_append]
    conv => arg 4; simp only [heapOf]
    try conv => arg 5; simp only [List.length, Nat.reduceAdd]
    try conv => arg 6; simp only [List.length, Nat.reduceAdd]
    refine EVgo9 (c1) trivial trivial trivial trivial trivial trivial trivial trivial trivial trivial trivial ?_
    exact EVret trivial
  by_cases c2 : t > 1000000
  · rw [if_neg (by rw [within_iff]; omega)]
    conv => arg 2; simp only [ir30]
    conv => arg 3; simp only [ir30, Go.Proofs.YtbgihgkobojfaaaEv.start, List.length, Nat.reduceAdd, Nat.reduceSub, List.reduceReplicate, List.append_eq, List.cons_append, List.nil_append]
    conv => arg 4; simp only [heapOf]
    try conv => arg 5; simp only [List.length, Nat.reduceAdd]
    try conv => arg 6; simp only [List.length, Nat.reduceAdd]
    refine EVgo9 (And.intro (c1) (c2)) trivial trivial trivial trivial trivial trivial trivial trivial trivial trivial trivial ?_
    exact EVret trivial
  by_cases c3 : a < 0
  · rw [if_neg (by rw [within_iff, within_iff]; omega)]
    conv => arg 2; simp only [ir30]
    conv => arg 3; simp only [ir30, Go.Proofs.YtbgihgkobojfaaaEv.start, List.length, Nat.reduceAdd, Nat.reduceSub, List.reduceReplicate, List.append_eq, List.cons_append, List.nil_append]
    conv => arg 4; simp only [heapOf]
    try conv => arg 5; simp only [List.length, Nat.reduceAdd]
    try conv => arg 6; simp only [List.length, Nat.reduceAdd]
    refine EVgo9 (And.intro (c1) ( And.intro (c2) (c3))) trivial trivial trivial trivial trivial trivial trivial trivial trivial trivial trivial ?_
    exact EVret trivial
  by_cases c4 : a ≥ 4096
  · rw [if_neg (by rw [within_iff, within_iff]; omega)]
    conv => arg 2; simp only [ir30]
    conv => arg 3; simp only [ir30, Go.Proofs.YtbgihgkobojfaaaEv.start, List.length, Nat.reduceAdd, Nat.reduceSub, List.reduceReplicate, List.append_eq, List.cons_append, List.nil_append]
    conv => arg 4; simp only [heapOf]
    try conv => arg 5; simp only [List.length, Nat.reduceAdd]
    try conv => arg 6; simp only [List.length, Nat.reduceAdd]
    refine EVgo9 (And.intro (c1) ( And.intro (c2) ( And.intro (c3) (c4)))) trivial trivial trivial trivial trivial trivial trivial trivial trivial trivial trivial ?_
    exact EVret trivial
  rw [if_pos (by rw [within_iff, within_iff]; omega)]
  have w1 : IntKind.i64.wrap (t * 4096) = t * 4096 := i64_in _ (by omega)
  have w2 : IntKind.i64.wrap (t * 4096 + a) = t * 4096 + a := i64_in _ (by omega)
  conv => arg 2; simp only [ir30]
  conv => arg 3; simp only [ir30, Go.Proofs.YtbgihgkobojfaaaEv.start, List.length, Nat.reduceAdd, Nat.reduceSub, List.reduceReplicate, List.append_eq, List.cons_append, List.nil_append]
  conv => arg 4; simp only [heapOf]
  try conv => arg 5; simp only [List.length, Nat.reduceAdd]
  try conv => arg 6; simp only [List.length, Nat.reduceAdd]
  refine EVgo9 (And.intro (c1) ( And.intro (c2) ( And.intro (c3) ( And.intro (c4) ( And.intro (w1) (w2)))))) trivial trivial trivial trivial trivial trivial trivial trivial trivial trivial trivial ?_
  exact EVret trivial
theorem s26 (n : Int) : Sp cf 26 [.int .i64 n] (encA (atV n)) := by
  refine sp_of hcf env26 ?_
  unfold atV
  generalize hq : IntKind.i64.wrap (n.tdiv 4096) = q at *
  generalize hr : n.tmod 4096 = r at *
  by_cases h : n < 0
  · rw [if_pos (.inl h)]
    conv => arg 2; simp only [ir26]
    conv => arg 3; simp only [ir26, Go.Proofs.YtbgihgkobojfaaaEv.start, List.length, Nat.reduceAdd, Nat.reduceSub, List.reduceReplicate, List.append_eq, List.cons_append, List.nil_append]
    conv => arg 4; simp only [heapOf]
    try conv => arg 5; simp only [List.length, Nat.reduceAdd]
    try conv => arg 6; simp only [List.length, Nat.reduceAdd]
    refine EVgo9 (And.intro (h) ( And.intro (hq) (hr))) trivial trivial trivial trivial trivial trivial trivial trivial trivial trivial trivial ?_
    exact EVret trivial
  · by_cases h2 : q > 1000000
    · rw [if_pos (.inr h2)]
      conv => arg 2; simp only [ir26]
      conv => arg 3; simp only [ir26, Go.Proofs.YtbgihgkobojfaaaEv.start, List.length, Nat.reduceAdd, Nat.reduceSub, List.reduceReplicate, List.append_eq, List.cons_append, List.nil_append]
      conv => arg 4; simp only [heapOf]
      try conv => arg 5; simp only [List.length, Nat.reduceAdd]
      try conv => arg 6; simp only [List.length, Nat.reduceAdd]
      refine EVgo9 (And.intro (hq) ( And.intro (hr) ( And.intro (h) (h2)))) trivial trivial trivial trivial trivial trivial trivial trivial trivial trivial trivial ?_
      exact EVret trivial
    · rw [if_neg (by simp only [not_or]; exact ⟨h, h2⟩)]
      conv => arg 2; simp only [ir26]
      conv => arg 3; simp only [ir26, Go.Proofs.YtbgihgkobojfaaaEv.start, List.length, Nat.reduceAdd, Nat.reduceSub, List.reduceReplicate, List.append_eq, List.cons_append, List.nil_append]
      conv => arg 4; simp only [heapOf]
      try conv => arg 5; simp only [List.length, Nat.reduceAdd]
      try conv => arg 6; simp only [List.length, Nat.reduceAdd]
      refine EVgo9 (And.intro (hq) ( And.intro (hr) ( And.intro (h) (h2)))) trivial trivial trivial trivial trivial trivial trivial trivial trivial trivial trivial ?_
      exact EVret trivial
theorem s27 (n : Int) : Sp cf 27 [.int .i64 n] (encA (atV n)) := by
  refine sp_of hcf env27 ?_
  unfold atV
  by_cases h : n < 0
  · rw [if_pos (.inl h)]
    conv => arg 2; simp only [ir27]
    conv => arg 3; simp only [ir27, Go.Proofs.YtbgihgkobojfaaaEv.start, List.length, Nat.reduceAdd, Nat.reduceSub, List.reduceReplicate, List.append_eq, List.cons_append, List.nil_append]
    conv => arg 4; simp only [heapOf]
    try conv => arg 5; simp only [List.length, Nat.reduceAdd]
    try conv => arg 6; simp only [List.length, Nat.reduceAdd]
    refine EVgo9 (h) trivial trivial trivial trivial trivial trivial trivial trivial trivial trivial trivial ?_
    exact EVret trivial
  · by_cases h2 : IntKind.i64.wrap (n.tdiv 4096) > 1000000
    · rw [if_pos (.inr h2)]
      conv => arg 2; simp only [ir27]
      conv => arg 3; simp only [ir27, Go.Proofs.YtbgihgkobojfaaaEv.start, List.length, Nat.reduceAdd, Nat.reduceSub, List.reduceReplicate, List.append_eq, List.cons_append, List.nil_append]
      conv => arg 4; simp only [heapOf]
      try conv => arg 5; simp only [List.length, Nat.reduceAdd]
      try conv => arg 6; simp only [List.length, Nat.reduceAdd]
      refine EVgo9 (And.intro (h) (h2)) trivial trivial trivial trivial trivial trivial trivial trivial trivial trivial trivial ?_
      exact EVret trivial
    · rw [if_neg (by simp only [not_or]; exact ⟨h, h2⟩)]
      conv => arg 2; simp only [ir27]
      conv => arg 3; simp only [ir27, Go.Proofs.YtbgihgkobojfaaaEv.start, List.length, Nat.reduceAdd, Nat.reduceSub, List.reduceReplicate, List.append_eq, List.cons_append, List.nil_append]
      conv => arg 4; simp only [heapOf]
      try conv => arg 5; simp only [List.length, Nat.reduceAdd]
      try conv => arg 6; simp only [List.length, Nat.reduceAdd]
      refine EVgo9 (And.intro (h) (h2)) trivial trivial trivial trivial trivial trivial trivial trivial trivial trivial trivial ?_
      exact EVret trivial
end
end Go.Proofs.YtbgihgkobojfaaaR
