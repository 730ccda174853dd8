/- Evf16D2: a part of the proof. -/
import Derived.Test.YtoihpjpgihhcjaaEvf16D1
open Go Go.Proofs.YtoihpjpgihhcjaaEv Go.Proofs.YtoihpjpgihhcjaaR Go.IntWalk Go.Proofs
set_option maxRecDepth 20000
set_option maxHeartbeats 8000000
set_option linter.unusedVariables false
set_option linter.unusedSimpArgs false
namespace Go.Proofs.YtoihpjpgihhcjaaR
theorem lenX (l : List It) : (flat encX l).length = l.length * 3 := flat_length (enc := encX) (es := 3) (fun _ => rfl) l
theorem allX (l : List It) : (flat encX l).take (l.length * 3) = flat encX l := List.take_of_length_le (by rw [lenX]; exact Nat.le_refl _)
theorem snocX (l : List It) (a b c : Int) : flat encX l ++ [PV.int .i64 a, .int .i64 b, .int .i64 c] = flat encX (l ++ [(a, b, c)]) := (flat_append l [(a, b, c)]).symm
theorem mid_X {m p r : List It} {a b c : Int} (h : p ++ (a, b, c) :: r = m) : (flat encX m).drop (p.length * 3) = PV.int .i64 a :: .int .i64 b :: .int .i64 c :: flat encX r := by
  subst h
  rw [flat_drop (enc := encX) (es := 3) (fun _ => rfl), List.drop_left]
  rfl
theorem snoc_len {α : Type} (p : List α) (x : α) : (p ++ [x]).length = p.length + 1 := by simp
def aheadB (a b : It) : Bool := decide (ordI a b < 0)
def hasI (q : List Int) (i : Int) : Bool := q.any fun y => i == y
def ids (l : List It) : List Int := l.map (·.1)
def tns (l : List It) : List Int := l.map (·.2.2)
def lastOk (p : List It) (x : It) : Bool := match p.getLast? with
  | none => true
  | some y => aheadB y x
def okQ (nx : Int) (p : List It) : List It → Bool
  | [] => true
  | x :: r => mayB nx x && (!hasI (ids p) x.1 && (!hasI (tns p) x.2.2 && (lastOk p x && okQ nx (p ++ [x]) r)))
def saneB (nx : Int) (l : List It) : Bool := withinB nx 1099511627776 && (decide (l.length ≤ 8) && okQ nx [] l)
abbrev Qu := Int × List It
def saneQ (q : Qu) : Qu := if saneB q.1 q.2 = true then q else (0, [])
def encQ (q : Qu) : PV := .agg [.int .i64 q.1, slX q.2]
theorem may_iff {nx : Int} {x : It} : mayB nx x = true ↔ (0 ≤ x.1 ∧ x.1 ≤ 7) ∧ (0 ≤ x.2.1 ∧ x.2.1 ≤ 4) ∧ 0 ≤ x.2.2 ∧ x.2.2 ≤ nx - 1 := by
  unfold mayB withinB
  simp
theorem may_sml {nx : Int} {x : It} (h : mayB nx x = true) (hn : nx ≤ 1099511627777) : Sml x := by
  have := may_iff.1 h
  exact ⟨this.2.1.1, this.2.1.2, this.2.2.1, by omega⟩
def mOf (q : List Int) : List (PV × PV) := q.map fun x => (.int .i64 x, .bool true)
theorem mfind_mOf (i : Int) : ∀ q : List Int, mfind (mOf q) (.int .i64 i) = some (if hasI q i = true then some (.bool true) else none)
  | [] => rfl
  | x :: q => by
    show (match cellEq (.int .i64 i) (.int .i64 x) with | some true => some (some (PV.bool true)) | some false => mfind (mOf q) (.int .i64 i) | none => none) = _
    have e : cellEq (.int .i64 i) (.int .i64 x) = some (i == x) := rfl
    rw [e]
    unfold hasI
    rw [List.any_cons]
    cases h : (i == x) with
    | true => rfl
    | false =>
      rw [Bool.false_or]
      exact mfind_mOf i q
theorem mput_mOf (i : Int) : ∀ q : List Int, hasI q i = false → mput (mOf q) (.int .i64 i) (.bool true) = mOf (q ++ [i])
  | [], _ => rfl
  | x :: q, h => by
    unfold hasI at h
    rw [List.any_cons, Bool.or_eq_false_iff] at h
    show (if cellEq (.int .i64 i) (.int .i64 x) = some true then _ else _) = _
    have e : cellEq (.int .i64 i) (.int .i64 x) = some (i == x) := rfl
    rw [e, h.1, if_neg (by simp)]
    exact congrArg _ (mput_mOf i q h.2)
theorem k_lookup {cf : CF} {new : Nat} {T : List PV} {H : Heap} {m k : X} {id : Nat} {i : Int} {q : List Int} {b : Bool} (hm : valT T m = .map id) (hk : valT T k = .int .i64 i) (hg : hget H id = some (.mp (mOf q))) (hb : hasI q i = b) : EK cf (.lookup 0 [.bool false] false m k) new T H (.bool b) [] := ⟨by
  simp only [evalK, hm, hk, hg, kindOf, if_true, mfind_mOf, hb]
  cases b <;> rfl⟩
theorem k_mapup {cf : CF} {new : Nat} {T : List PV} {H : Heap} {m k v : X} {id : Nat} {i : Int} {q : List Int} (hm : valT T m = .map id) (hk : valT T k = .int .i64 i) (hv : valT T v = .bool true) (hg : hget H id = some (.mp (mOf q))) (hb : hasI q i = false) : EK cf (.mapup 0 m k v) new T H .undef [(id, some (.mp (mOf (q ++ [i]))))] := ⟨by
  simp only [evalK, hm, hk, hv, hg, kindOf, if_true, mfind_mOf, hb, mput_mOf i q hb]
  rfl⟩
def ixX (i : Int) : List It → Nat → Int
  | [], _ => -1
  | x :: r, k => if x.1 = i then (k : Int) else ixX i r (k + 1)
section
variable {cf : CF} (hcf : cf = ev env)
include hcf
theorem s41 (x : It) (i : Int) : cf 41 [.agg (encX x), .rop [.int .i64 i]] [] = some (.bool (x.1 == i), []) := by
  refine ev_ofC' hcf env41 ?_
  obtain ⟨a, b, c⟩ := x
  simp only [encX]
  conv => arg 2; simp only [ir41]
  conv => arg 3; simp only [ir41, Go.Proofs.YtoihpjpgihhcjaaEv.start, List.length, Nat.reduceAdd, Nat.reduceSub, List.reduceReplicate, List.append_eq, List.cons_append, List.nil_append]
  conv => arg 4; simp only [heapOf]
  try conv => arg 5; simp only [List.length, Nat.reduceAdd]
  try conv => arg 6; simp only [List.length, Nat.reduceAdd]
  refine EVgo9 trivial trivial trivial trivial trivial trivial trivial trivial trivial trivial trivial trivial ?_
  exact WQ.ret rfl
theorem s40 (l : List It) (i : Int) (hl : l.length ≤ 1000000) : cf 40 [slX l, .fn 41 [] [.rop [.int .i64 i]]] [] = some (.int .i64 (ixX i l 0), []) := by
  refine ev_ofC' hcf env40 ?_
  simp only [slX]
  conv => arg 2; simp only [ir40]
  conv => arg 3; simp only [ir40, Go.Proofs.YtoihpjpgihhcjaaEv.start, List.length, Nat.reduceAdd, Nat.reduceSub, List.reduceReplicate, List.append_eq, List.cons_append, List.nil_append]
  conv => arg 4; simp only [heapOf]
  try conv => arg 5; simp only [List.length, Nat.reduceAdd]
  try conv => arg 6; simp only [List.length, Nat.reduceAdd]
  refine EVgo9 trivial trivial trivial trivial trivial trivial trivial trivial trivial trivial trivial trivial ?_
  refine WC.loop (T' := _) (H' := _) (n' := _) rfl ((?_ : ∀ (r p : List It), p ++ r = l → ixX i l 0 = ixX i r p.length →
    WC cf _ (mkT 19 [(0, .sl l.length false (flat encX l)), (1, .fn 41 [] [.rop [.int .i64 i]]), (7, .int .i64 (l.length : Nat)), (8, .int .i64 (p.length : Nat))]) [] 0 0 _) l [] rfl rfl)
  intro r
  induction r with
  | nil =>
    intro p hp hok
    rw [List.append_nil] at hp
    subst hp
    rw [hok]
    conv => arg 3; simp only [mkT, putT, List.reduceReplicate, List.set]
    refine EVgl9 trivial trivial trivial trivial trivial trivial trivial trivial trivial trivial trivial trivial ?_
    exact WQ.ret rfl
  | cons x r ih =>
    intro p hp hok
    have h41 := s41 hcf x i
    have hih := ih (p ++ [x]) (by rw [List.append_assoc]; exact hp)
    rw [snoc_len] at hih
    have hok' : ixX i l 0 = if x.1 = i then (p.length : Int) else ixX i r (p.length + 1) := hok
    obtain ⟨a, b, c⟩ := x
    have hlen : l.length = p.length + (r.length + 1) := by rw [← hp]; simp
    have hlt : (p.length : Int) < (l.length : Int) := by omega
    have hw : IntKind.i64.wrap ((p.length : Int) + 1) = ((p.length + 1 : Nat) : Int) := by rw [i64_in _ (by omega)]; simp
    have eK := mid_X hp
    simp only [encX] at h41
    by_cases hx : a = i
    · rw [if_pos hx] at hok'
      rw [beq_iff_eq.2 hx] at h41
      rw [hok']
      conv => arg 3; simp only [mkT, putT, List.reduceReplicate, List.set]
      refine EVgo9 (And.intro (hlt) (eK)) (h41) trivial trivial trivial trivial trivial trivial trivial trivial trivial trivial ?_
      exact WQ.ret rfl
    · rw [if_neg hx] at hok'
      rw [beq_eq_false_iff_ne.2 hx] at h41
      conv => arg 3; simp only [mkT, putT, List.reduceReplicate, List.set]
      refine EVgo9 (And.intro (hlt) (eK)) (h41) trivial trivial trivial trivial trivial trivial trivial trivial trivial trivial ?_
      refine EVgo9 (hw) trivial trivial trivial trivial trivial trivial trivial trivial trivial trivial trivial ?_
      exact WC.loop rfl (hih hok')
theorem s29 (q : Qu) (i : Int) (hl : q.2.length ≤ 1000000) : Sp cf 29 [encQ q, .int .i64 i] (.int .i64 (ixX i q.2 0)) := by
  have h40 := s40 hcf q.2 i hl
  obtain ⟨nx, l⟩ := q
  refine sp_of hcf env29 ?_
  simp only [encQ, slX] at *
  generalize ixX i l 0 = z at *
  conv => arg 2; simp only [ir29]
  conv => arg 3; simp only [ir29, Go.Proofs.YtoihpjpgihhcjaaEv.start, List.length, Nat.reduceAdd, Nat.reduceSub, List.reduceReplicate, List.append_eq, List.cons_append, List.nil_append]
  conv => arg 4; simp only [heapOf]
  try conv => arg 5; simp only [List.length, Nat.reduceAdd]
  try conv => arg 6; simp only [List.length, Nat.reduceAdd]
  refine EVgo9 trivial (h40) trivial trivial trivial trivial trivial trivial trivial trivial trivial trivial ?_
  exact EVret trivial
theorem s9 (q : Qu) (hl : q.2.length ≤ 9223372036854775807) : Sp cf 9 [encQ q] (.bool (saneB q.1 q.2)) := by
  obtain ⟨nx, l⟩ := q
  have h25 := s25 hcf nx 1099511627776
  refine sp_of hcf env9 ?_
  unfold saneB
  simp only [encQ, slX] at *
  cases hw : withinB nx 1099511627776 with
  | false =>
    rw [hw] at h25
    conv => arg 2; simp only [ir9]
    conv => arg 3; simp only [ir9, Go.Proofs.YtoihpjpgihhcjaaEv.start, List.length, Nat.reduceAdd, Nat.reduceSub, List.reduceReplicate, List.append_eq, List.cons_append, List.nil_append]
    conv => arg 4; simp only [heapOf]
    try conv => arg 5; simp only [List.length, Nat.reduceAdd]
    try conv => arg 6; simp only [List.length, Nat.reduceAdd]
    refine EVgo9 trivial (h25) trivial trivial trivial trivial trivial trivial trivial trivial trivial trivial ?_
    exact EVret trivial
  | true =>
    rw [hw] at h25
    have hnx := within_iff.1 hw
    by_cases h8 : l.length ≤ 8
    · have h8' : ¬ (l.length : Int) > 8 := by omega
      rw [decide_eq_true h8, Bool.true_and, Bool.true_and]
      conv => arg 2; simp only [ir9]
      conv => arg 3; simp only [ir9, Go.Proofs.YtoihpjpgihhcjaaEv.start, List.length, Nat.reduceAdd, Nat.reduceSub, List.reduceReplicate, List.append_eq, List.cons_append, List.nil_append]
      conv => arg 4; simp only [heapOf]
      try conv => arg 5; simp only [List.length, Nat.reduceAdd]
      try conv => arg 6; simp only [List.length, Nat.reduceAdd]
      refine EVgo9 (h8') (h25) trivial trivial trivial trivial trivial trivial trivial trivial trivial trivial ?_
      refine WC.loop (T' := _) (H' := _) (n' := _) rfl ((?_ : ∀ (r p : List It), p ++ r = l → okQ nx [] l = okQ nx p r → (∀ y ∈ p, mayB nx y = true) →
        WC cf _ (mkT 66 [(1, .ptr 0 0), (3, .map 1), (4, .map 2), (20, .sl l.length false (flat encX l)), (21, .int .i64 (l.length : Nat)), (22, .int .i64 (p.length : Nat))]) [(0, .box [.int .i64 nx, .sl l.length false (flat encX l)]), (1, .mp (mOf (ids p))), (2, .mp (mOf (tns p)))] 0 3 _) l [] rfl rfl (fun y hy => absurd hy List.not_mem_nil))
      intro r
      induction r with
      | nil =>
        intro p hp hok hm
        rw [List.append_nil] at hp
        subst hp
        rw [hok]
        conv => arg 3; simp only [mkT, putT, List.reduceReplicate, List.set]
        refine EVgl9 trivial trivial trivial trivial trivial trivial trivial trivial trivial trivial trivial trivial ?_
        exact EVret trivial
      | cons x r ih =>
        intro p hp hok hm
        have h26 := s26 hcf x nx (by omega) (by omega)
        have hih := fun h1 h2 => ih (p ++ [x]) (by rw [List.append_assoc]; exact hp) h1 h2
        have hids : ids (p ++ [x]) = ids p ++ [x.1] := by unfold ids; simp
        have htns : tns (p ++ [x]) = tns p ++ [x.2.2] := by unfold tns; simp
        rw [snoc_len, hids, htns] at hih
        have hok' : okQ nx [] l = (mayB nx x && (!hasI (ids p) x.1 && (!hasI (tns p) x.2.2 && (lastOk p x && okQ nx (p ++ [x]) r)))) := hok
        have hlen : l.length = p.length + (r.length + 1) := by rw [← hp]; simp
        have hlt : (p.length : Int) < (l.length : Int) := by omega
        have hww : IntKind.i64.wrap ((p.length : Int) + 1) = ((p.length + 1 : Nat) : Int) := by rw [i64_in _ (by omega)]; simp
        cases hmx : mayB nx x with
        | false =>
          rw [hmx] at h26 hok'
          rw [hok', Bool.false_and]
          obtain ⟨a, b, c⟩ := x
          have eK := mid_X hp
          simp only [encX] at h26
          conv => arg 3; simp only [mkT, putT, List.reduceReplicate, List.set]
          refine EVgo9 (And.intro (hlt) (eK)) (h26) trivial trivial trivial trivial trivial trivial trivial trivial trivial trivial ?_
          exact EVret trivial
        | true =>
          rw [hmx, Bool.true_and] at hok'
          rw [hmx] at h26
          have hsx := may_sml hmx (by omega)
          have hmm : ∀ y ∈ p ++ [x], mayB nx y = true := fun y hy => by
            rcases List.mem_append.1 hy with hy | hy
            · exact hm y hy
            · rw [List.mem_singleton.1 hy]; exact hmx
          cases hi : hasI (ids p) x.1 with
          | true =>
            rw [hi] at hok'
            rw [hok', Bool.not_true, Bool.false_and]
            obtain ⟨a, b, c⟩ := x
            have eK := mid_X hp
            simp only [encX] at h26
            conv => arg 3; simp only [mkT, putT, List.reduceReplicate, List.set]
            refine EVgo9 (And.intro (hlt) (eK)) (h26) trivial trivial trivial trivial trivial trivial trivial trivial trivial trivial ?_
            first | refine WO.step (k_lookup rfl rfl rfl hi) ?_ | refine WOc.step (k_lookup rfl rfl rfl hi) ?_
            conv => arg 2; simp only [setOpt, List.set, Nat.reduceLT, Int.reduceToNat, List.drop_drop, valT, List.getD_cons_zero, List.getD_cons_succ, Int.reduceLT, Int.reduceLE, Int.reduceAdd, Int.reduceSub, Int.reduceMul, Int.reduceNeg, Int.reduceEq, Int.reduceNe, Int.cast_ofNat_Int, Int.natCast_zero, Int.natCast_one, ge_iff_le, gt_iff_lt, decide_true, decide_false, Bool.not_true, Bool.not_false, Int.toNat_natCast, Nat.sub_zero, Nat.mul_one, Option.isSome_some, Option.isSome_none, Bool.false_eq_true, Bool.and_true, Bool.true_and, Bool.and_false, Bool.false_and, Nat.zero_add, Nat.zero_mul, List.drop_zero, reduceIte, setRange, PV.cells, fillB, List.take, List.drop, List.append_eq, List.cons_append, List.nil_append, List.length, List.map, List.zip, List.zipWith, List.replicate, List.flatten, Nat.reduceAdd, Nat.reduceMul, Nat.reduceSub, PV.mapId, mapIds, Option.map, Blk.mapId, sigN, sigS, hlt]
            try conv => arg 3; simp only [Nat.reduceLT, List.reduceReplicate, List.flatten_cons, List.flatten_nil, List.append_nil, Nat.reduceMul, Nat.mul_one, Nat.one_mul, Nat.zero_mul, Nat.zero_add, List.drop_zero, List.drop_succ_cons, List.drop_nil, List.take_succ_cons, List.take_zero, List.take_nil, List.drop_drop, setRange, PV.cells, valT, List.getD_cons_zero, List.getD_cons_succ, List.take, List.length, Nat.reduceAdd, List.nil_append, applyU, hset, hdel, Nat.reduceEqDiff, reduceIte, List.append_eq, List.cons_append, List.nil_append, frz, rowsOf, updsNew, updsAt, sigN, sigS, PV.mapId, mapIds, Option.map, Blk.mapId, List.drop, heapOf, hlt]
            conv => arg 5; simp only [stride, Nat.reduceAdd]
            refine EVgo9 trivial trivial trivial trivial trivial trivial trivial trivial trivial trivial trivial trivial ?_
            exact EVret trivial
          | false =>
            rw [hi, Bool.not_false, Bool.true_and] at hok'
            cases ht : hasI (tns p) x.2.2 with
            | true =>
              rw [ht] at hok'
              rw [hok', Bool.not_true, Bool.false_and]
              obtain ⟨a, b, c⟩ := x
              have eK := mid_X hp
              simp only [encX] at h26
              conv => arg 3; simp only [mkT, putT, List.reduceReplicate, List.set]
              refine EVgo9 (And.intro (hlt) (eK)) (h26) trivial trivial trivial trivial trivial trivial trivial trivial trivial trivial ?_
              first | refine WO.step (k_lookup rfl rfl rfl hi) ?_ | refine WOc.step (k_lookup rfl rfl rfl hi) ?_
              conv => arg 2; simp only [setOpt, List.set, Nat.reduceLT, Int.reduceToNat, List.drop_drop, valT, List.getD_cons_zero, List.getD_cons_succ, Int.reduceLT, Int.reduceLE, Int.reduceAdd, Int.reduceSub, Int.reduceMul, Int.reduceNeg, Int.reduceEq, Int.reduceNe, Int.cast_ofNat_Int, Int.natCast_zero, Int.natCast_one, ge_iff_le, gt_iff_lt, decide_true, decide_false, Bool.not_true, Bool.not_false, Int.toNat_natCast, Nat.sub_zero, Nat.mul_one, Option.isSome_some, Option.isSome_none, Bool.false_eq_true, Bool.and_true, Bool.true_and, Bool.and_false, Bool.false_and, Nat.zero_add, Nat.zero_mul, List.drop_zero, reduceIte, setRange, PV.cells, fillB, List.take, List.drop, List.append_eq, List.cons_append, List.nil_append, List.length, List.map, List.zip, List.zipWith, List.replicate, List.flatten, Nat.reduceAdd, Nat.reduceMul, Nat.reduceSub, PV.mapId, mapIds, Option.map, Blk.mapId, sigN, sigS, hlt]
              try conv => arg 3; simp only [Nat.reduceLT, List.reduceReplicate, List.flatten_cons, List.flatten_nil, List.append_nil, Nat.reduceMul, Nat.mul_one, Nat.one_mul, Nat.zero_mul, Nat.zero_add, List.drop_zero, List.drop_succ_cons, List.drop_nil, List.take_succ_cons, List.take_zero, List.take_nil, List.drop_drop, setRange, PV.cells, valT, List.getD_cons_zero, List.getD_cons_succ, List.take, List.length, Nat.reduceAdd, List.nil_append, applyU, hset, hdel, Nat.reduceEqDiff, reduceIte, List.append_eq, List.cons_append, List.nil_append, frz, rowsOf, updsNew, updsAt, sigN, sigS, PV.mapId, mapIds, Option.map, Blk.mapId, List.drop, heapOf, hlt]
              conv => arg 5; simp only [stride, Nat.reduceAdd]
              refine EVgo9 trivial trivial trivial trivial trivial trivial trivial trivial trivial trivial trivial trivial ?_
              first | refine WO.step (k_lookup rfl rfl rfl ht) ?_ | refine WOc.step (k_lookup rfl rfl rfl ht) ?_
              conv => arg 2; simp only [setOpt, List.set, Nat.reduceLT, Int.reduceToNat, List.drop_drop, valT, List.getD_cons_zero, List.getD_cons_succ, Int.reduceLT, Int.reduceLE, Int.reduceAdd, Int.reduceSub, Int.reduceMul, Int.reduceNeg, Int.reduceEq, Int.reduceNe, Int.cast_ofNat_Int, Int.natCast_zero, Int.natCast_one, ge_iff_le, gt_iff_lt, decide_true, decide_false, Bool.not_true, Bool.not_false, Int.toNat_natCast, Nat.sub_zero, Nat.mul_one, Option.isSome_some, Option.isSome_none, Bool.false_eq_true, Bool.and_true, Bool.true_and, Bool.and_false, Bool.false_and, Nat.zero_add, Nat.zero_mul, List.drop_zero, reduceIte, setRange, PV.cells, fillB, List.take, List.drop, List.append_eq, List.cons_append, List.nil_append, List.length, List.map, List.zip, List.zipWith, List.replicate, List.flatten, Nat.reduceAdd, Nat.reduceMul, Nat.reduceSub, PV.mapId, mapIds, Option.map, Blk.mapId, sigN, sigS, hlt]
              try conv => arg 3; simp only [Nat.reduceLT, List.reduceReplicate, List.flatten_cons, List.flatten_nil, List.append_nil, Nat.reduceMul, Nat.mul_one, Nat.one_mul, Nat.zero_mul, Nat.zero_add, List.drop_zero, List.drop_succ_cons, List.drop_nil, List.take_succ_cons, List.take_zero, List.take_nil, List.drop_drop, setRange, PV.cells, valT, List.getD_cons_zero, List.getD_cons_succ, List.take, List.length, Nat.reduceAdd, List.nil_append, applyU, hset, hdel, Nat.reduceEqDiff, reduceIte, List.append_eq, List.cons_append, List.nil_append, frz, rowsOf, updsNew, updsAt, sigN, sigS, PV.mapId, mapIds, Option.map, Blk.mapId, List.drop, heapOf, hlt]
              conv => arg 5; simp only [stride, Nat.reduceAdd]
              refine EVgo9 trivial trivial trivial trivial trivial trivial trivial trivial trivial trivial trivial trivial ?_
              exact EVret trivial
            | false =>
              rw [ht, Bool.not_false, Bool.true_and] at hok'
              rcases List.eq_nil_or_concat p with hp0 | ⟨p0, y, hp0⟩
              · have hlo : lastOk p x = true := by rw [hp0]; rfl
                have hng : ¬ ((p.length : Int) > 0) := by rw [hp0]; decide
                rw [hlo, Bool.true_and] at hok'
                have hih' := hih hok' hmm
                obtain ⟨a, b, c⟩ := x
                have eK := mid_X hp
                simp only [encX] at h26
                conv => arg 3; simp only [mkT, putT, List.reduceReplicate, List.set]
                refine EVgo9 (And.intro (hlt) (eK)) (h26) trivial trivial trivial trivial trivial trivial trivial trivial trivial trivial ?_
                first | refine WO.step (k_lookup rfl rfl rfl hi) ?_ | refine WOc.step (k_lookup rfl rfl rfl hi) ?_
                conv => arg 2; simp only [setOpt, List.set, Nat.reduceLT, Int.reduceToNat, List.drop_drop, valT, List.getD_cons_zero, List.getD_cons_succ, Int.reduceLT, Int.reduceLE, Int.reduceAdd, Int.reduceSub, Int.reduceMul, Int.reduceNeg, Int.reduceEq, Int.reduceNe, Int.cast_ofNat_Int, Int.natCast_zero, Int.natCast_one, ge_iff_le, gt_iff_lt, decide_true, decide_false, Bool.not_true, Bool.not_false, Int.toNat_natCast, Nat.sub_zero, Nat.mul_one, Option.isSome_some, Option.isSome_none, Bool.false_eq_true, Bool.and_true, Bool.true_and, Bool.and_false, Bool.false_and, Nat.zero_add, Nat.zero_mul, List.drop_zero, reduceIte, setRange, PV.cells, fillB, List.take, List.drop, List.append_eq, List.cons_append, List.nil_append, List.length, List.map, List.zip, List.zipWith, List.replicate, List.flatten, Nat.reduceAdd, Nat.reduceMul, Nat.reduceSub, PV.mapId, mapIds, Option.map, Blk.mapId, sigN, sigS, hlt]
                try conv => arg 3; simp only [Nat.reduceLT, List.reduceReplicate, List.flatten_cons, List.flatten_nil, List.append_nil, Nat.reduceMul, Nat.mul_one, Nat.one_mul, Nat.zero_mul, Nat.zero_add, List.drop_zero, List.drop_succ_cons, List.drop_nil, List.take_succ_cons, List.take_zero, List.take_nil, List.drop_drop, setRange, PV.cells, valT, List.getD_cons_zero, List.getD_cons_succ, List.take, List.length, Nat.reduceAdd, List.nil_append, applyU, hset, hdel, Nat.reduceEqDiff, reduceIte, List.append_eq, List.cons_append, List.nil_append, frz, rowsOf, updsNew, updsAt, sigN, sigS, PV.mapId, mapIds, Option.map, Blk.mapId, List.drop, heapOf, hlt]
                conv => arg 5; simp only [stride, Nat.reduceAdd]
                refine EVgo9 trivial trivial trivial trivial trivial trivial trivial trivial trivial trivial trivial trivial ?_
                first | refine WO.step (k_lookup rfl rfl rfl ht) ?_ | refine WOc.step (k_lookup rfl rfl rfl ht) ?_
                conv => arg 2; simp only [setOpt, List.set, Nat.reduceLT, Int.reduceToNat, List.drop_drop, valT, List.getD_cons_zero, List.getD_cons_succ, Int.reduceLT, Int.reduceLE, Int.reduceAdd, Int.reduceSub, Int.reduceMul, Int.reduceNeg, Int.reduceEq, Int.reduceNe, Int.cast_ofNat_Int, Int.natCast_zero, Int.natCast_one, ge_iff_le, gt_iff_lt, decide_true, decide_false, Bool.not_true, Bool.not_false, Int.toNat_natCast, Nat.sub_zero, Nat.mul_one, Option.isSome_some, Option.isSome_none, Bool.false_eq_true, Bool.and_true, Bool.true_and, Bool.and_false, Bool.false_and, Nat.zero_add, Nat.zero_mul, List.drop_zero, reduceIte, setRange, PV.cells, fillB, List.take, List.drop, List.append_eq, List.cons_append, List.nil_append, List.length, List.map, List.zip, List.zipWith, List.replicate, List.flatten, Nat.reduceAdd, Nat.reduceMul, Nat.reduceSub, PV.mapId, mapIds, Option.map, Blk.mapId, sigN, sigS, hlt]
                try conv => arg 3; simp only [Nat.reduceLT, List.reduceReplicate, List.flatten_cons, List.flatten_nil, List.append_nil, Nat.reduceMul, Nat.mul_one, Nat.one_mul, Nat.zero_mul, Nat.zero_add, List.drop_zero, List.drop_succ_cons, List.drop_nil, List.take_succ_cons, List.take_zero, List.take_nil, List.drop_drop, setRange, PV.cells, valT, List.getD_cons_zero, List.getD_cons_succ, List.take, List.length, Nat.reduceAdd, List.nil_append, applyU, hset, hdel, Nat.reduceEqDiff, reduceIte, List.append_eq, List.cons_append, List.nil_append, frz, rowsOf, updsNew, updsAt, sigN, sigS, PV.mapId, mapIds, Option.map, Blk.mapId, List.drop, heapOf, hlt]
                conv => arg 5; simp only [stride, Nat.reduceAdd]
                refine EVgo9 (hng) trivial trivial trivial trivial trivial trivial trivial trivial trivial trivial trivial ?_
                first | refine WO.step (k_mapup rfl rfl rfl rfl hi) ?_ | refine WOc.step (k_mapup rfl rfl rfl rfl hi) ?_
                conv => arg 2; simp only [setOpt, List.set, Nat.reduceLT, Int.reduceToNat, List.drop_drop, valT, List.getD_cons_zero, List.getD_cons_succ, Int.reduceLT, Int.reduceLE, Int.reduceAdd, Int.reduceSub, Int.reduceMul, Int.reduceNeg, Int.reduceEq, Int.reduceNe, Int.cast_ofNat_Int, Int.natCast_zero, Int.natCast_one, ge_iff_le, gt_iff_lt, decide_true, decide_false, Bool.not_true, Bool.not_false, Int.toNat_natCast, Nat.sub_zero, Nat.mul_one, Option.isSome_some, Option.isSome_none, Bool.false_eq_true, Bool.and_true, Bool.true_and, Bool.and_false, Bool.false_and, Nat.zero_add, Nat.zero_mul, List.drop_zero, reduceIte, setRange, PV.cells, fillB, List.take, List.drop, List.append_eq, List.cons_append, List.nil_append, List.length, List.map, List.zip, List.zipWith, List.replicate, List.flatten, Nat.reduceAdd, Nat.reduceMul, Nat.reduceSub, PV.mapId, mapIds, Option.map, Blk.mapId, sigN, sigS, hng]
                try conv => arg 3; simp only [Nat.reduceLT, List.reduceReplicate, List.flatten_cons, List.flatten_nil, List.append_nil, Nat.reduceMul, Nat.mul_one, Nat.one_mul, Nat.zero_mul, Nat.zero_add, List.drop_zero, List.drop_succ_cons, List.drop_nil, List.take_succ_cons, List.take_zero, List.take_nil, List.drop_drop, setRange, PV.cells, valT, List.getD_cons_zero, List.getD_cons_succ, List.take, List.length, Nat.reduceAdd, List.nil_append, applyU, hset, hdel, Nat.reduceEqDiff, reduceIte, List.append_eq, List.cons_append, List.nil_append, frz, rowsOf, updsNew, updsAt, sigN, sigS, PV.mapId, mapIds, Option.map, Blk.mapId, List.drop, heapOf, hng]
                conv => arg 5; simp only [stride, Nat.reduceAdd]
                first | refine WO.step (k_mapup rfl rfl rfl rfl ht) ?_ | refine WOc.step (k_mapup rfl rfl rfl rfl ht) ?_
                conv => arg 2; simp only [setOpt, List.set, Nat.reduceLT, Int.reduceToNat, List.drop_drop, valT, List.getD_cons_zero, List.getD_cons_succ, Int.reduceLT, Int.reduceLE, Int.reduceAdd, Int.reduceSub, Int.reduceMul, Int.reduceNeg, Int.reduceEq, Int.reduceNe, Int.cast_ofNat_Int, Int.natCast_zero, Int.natCast_one, ge_iff_le, gt_iff_lt, decide_true, decide_false, Bool.not_true, Bool.not_false, Int.toNat_natCast, Nat.sub_zero, Nat.mul_one, Option.isSome_some, Option.isSome_none, Bool.false_eq_true, Bool.and_true, Bool.true_and, Bool.and_false, Bool.false_and, Nat.zero_add, Nat.zero_mul, List.drop_zero, reduceIte, setRange, PV.cells, fillB, List.take, List.drop, List.append_eq, List.cons_append, List.nil_append, List.length, List.map, List.zip, List.zipWith, List.replicate, List.flatten, Nat.reduceAdd, Nat.reduceMul, Nat.reduceSub, PV.mapId, mapIds, Option.map, Blk.mapId, sigN, sigS, hng]
                try conv => arg 3; simp only [Nat.reduceLT, List.reduceReplicate, List.flatten_cons, List.flatten_nil, List.append_nil, Nat.reduceMul, Nat.mul_one, Nat.one_mul, Nat.zero_mul, Nat.zero_add, List.drop_zero, List.drop_succ_cons, List.drop_nil, List.take_succ_cons, List.take_zero, List.take_nil, List.drop_drop, setRange, PV.cells, valT, List.getD_cons_zero, List.getD_cons_succ, List.take, List.length, Nat.reduceAdd, List.nil_append, applyU, hset, hdel, Nat.reduceEqDiff, reduceIte, List.append_eq, List.cons_append, List.nil_append, frz, rowsOf, updsNew, updsAt, sigN, sigS, PV.mapId, mapIds, Option.map, Blk.mapId, List.drop, heapOf, hng]
                conv => arg 5; simp only [stride, Nat.reduceAdd]
                refine EVgo9 (hww) trivial trivial trivial trivial trivial trivial trivial trivial trivial trivial trivial ?_
                exact WC.loop rfl hih'
              · rw [List.concat_eq_append] at hp0
                have hpl : p.length = p0.length + 1 := by rw [hp0, snoc_len]
                have hng : ((p.length : Int) > 0) := by omega
                have w1 : IntKind.i64.wrap ((p.length : Int) - 1) = (p0.length : Int) := by rw [i64_in _ (by omega)]; omega
                have hl0 : (p0.length : Int) < (l.length : Int) := by omega
                have hsy := may_sml (hm y (by rw [hp0]; simp)) (by omega)
                have h27 := s27 hcf y x hsy hsx
                have hlo : lastOk p x = decide (ordI y x < 0) := by
                  rw [hp0]
                  unfold lastOk
                  rw [List.getLast?_append]
                  rfl
                rw [hlo] at hok'
                generalize ordI y x = o at *
                obtain ⟨a, b, c⟩ := x
                obtain ⟨d, e, f⟩ := y
                have eK := mid_X hp
                have eP := mid_X (m := l) (p := p0) (r := (a, b, c) :: r) (a := d) (b := e) (c := f) (by rw [← hp, hp0]; simp)
                simp only [encX] at h26 h27
                by_cases ho : o < 0
                · have ho' : ¬ (o ≥ 0) := by omega
                  rw [decide_eq_true ho, Bool.true_and] at hok'
                  have hih' := hih hok' hmm
                  conv => arg 3; simp only [mkT, putT, List.reduceReplicate, List.set]
                  refine EVgo9 (And.intro (hlt) (eK)) (h26) trivial trivial trivial trivial trivial trivial trivial trivial trivial trivial ?_
                  first | refine WO.step (k_lookup rfl rfl rfl hi) ?_ | refine WOc.step (k_lookup rfl rfl rfl hi) ?_
                  conv => arg 2; simp only [setOpt, List.set, Nat.reduceLT, Int.reduceToNat, List.drop_drop, valT, List.getD_cons_zero, List.getD_cons_succ, Int.reduceLT, Int.reduceLE, Int.reduceAdd, Int.reduceSub, Int.reduceMul, Int.reduceNeg, Int.reduceEq, Int.reduceNe, Int.cast_ofNat_Int, Int.natCast_zero, Int.natCast_one, ge_iff_le, gt_iff_lt, decide_true, decide_false, Bool.not_true, Bool.not_false, Int.toNat_natCast, Nat.sub_zero, Nat.mul_one, Option.isSome_some, Option.isSome_none, Bool.false_eq_true, Bool.and_true, Bool.true_and, Bool.and_false, Bool.false_and, Nat.zero_add, Nat.zero_mul, List.drop_zero, reduceIte, setRange, PV.cells, fillB, List.take, List.drop, List.append_eq, List.cons_append, List.nil_append, List.length, List.map, List.zip, List.zipWith, List.replicate, List.flatten, Nat.reduceAdd, Nat.reduceMul, Nat.reduceSub, PV.mapId, mapIds, Option.map, Blk.mapId, sigN, sigS, hlt]
                  try conv => arg 3; simp only [Nat.reduceLT, List.reduceReplicate, List.flatten_cons, List.flatten_nil, List.append_nil, Nat.reduceMul, Nat.mul_one, Nat.one_mul, Nat.zero_mul, Nat.zero_add, List.drop_zero, List.drop_succ_cons, List.drop_nil, List.take_succ_cons, List.take_zero, List.take_nil, List.drop_drop, setRange, PV.cells, valT, List.getD_cons_zero, List.getD_cons_succ, List.take, List.length, Nat.reduceAdd, List.nil_append, applyU, hset, hdel, Nat.reduceEqDiff, reduceIte, List.append_eq, List.cons_append, List.nil_append, frz, rowsOf, updsNew, updsAt, sigN, sigS, PV.mapId, mapIds, Option.map, Blk.mapId, List.drop, heapOf, hlt]
                  conv => arg 5; simp only [stride, Nat.reduceAdd]
                  refine EVgo9 trivial trivial trivial trivial trivial trivial trivial trivial trivial trivial trivial trivial ?_
                  first | refine WO.step (k_lookup rfl rfl rfl ht) ?_ | refine WOc.step (k_lookup rfl rfl rfl ht) ?_
                  conv => arg 2; simp only [setOpt, List.set, Nat.reduceLT, Int.reduceToNat, List.drop_drop, valT, List.getD_cons_zero, List.getD_cons_succ, Int.reduceLT, Int.reduceLE, Int.reduceAdd, Int.reduceSub, Int.reduceMul, Int.reduceNeg, Int.reduceEq, Int.reduceNe, Int.cast_ofNat_Int, Int.natCast_zero, Int.natCast_one, ge_iff_le, gt_iff_lt, decide_true, decide_false, Bool.not_true, Bool.not_false, Int.toNat_natCast, Nat.sub_zero, Nat.mul_one, Option.isSome_some, Option.isSome_none, Bool.false_eq_true, Bool.and_true, Bool.true_and, Bool.and_false, Bool.false_and, Nat.zero_add, Nat.zero_mul, List.drop_zero, reduceIte, setRange, PV.cells, fillB, List.take, List.drop, List.append_eq, List.cons_append, List.nil_append, List.length, List.map, List.zip, List.zipWith, List.replicate, List.flatten, Nat.reduceAdd, Nat.reduceMul, Nat.reduceSub, PV.mapId, mapIds, Option.map, Blk.mapId, sigN, sigS, hlt]
                  try conv => arg 3; simp only [Nat.reduceLT, List.reduceReplicate, List.flatten_cons, List.flatten_nil, List.append_nil, Nat.reduceMul, Nat.mul_one, Nat.one_mul, Nat.zero_mul, Nat.zero_add, List.drop_zero, List.drop_succ_cons, List.drop_nil, List.take_succ_cons, List.take_zero, List.take_nil, List.drop_drop, setRange, PV.cells, valT, List.getD_cons_zero, List.getD_cons_succ, List.take, List.length, Nat.reduceAdd, List.nil_append, applyU, hset, hdel, Nat.reduceEqDiff, reduceIte, List.append_eq, List.cons_append, List.nil_append, frz, rowsOf, updsNew, updsAt, sigN, sigS, PV.mapId, mapIds, Option.map, Blk.mapId, List.drop, heapOf, hlt]
                  conv => arg 5; simp only [stride, Nat.reduceAdd]
                  refine EVgo9 (And.intro (hng) ( And.intro (w1) ( And.intro (hl0) ( And.intro (eP) (ho'))))) (h27) trivial trivial trivial trivial trivial trivial trivial trivial trivial trivial ?_
                  first | refine WO.step (k_mapup rfl rfl rfl rfl hi) ?_ | refine WOc.step (k_mapup rfl rfl rfl rfl hi) ?_
                  conv => arg 2; simp only [setOpt, List.set, Nat.reduceLT, Int.reduceToNat, List.drop_drop, valT, List.getD_cons_zero, List.getD_cons_succ, Int.reduceLT, Int.reduceLE, Int.reduceAdd, Int.reduceSub, Int.reduceMul, Int.reduceNeg, Int.reduceEq, Int.reduceNe, Int.cast_ofNat_Int, Int.natCast_zero, Int.natCast_one, ge_iff_le, gt_iff_lt, decide_true, decide_false, Bool.not_true, Bool.not_false, Int.toNat_natCast, Nat.sub_zero, Nat.mul_one, Option.isSome_some, Option.isSome_none, Bool.false_eq_true, Bool.and_true, Bool.true_and, Bool.and_false, Bool.false_and, Nat.zero_add, Nat.zero_mul, List.drop_zero, reduceIte, setRange, PV.cells, fillB, List.take, List.drop, List.append_eq, List.cons_append, List.nil_append, List.length, List.map, List.zip, List.zipWith, List.replicate, List.flatten, Nat.reduceAdd, Nat.reduceMul, Nat.reduceSub, PV.mapId, mapIds, Option.map, Blk.mapId, sigN, sigS, hng]
                  try conv => arg 3; simp only [Nat.reduceLT, List.reduceReplicate, List.flatten_cons, List.flatten_nil, List.append_nil, Nat.reduceMul, Nat.mul_one, Nat.one_mul, Nat.zero_mul, Nat.zero_add, List.drop_zero, List.drop_succ_cons, List.drop_nil, List.take_succ_cons, List.take_zero, List.take_nil, List.drop_drop, setRange, PV.cells, valT, List.getD_cons_zero, List.getD_cons_succ, List.take, List.length, Nat.reduceAdd, List.nil_append, applyU, hset, hdel, Nat.reduceEqDiff, reduceIte, List.append_eq, List.cons_append, List.nil_append, frz, rowsOf, updsNew, updsAt, sigN, sigS, PV.mapId, mapIds, Option.map, Blk.mapId, List.drop, heapOf, hng]
                  conv => arg 5; simp only [stride, Nat.reduceAdd]
                  first | refine WO.step (k_mapup rfl rfl rfl rfl ht) ?_ | refine WOc.step (k_mapup rfl rfl rfl rfl ht) ?_
                  conv => arg 2; simp only [setOpt, List.set, Nat.reduceLT, Int.reduceToNat, List.drop_drop, valT, List.getD_cons_zero, List.getD_cons_succ, Int.reduceLT, Int.reduceLE, Int.reduceAdd, Int.reduceSub, Int.reduceMul, Int.reduceNeg, Int.reduceEq, Int.reduceNe, Int.cast_ofNat_Int, Int.natCast_zero, Int.natCast_one, ge_iff_le, gt_iff_lt, decide_true, decide_false, Bool.not_true, Bool.not_false, Int.toNat_natCast, Nat.sub_zero, Nat.mul_one, Option.isSome_some, Option.isSome_none, Bool.false_eq_true, Bool.and_true, Bool.true_and, Bool.and_false, Bool.false_and, Nat.zero_add, Nat.zero_mul, List.drop_zero, reduceIte, setRange, PV.cells, fillB, List.take, List.drop, List.append_eq, List.cons_append, List.nil_append, List.length, List.map, List.zip, List.zipWith, List.replicate, List.flatten, Nat.reduceAdd, Nat.reduceMul, Nat.reduceSub, PV.mapId, mapIds, Option.map, Blk.mapId, sigN, sigS, hng]
                  try conv => arg 3; simp only [Nat.reduceLT, List.reduceReplicate, List.flatten_cons, List.flatten_nil, List.append_nil, Nat.reduceMul, Nat.mul_one, Nat.one_mul, Nat.zero_mul, Nat.zero_add, List.drop_zero, List.drop_succ_cons, List.drop_nil, List.take_succ_cons, List.take_zero, List.take_nil, List.drop_drop, setRange, PV.cells, valT, List.getD_cons_zero, List.getD_cons_succ, List.take, List.length, Nat.reduceAdd, List.nil_append, applyU, hset, hdel, Nat.reduceEqDiff, reduceIte, List.append_eq, List.cons_append, List.nil_append, frz, rowsOf, updsNew, updsAt, sigN, sigS, PV.mapId, mapIds, Option.map, Blk.mapId, List.drop, heapOf, hng]
                  conv => arg 5; simp only [stride, Nat.reduceAdd]
                  refine EVgo9 (hww) trivial trivial trivial trivial trivial trivial trivial trivial trivial trivial trivial ?_
                  exact WC.loop rfl hih'
                · have ho' : o ≥ 0 := by omega
                  rw [decide_eq_false ho, Bool.false_and] at hok'
                  rw [hok']
                  conv => arg 3; simp only [mkT, putT, List.reduceReplicate, List.set]
                  refine EVgo9 (And.intro (hlt) (eK)) (h26) trivial trivial trivial trivial trivial trivial trivial trivial trivial trivial ?_
                  first | refine WO.step (k_lookup rfl rfl rfl hi) ?_ | refine WOc.step (k_lookup rfl rfl rfl hi) ?_
                  conv => arg 2; simp only [setOpt, List.set, Nat.reduceLT, Int.reduceToNat, List.drop_drop, valT, List.getD_cons_zero, List.getD_cons_succ, Int.reduceLT, Int.reduceLE, Int.reduceAdd, Int.reduceSub, Int.reduceMul, Int.reduceNeg, Int.reduceEq, Int.reduceNe, Int.cast_ofNat_Int, Int.natCast_zero, Int.natCast_one, ge_iff_le, gt_iff_lt, decide_true, decide_false, Bool.not_true, Bool.not_false, Int.toNat_natCast, Nat.sub_zero, Nat.mul_one, Option.isSome_some, Option.isSome_none, Bool.false_eq_true, Bool.and_true, Bool.true_and, Bool.and_false, Bool.false_and, Nat.zero_add, Nat.zero_mul, List.drop_zero, reduceIte, setRange, PV.cells, fillB, List.take, List.drop, List.append_eq, List.cons_append, List.nil_append, List.length, List.map, List.zip, List.zipWith, List.replicate, List.flatten, Nat.reduceAdd, Nat.reduceMul, Nat.reduceSub, PV.mapId, mapIds, Option.map, Blk.mapId, sigN, sigS, hlt]
                  try conv => arg 3; simp only [Nat.reduceLT, List.reduceReplicate, List.flatten_cons, List.flatten_nil, List.append_nil, Nat.reduceMul, Nat.mul_one, Nat.one_mul, Nat.zero_mul, Nat.zero_add, List.drop_zero, List.drop_succ_cons, List.drop_nil, List.take_succ_cons, List.take_zero, List.take_nil, List.drop_drop, setRange, PV.cells, valT, List.getD_cons_zero, List.getD_cons_succ, List.take, List.length, Nat.reduceAdd, List.nil_append, applyU, hset, hdel, Nat.reduceEqDiff, reduceIte, List.append_eq, List.cons_append, List.nil_append, frz, rowsOf, updsNew, updsAt, sigN, sigS, PV.mapId, mapIds, Option.map, Blk.mapId, List.drop, heapOf, hlt]
                  conv => arg 5; simp only [stride, Nat.reduceAdd]
                  refine EVgo9 trivial trivial trivial trivial trivial trivial trivial trivial trivial trivial trivial trivial ?_
                  first | refine WO.step (k_lookup rfl rfl rfl ht) ?_ | refine WOc.step (k_lookup rfl rfl rfl ht) ?_
                  conv => arg 2; simp only [setOpt, List.set, Nat.reduceLT, Int.reduceToNat, List.drop_drop, valT, List.getD_cons_zero, List.getD_cons_succ, Int.reduceLT, Int.reduceLE, Int.reduceAdd, Int.reduceSub, Int.reduceMul, Int.reduceNeg, Int.reduceEq, Int.reduceNe, Int.cast_ofNat_Int, Int.natCast_zero, Int.natCast_one, ge_iff_le, gt_iff_lt, decide_true, decide_false, Bool.not_true, Bool.not_false, Int.toNat_natCast, Nat.sub_zero, Nat.mul_one, Option.isSome_some, Option.isSome_none, Bool.false_eq_true, Bool.and_true, Bool.true_and, Bool.and_false, Bool.false_and, Nat.zero_add, Nat.zero_mul, List.drop_zero, reduceIte, setRange, PV.cells, fillB, List.take, List.drop, List.append_eq, List.cons_append, List.nil_append, List.length, List.map, List.zip, List.zipWith, List.replicate, List.flatten, Nat.reduceAdd, Nat.reduceMul, Nat.reduceSub, PV.mapId, mapIds, Option.map, Blk.mapId, sigN, sigS, hlt]
                  try conv => arg 3; simp only [Nat.reduceLT, List.reduceReplicate, List.flatten_cons, List.flatten_nil, List.append_nil, Nat.reduceMul, Nat.mul_one, Nat.one_mul, Nat.zero_mul, Nat.zero_add, List.drop_zero, List.drop_succ_cons, List.drop_nil, List.take_succ_cons, List.take_zero, List.take_nil, List.drop_drop, setRange, PV.cells, valT, List.getD_cons_zero, List.getD_cons_succ, List.take, List.length, Nat.reduceAdd, List.nil_append, applyU, hset, hdel, Nat.reduceEqDiff, reduceIte, List.append_eq, List.cons_append, List.nil_append, frz, rowsOf, updsNew, updsAt, sigN, sigS, PV.mapId, mapIds, Option.map, Blk.mapId, List.drop, heapOf, hlt]
                  conv => arg 5; simp only [stride, Nat.reduceAdd]
                  refine EVgo9 (And.intro (hng) ( And.intro (w1) ( And.intro (hl0) ( And.intro (eP) (ho'))))) (h27) trivial trivial trivial trivial trivial trivial trivial trivial trivial trivial ?_
                  exact EVret trivial
    · have h8' : (l.length : Int) > 8 := by omega
      rw [decide_eq_false h8]
      conv => arg 2; simp only [ir9]
      conv => arg 3; simp only [ir9, Go.Proofs.YtoihpjpgihhcjaaEv.start, List.length, Nat.reduceAdd, Nat.reduceSub, List.reduceReplicate, List.append_eq, List.cons_append, List.nil_append]
      conv => arg 4; simp only [heapOf]
      try conv => arg 5; simp only [List.length, Nat.reduceAdd]
      try conv => arg 6; simp only [List.length, Nat.reduceAdd]
      refine EVgo9 (h8') (h25) trivial trivial trivial trivial trivial trivial trivial trivial trivial trivial ?_
      exact EVret trivial
theorem s28 (q : Qu) (hl : q.2.length ≤ 9223372036854775807) : Sp cf 28 [encQ q] (encQ (saneQ q)) := by
  have h9 := s9 hcf q hl
  obtain ⟨nx, l⟩ := q
  refine sp_of hcf env28 ?_
  unfold saneQ
  cases hs : saneB nx l with
  | true =>
    rw [hs] at h9
    rw [if_pos rfl]
    simp only [encQ, slX] at *
    conv => arg 2; simp only [ir28]
    conv => arg 3; simp only [ir28, Go.Proofs.YtoihpjpgihhcjaaEv.start, List.length, Nat.reduceAdd, Nat.reduceSub, List.reduceReplicate, List.append_eq, List.cons_append, List.nil_append]
    conv => arg 4; simp only [heapOf]
    try conv => arg 5; simp only [List.length, Nat.reduceAdd]
    try conv => arg 6; simp only [List.length, Nat.reduceAdd]
    refine EVgo9 trivial (h9) trivial trivial trivial trivial trivial trivial trivial trivial trivial trivial ?_
    exact EVret trivial
  | false =>
    rw [hs] at h9
    rw [if_neg (by simp)]
    simp only [encQ, slX, flat_nil, List.length] at *
    conv => arg 2; simp only [ir28]
    conv => arg 3; simp only [ir28, Go.Proofs.YtoihpjpgihhcjaaEv.start, List.length, Nat.reduceAdd, Nat.reduceSub, List.reduceReplicate, List.append_eq, List.cons_append, List.nil_append]
    conv => arg 4; simp only [heapOf]
    try conv => arg 5; simp only [List.length, Nat.reduceAdd]
    try conv => arg 6; simp only [List.length, Nat.reduceAdd]
    refine EVgo9 trivial (h9) trivial trivial trivial trivial trivial trivial trivial trivial trivial trivial ?_
    exact EVret trivial
end
end Go.Proofs.YtoihpjpgihhcjaaR
