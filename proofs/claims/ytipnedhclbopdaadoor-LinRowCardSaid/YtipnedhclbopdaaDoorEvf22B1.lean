/- Operations as values; small functions. -/
import Derived.Test.YtipnedhclbopdaaDoorEvIr22
open Go Go.Proofs.YtipnedhclbopdaaDoorEv Go.Proofs.YtipnedhclbopdaaDoorR Go.IntWalk Go.Proofs
set_option maxRecDepth 20000
set_option maxHeartbeats 8000000
set_option linter.unusedVariables false
set_option linter.unusedSimpArgs false
namespace Go.Proofs.YtipnedhclbopdaaDoorR
abbrev Ot := Int × Int × Int × Int × Bool × Int × Int
def encT (x : Ot) : List PV := [.int .i64 x.1, .int .i64 x.2.1, .int .i64 x.2.2.1, .int .i64 x.2.2.2.1, .bool x.2.2.2.2.1, .int .i64 x.2.2.2.2.2.1, .int .i64 x.2.2.2.2.2.2]
def encI (x : Int) : List PV := [.int .i64 x]
def encB (x : Bool) : List PV := [.bool x]
def slT (l : List Ot) : PV := .sl l.length false (flat encT l)
def slI (l : List Int) : PV := .sl l.length false (flat encI l)
def slB (l : List Bool) : PV := .sl l.length false (flat encB l)
def kindT (x : Ot) : Int := x.2.1
def argT (x : Ot) : Int := x.2.2.1
def resT (x : Ot) : Int := x.2.2.2.1
def okT (x : Ot) : Bool := x.2.2.2.2.1
def fromT (x : Ot) : Int := x.2.2.2.2.2.1
def toT (x : Ot) : Int := x.2.2.2.2.2.2
def endT (x : Ot) : Bool := decide (0 ≤ toT x)
def nilT : Ot := (0, 0, 0, 0, false, 0, 0)
theorem lenT (l : List Ot) : (flat encT l).length = l.length * 7 := flat_length (enc := encT) (es := 7) (fun _ => rfl) l
theorem allT (l : List Ot) : (flat encT l).take (l.length * 7) = flat encT l := List.take_of_length_le (by rw [lenT]; exact Nat.le_refl _)
theorem lenI (l : List Int) : (flat encI l).length = l.length := by rw [flat_length (enc := encI) (es := 1) (fun _ => rfl) l, Nat.mul_one]
theorem allI (l : List Int) : (flat encI l).take l.length = flat encI l := List.take_of_length_le (by rw [lenI]; exact Nat.le_refl _)
theorem lenB (l : List Bool) : (flat encB l).length = l.length := by rw [flat_length (enc := encB) (es := 1) (fun _ => rfl) l, Nat.mul_one]
theorem allB (l : List Bool) : (flat encB l).take l.length = flat encB l := List.take_of_length_le (by rw [lenB]; exact Nat.le_refl _)
theorem snocI (l : List Int) (x : Int) : flat encI l ++ [PV.int .i64 x] = flat encI (l ++ [x]) := (flat_append l [x]).symm
theorem snocT (l : List Ot) (a b c d : Int) (e : Bool) (f g : Int) : flat encT l ++ [PV.int .i64 a, .int .i64 b, .int .i64 c, .int .i64 d, .bool e, .int .i64 f, .int .i64 g] = flat encT (l ++ [(a, b, c, d, e, f, g)]) := (flat_append l [(a, b, c, d, e, f, g)]).symm
theorem snoc_len {α : Type} (p : List α) (x : α) : (p ++ [x]).length = p.length + 1 := by simp
theorem mid_T {m p r : List Ot} {a b c d : Int} {e : Bool} {f g : Int} (h : p ++ (a, b, c, d, e, f, g) :: r = m) : (flat encT m).drop (p.length * 7) = .int .i64 a :: .int .i64 b :: .int .i64 c :: .int .i64 d :: .bool e :: .int .i64 f :: .int .i64 g :: flat encT r := by
  subst h
  rw [flat_drop (enc := encT) (es := 7) (fun _ => rfl), List.drop_left]
  rfl
theorem at_T {l : List Ot} {i : Nat} (hi : i < l.length) : (flat encT l).drop (i * 7) = PV.int .i64 (l.getD i nilT).1 :: .int .i64 (l.getD i nilT).2.1 :: .int .i64 (l.getD i nilT).2.2.1 :: .int .i64 (l.getD i nilT).2.2.2.1 :: .bool (l.getD i nilT).2.2.2.2.1 :: .int .i64 (l.getD i nilT).2.2.2.2.2.1 :: .int .i64 (l.getD i nilT).2.2.2.2.2.2 :: flat encT (l.drop (i + 1)) := by
  have := flat_at (enc := encT) (es := 7) (fun _ => rfl) hi
  rw [this, List.getD_eq_getElem?_getD, List.getElem?_eq_getElem hi]
  rfl
theorem at_I {l : List Int} {i : Nat} (hi : i < l.length) : (flat encI l).drop i = PV.int .i64 (l.getD i 0) :: flat encI (l.drop (i + 1)) := by
  have := flat_at (enc := encI) (es := 1) (fun _ => rfl) hi
  rw [Nat.mul_one] at this
  rw [this, List.getD_eq_getElem?_getD, List.getElem?_eq_getElem hi]
  rfl
theorem at_B {l : List Bool} {i : Nat} (hi : i < l.length) : (flat encB l).drop i = PV.bool (l.getD i false) :: flat encB (l.drop (i + 1)) := by
  have := flat_at (enc := encB) (es := 1) (fun _ => rfl) hi
  rw [Nat.mul_one] at this
  rw [this, List.getD_eq_getElem?_getD, List.getElem?_eq_getElem hi]
  rfl
theorem boolsOf_flat : ∀ d : List Bool, boolsOf (flat encB d) = some d
  | [] => rfl
  | x :: d => by rw [flat_cons]; show (match boolsOf (flat encB d) with | some l => some (x :: l) | none => none) = _; rw [boolsOf_flat d]
theorem intsOf_flat : ∀ d : List Int, intsOf (flat encI d) = some d
  | [] => rfl
  | x :: d => by rw [flat_cons]; show (match intsOf (flat encI d) with | some l => some (x :: l) | none => none) = _; rw [intsOf_flat d]
def andI (a b : Int) : Int := IntKind.i64.wrap ((BitVec.ofInt 64 a &&& BitVec.ofInt 64 b).toNat : Int)
theorem andI_le (a : Int) (b : Nat) (hb : b < 9223372036854775808) : ∃ k : Nat, andI a b = k ∧ k ≤ b := by
  refine ⟨(BitVec.ofInt 64 a &&& BitVec.ofInt 64 b).toNat, ?_, ?_⟩
  · have h : (BitVec.ofInt 64 a &&& BitVec.ofInt 64 (b : Int)).toNat ≤ b := by
      rw [BitVec.toNat_and, BitVec.ofInt_natCast, BitVec.toNat_ofNat, Nat.mod_eq_of_lt (by omega)]
      exact Nat.and_le_right
    unfold andI
    rw [i64_in _ (by omega)]
  · rw [BitVec.toNat_and, BitVec.ofInt_natCast, BitVec.toNat_ofNat, Nat.mod_eq_of_lt (by omega)]
    exact Nat.and_le_right
theorem andI_fold (a b : Int) : IntKind.i64.wrap ((BitVec.ofInt IntKind.i64.bits a &&& BitVec.ofInt IntKind.i64.bits b).toNat : Int) = andI a b := rfl
def isB (d : List Bool) (i : Nat) : Bool := d.getD i false
section
variable {cf : CF} (hcf : cf = ev env)
include hcf
theorem s24 (o : Ot) : Sp cf 24 [.agg (encT o)] (.bool (endT o)) := by
  obtain ⟨a, b, c, d, e, f, g⟩ := o
  refine sp_of hcf env24 ?_
  simp only [encT]
  conv => arg 2; simp only [ir24]
  conv => arg 3; simp only [ir24, Go.Proofs.YtipnedhclbopdaaDoorEv.start, List.length, Nat.reduceAdd, Nat.reduceSub, List.reduceReplicate, List.append_eq, List.cons_append, List.nil_append]
  conv => arg 4; simp only [heapOf]
  try conv => arg 5; simp only [List.length, Nat.reduceAdd]
  try conv => arg 6; simp only [List.length, Nat.reduceAdd]
  refine EVgo9 trivial trivial trivial trivial trivial trivial trivial trivial trivial trivial trivial trivial ?_
  exact EVret trivial
theorem s11 (o : Ot) : Sp cf 11 [.agg (encT o)] (.agg (encT o)) := by
  obtain ⟨a, b, c, d, e, f, g⟩ := o
  refine sp_of hcf env11 ?_
  simp only [encT]
  conv => arg 2; simp only [ir11]
  conv => arg 3; simp only [ir11, Go.Proofs.YtipnedhclbopdaaDoorEv.start, List.length, Nat.reduceAdd, Nat.reduceSub, List.reduceReplicate, List.append_eq, List.cons_append, List.nil_append]
  conv => arg 4; simp only [heapOf]
  try conv => arg 5; simp only [List.length, Nat.reduceAdd]
  try conv => arg 6; simp only [List.length, Nat.reduceAdd]
  refine EVgo9 trivial trivial trivial trivial trivial trivial trivial trivial trivial trivial trivial trivial ?_
  exact EVret trivial
theorem s23 (d : List Bool) (i : Nat) (hd : d.length ≤ 1000000) (hi : i ≤ 1000000) : Sp cf 23 [slB d, .int .i64 (i : Nat)] (.bool (isB d i)) := by
  refine sp_of hcf env23 ?_
  simp only [slB]
  by_cases h : i < d.length
  · have e := at_B h
    have h' : (i : Int) < (d.length : Int) := by omega
    conv => arg 2; simp only [ir23]
    conv => arg 3; simp only [ir23, Go.Proofs.YtipnedhclbopdaaDoorEv.start, List.length, Nat.reduceAdd, Nat.reduceSub, List.reduceReplicate, List.append_eq, List.cons_append, List.nil_append]
    conv => arg 4; simp only [heapOf]
    try conv => arg 5; simp only [List.length, Nat.reduceAdd]
    try conv => arg 6; simp only [List.length, Nat.reduceAdd]
    refine EVgo9 (And.intro (h') (e)) trivial trivial trivial trivial trivial trivial trivial trivial trivial trivial trivial ?_
    exact EVret trivial
  · have h' : ¬ (i : Int) < (d.length : Int) := by omega
    have e : isB d i = false := by unfold isB; rw [List.getD_eq_getElem?_getD, List.getElem?_eq_none (by omega)]; rfl
    rw [e]
    conv => arg 2; simp only [ir23]
    conv => arg 3; simp only [ir23, Go.Proofs.YtipnedhclbopdaaDoorEv.start, List.length, Nat.reduceAdd, Nat.reduceSub, List.reduceReplicate, List.append_eq, List.cons_append, List.nil_append]
    conv => arg 4; simp only [heapOf]
    try conv => arg 5; simp only [List.length, Nat.reduceAdd]
    try conv => arg 6; simp only [List.length, Nat.reduceAdd]
    refine EVgo9 (h') trivial trivial trivial trivial trivial trivial trivial trivial trivial trivial trivial ?_
    exact EVret trivial
theorem s25 (d : List Bool) (i : Nat) (hd : d.length ≤ 1000000) (hi : i ≤ 1000000) : Sp cf 25 [slB d, .int .i64 (i : Nat)] (.bool (isB d i)) := by
  refine sp_of hcf env25 ?_
  simp only [slB]
  by_cases h : i < d.length
  · have e := at_B h
    have h' : (i : Int) < (d.length : Int) := by omega
    conv => arg 2; simp only [ir25]
    conv => arg 3; simp only [ir25, Go.Proofs.YtipnedhclbopdaaDoorEv.start, List.length, Nat.reduceAdd, Nat.reduceSub, List.reduceReplicate, List.append_eq, List.cons_append, List.nil_append]
    conv => arg 4; simp only [heapOf]
    try conv => arg 5; simp only [List.length, Nat.reduceAdd]
    try conv => arg 6; simp only [List.length, Nat.reduceAdd]
    refine EVgo9 (And.intro (h') (e)) trivial trivial trivial trivial trivial trivial trivial trivial trivial trivial trivial ?_
    exact EVret trivial
  · have h' : ¬ (i : Int) < (d.length : Int) := by omega
    have e : isB d i = false := by unfold isB; rw [List.getD_eq_getElem?_getD, List.getElem?_eq_none (by omega)]; rfl
    rw [e]
    conv => arg 2; simp only [ir25]
    conv => arg 3; simp only [ir25, Go.Proofs.YtipnedhclbopdaaDoorEv.start, List.length, Nat.reduceAdd, Nat.reduceSub, List.reduceReplicate, List.append_eq, List.cons_append, List.nil_append]
    conv => arg 4; simp only [heapOf]
    try conv => arg 5; simp only [List.length, Nat.reduceAdd]
    try conv => arg 6; simp only [List.length, Nat.reduceAdd]
    refine EVgo9 (h') trivial trivial trivial trivial trivial trivial trivial trivial trivial trivial trivial ?_
    exact EVret trivial
end
end Go.Proofs.YtipnedhclbopdaaDoorR
