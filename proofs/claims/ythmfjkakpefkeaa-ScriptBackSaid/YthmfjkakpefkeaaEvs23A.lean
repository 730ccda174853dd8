/- Evs23A: a part of the proof. -/
import Derived.Test.YthmfjkakpefkeaaEvIr23
import Derived.Test.YthmfjkakpefkeaaEv4
import Derived.IntWalk
open Go Go.Proofs.YthmfjkakpefkeaaEv Go.Proofs.YthmfjkakpefkeaaR Go.IntWalk
set_option maxRecDepth 20000
set_option maxHeartbeats 8000000
set_option linter.unusedVariables false
set_option linter.unusedSimpArgs false
namespace Go.Proofs.YthmfjkakpefkeaaR
def encB (b : UInt8) : List PV := [.int .u8 b.toNat]
theorem encB_len (b : UInt8) : (encB b).length = 1 := rfl
def rd (l : List UInt8) (t : Bool) : Option Blk := some (.box [.sl l.length t (flat encB l)])
section
variable {cf : CF} (hcf : cf = ev env)
include hcf
theorem s22 (n m : Int) : cf 22 [.int .i64 n, .int .i64 m] [] = some (.bool (decide (0 ≤ n ∧ n ≤ m)), []) := by
  refine ev_ofC' hcf env22 ?_
  conv => arg 2; simp only [ir22]
  conv => arg 3; simp only [ir22, Go.Proofs.YthmfjkakpefkeaaEv.start, List.length, Nat.reduceAdd, Nat.reduceSub, List.reduceReplicate, List.append_eq, List.cons_append, List.nil_append]
  conv => arg 4; simp only [heapOf]
  try conv => arg 5; simp only [List.length, Nat.reduceAdd]
  try conv => arg 6; simp only [List.length, Nat.reduceAdd]
  by_cases h : 0 ≤ n
  · refine EVgo2 (h) trivial trivial trivial trivial ?_
    exact WQ.ret (by simp only [h, true_and]; rfl)
  · refine EVgo2 (h) trivial trivial trivial trivial ?_
    exact WQ.ret (by simp only [h, false_and, decide_false]; rfl)
theorem s31 (l : List UInt8) (t : Bool) (c : Nat) : cf 31 [.ptr 0 0, .int .i64 c] [rd l t] = some (.sl (l.take c).length true (flat encB (l.take c)), [rd (l.drop c) t]) := by
  refine ev_ofC' hcf env31 ?_
  unfold rd
  conv => arg 2; simp only [ir31]
  conv => arg 3; simp only [ir31, Go.Proofs.YthmfjkakpefkeaaEv.start, List.length, Nat.reduceAdd, Nat.reduceSub, List.reduceReplicate, List.append_eq, List.cons_append, List.nil_append]
  conv => arg 4; simp only [heapOf]
  try conv => arg 5; simp only [List.length, Nat.reduceAdd]
  try conv => arg 6; simp only [List.length, Nat.reduceAdd]
  refine EVgo2 trivial trivial trivial trivial trivial ?_
  have e1 := flat_take encB_len l (min c l.length)
  have e2 := flat_drop encB_len l (min c l.length)
  simp only [Nat.mul_one] at e1 e2
  rw [e1, e2]
  have e3 : l.take (min c l.length) = l.take c := by rw [List.take_eq_take_iff]; omega
  have e4 : l.drop (min c l.length) = l.drop c := by rcases Nat.le_total c l.length with q | q <;> simp [q]
  rw [e3, e4]
  have e5 : (flat encB (l.drop c)).take (l.length - min c l.length) = flat encB (l.drop c) := List.take_of_length_le (by rw [flat_length encB_len]; simp; omega)
  rw [e5]
  have e6 : l.length - min c l.length = (l.drop c).length := by simp; omega
  have e7 : min c l.length = (l.take c).length := by simp
  rw [e6, e7]
  exact WQ.ret rfl
omit hcf in
theorem wB (b : UInt8) : IntKind.i64.wrap (b.toNat : Int) = b.toNat := i64_in _ (by have := b.toNat_lt; omega)
omit hcf in
theorem w1 : IntKind.i64.wrap 1 = 1 := by decide
def hd (l : List UInt8) : Nat := match l with | [] => 0 | b :: _ => b.toNat
theorem s32 (l : List UInt8) (t : Bool) : cf 32 [.ptr 0 0] [rd l t] = some (.int .i64 (hd l : Int), [rd (l.drop 1) t]) := by
  refine ev_ofC' hcf env32 ?_
  cases l with
  | nil =>
    unfold rd
    conv => arg 2; simp only [ir32]
    conv => arg 3; simp only [ir32, Go.Proofs.YthmfjkakpefkeaaEv.start, List.length, Nat.reduceAdd, Nat.reduceSub, List.reduceReplicate, List.append_eq, List.cons_append, List.nil_append]
    conv => arg 4; simp only [heapOf]
    try conv => arg 5; simp only [List.length, Nat.reduceAdd]
    try conv => arg 6; simp only [List.length, Nat.reduceAdd]
    refine EVgo2 trivial (s31 hcf [] t 1) trivial trivial trivial ?_
    refine WC.loop (T' := mkT 17 [(3, .int .i64 0), (7, .sl 0 true []), (8, .int .i64 0), (9, .int .i64 0)]) (H' := [(0, .box [.sl 0 t []])]) (n' := 1) rfl ?_
    conv => arg 3; simp only [mkT, putT, List.reduceReplicate, List.set]
    refine EVgo2 trivial trivial trivial trivial trivial ?_
    exact WQ.ret rfl
  | cons b r =>
    unfold rd
    conv => arg 2; simp only [ir32]
    conv => arg 3; simp only [ir32, Go.Proofs.YthmfjkakpefkeaaEv.start, List.length, Nat.reduceAdd, Nat.reduceSub, List.reduceReplicate, List.append_eq, List.cons_append, List.nil_append]
    conv => arg 4; simp only [heapOf]
    try conv => arg 5; simp only [List.length, Nat.reduceAdd]
    try conv => arg 6; simp only [List.length, Nat.reduceAdd]
    refine EVgo2 trivial (s31 hcf (b :: r) t 1) trivial trivial trivial ?_
    refine WC.loop (T' := mkT 17 [(3, .int .i64 0), (7, .sl 1 true [.int .u8 b.toNat]), (8, .int .i64 1), (9, .int .i64 0)]) (H' := [(0, .box [.sl r.length t (flat encB r)])]) (n' := 1) rfl ?_
    conv => arg 3; simp only [mkT, putT, List.reduceReplicate, List.set]
    refine EVgo2 (And.intro (wB) (w1)) trivial trivial trivial trivial ?_
    refine WC.loop (T' := mkT 17 [(3, .int .i64 b.toNat), (7, .sl 1 true [.int .u8 b.toNat]), (8, .int .i64 1), (9, .int .i64 1)]) (H' := [(0, .box [.sl r.length t (flat encB r)])]) (n' := 1) rfl ?_
    conv => arg 3; simp only [mkT, putT, List.reduceReplicate, List.set]
    refine EVgo2 trivial trivial trivial trivial trivial ?_
    exact WQ.ret rfl
omit hcf in
theorem wm {n : Nat} (h : n < 9223372036854775808) : IntKind.i64.wrap (n : Int) = n := i64_in _ (by omega)
omit hcf in
theorem hd_lt (l : List UInt8) : hd l < 256 := by
  unfold hd
  split
  · omega
  · next b _ => exact b.toNat_lt
omit hcf in
theorem shl_or {a b : Nat} (ha : a < 256) (hb : b < 256) : IntKind.i64.wrap (((BitVec.ofInt IntKind.i64.bits (IntKind.i64.wrap ((a : Int) * 2 ^ min (Int.toNat 8) IntKind.i64.bits)) ||| BitVec.ofInt IntKind.i64.bits (b : Int)).toNat : Nat) : Int) = ((a * 256 + b : Nat) : Int) := by
  have e1 : (2 : Int) ^ min (Int.toNat 8) IntKind.i64.bits = 256 := by decide
  have e2 : IntKind.i64.wrap ((a : Int) * 256) = ((a * 256 : Nat) : Int) := by rw [i64_in _ (by omega)]; simp
  rw [e1, e2]
  have e3 : (BitVec.ofInt IntKind.i64.bits ((a * 256 : Nat) : Int) ||| BitVec.ofInt IntKind.i64.bits (b : Int)).toNat = a * 256 + b := by
    rw [BitVec.toNat_or]
    have q : ∀ n : Nat, n < 2 ^ 64 → (BitVec.ofInt IntKind.i64.bits (n : Int)).toNat = n := by
      intro n hn
      show (BitVec.ofInt 64 (n : Int)).toNat = n
      rw [BitVec.ofInt_natCast, BitVec.toNat_ofNat]
      exact Nat.mod_eq_of_lt hn
    rw [q _ (by omega), q _ (by omega)]
    have := Nat.shiftLeft_add_eq_or_of_lt (b := b) (i := 8) (by omega) a
    rw [Nat.shiftLeft_eq, show (2 : Nat) ^ 8 = 256 from rfl] at this
    omega
  rw [e3]
  exact i64_in _ (by omega)
theorem s30 (l : List UInt8) (t : Bool) : cf 30 [.ptr 0 0] [rd l t] = some (.int .i64 ((hd l * 256 + hd (l.drop 1) : Nat) : Int), [rd (l.drop 2) t]) := by
  refine ev_ofC' hcf env30 ?_
  unfold rd
  conv => arg 2; simp only [ir30]
  conv => arg 3; simp only [ir30, Go.Proofs.YthmfjkakpefkeaaEv.start, List.length, Nat.reduceAdd, Nat.reduceSub, List.reduceReplicate, List.append_eq, List.cons_append, List.nil_append]
  conv => arg 4; simp only [heapOf]
  try conv => arg 5; simp only [List.length, Nat.reduceAdd]
  try conv => arg 6; simp only [List.length, Nat.reduceAdd]
  refine EVgo2 (shl_or (hd_lt l) (hd_lt (l.drop 1))) (s32 hcf l t) (s32 hcf (l.drop 1) t) trivial trivial ?_
  exact WQ.ret rfl
omit hcf in
theorem tm4 (a : Nat) : (a : Int).tmod 4 = ((a % 4 : Nat) : Int) := by rw [Int.tmod_eq_emod_of_nonneg (by omega)]; omega
omit hcf in
theorem tm5 (a : Nat) : (a : Int).tmod 5 = ((a % 5 : Nat) : Int) := by rw [Int.tmod_eq_emod_of_nonneg (by omega)]; omega
omit hcf in
theorem tm8 (a : Nat) : (a : Int).tmod 8 = ((a % 8 : Nat) : Int) := by rw [Int.tmod_eq_emod_of_nonneg (by omega)]; omega
omit hcf in
theorem tm32 (a : Nat) : (a : Int).tmod 32 = ((a % 32 : Nat) : Int) := by rw [Int.tmod_eq_emod_of_nonneg (by omega)]; omega
omit hcf in
theorem tm2001 (a : Nat) : (a : Int).tmod 2001 = ((a % 2001 : Nat) : Int) := by rw [Int.tmod_eq_emod_of_nonneg (by omega)]; omega
theorem s33 (l : List UInt8) (t : Bool) : cf 33 [.ptr 0 0] [rd l t] = some (.agg [.int .i64 ((hd l % 4 : Nat) : Int), .int .i64 ((hd (l.drop 1) * 256 + hd (l.drop 2) : Nat) : Int), .int .i64 (hd (l.drop 3) : Int)], [rd (l.drop 4) t]) := by
  refine ev_ofC' hcf env33 ?_
  unfold rd
  conv => arg 2; simp only [ir33]
  conv => arg 3; simp only [ir33, Go.Proofs.YthmfjkakpefkeaaEv.start, List.length, Nat.reduceAdd, Nat.reduceSub, List.reduceReplicate, List.append_eq, List.cons_append, List.nil_append]
  conv => arg 4; simp only [heapOf]
  try conv => arg 5; simp only [List.length, Nat.reduceAdd]
  try conv => arg 6; simp only [List.length, Nat.reduceAdd]
  refine EVgo9 (tm4) (s32 hcf l t) (s30 hcf (l.drop 1) t) (s32 hcf (l.drop 3) t) trivial trivial trivial trivial trivial trivial trivial trivial ?_
  exact WQ.ret rfl
omit hcf in
theorem bytesOf_flat : ∀ l : List UInt8, bytesOf (flat encB l) = some l
  | [] => rfl
  | b :: l => by rw [flat_cons]; simp only [encB, List.cons_append, List.nil_append, bytesOf, bytesOf_flat l]; simp
omit hcf in
theorem b2sB {T : List PV} {H : Heap} {new : Nat} {x : X} {k : Nat} {t : Bool} {l : List UInt8} (hx : valT T x = .sl k t (flat encB l)) (hk : k = l.length) : EK cf (.b2s x) new T H (.str ⟨l.toArray⟩) [] :=
  k_b2s hx (by intro s h; cases h) rfl ((flat_length encB_len _).trans (by omega)) (bytesOf_flat _)
theorem s34 (l : List UInt8) (t : Bool) : cf 34 [.ptr 0 0] [rd l t] = some (.agg [.str ⟨((l.drop 1).take (hd l % 32)).toArray⟩, .int .i64 ((hd (l.drop (1 + hd l % 32)) % 5 : Nat) : Int)], [rd (l.drop (2 + hd l % 32)) t]) := by
  refine ev_ofC' hcf env34 ?_
  unfold rd
  conv => arg 2; simp only [ir34]
  conv => arg 3; simp only [ir34, Go.Proofs.YthmfjkakpefkeaaEv.start, List.length, Nat.reduceAdd, Nat.reduceSub, List.reduceReplicate, List.append_eq, List.cons_append, List.nil_append]
  conv => arg 4; simp only [heapOf]
  try conv => arg 5; simp only [List.length, Nat.reduceAdd]
  try conv => arg 6; simp only [List.length, Nat.reduceAdd]
  refine EVgo9 (And.intro (tm32) (tm5)) (s32 hcf l t) (s31 hcf (l.drop 1) t (hd l % 32)) (s32 hcf (l.drop (1 + hd l % 32)) t) trivial trivial trivial trivial trivial trivial (@b2sB cf) trivial ?_
  have e : 1 + hd l % 32 + 1 = 2 + hd l % 32 := by omega
  rw [e]
  exact WQ.ret rfl
omit hcf in
def encO (o : Int × Int × Int) : List PV := [.int .i64 o.1, .int .i64 o.2.1, .int .i64 o.2.2]
omit hcf in
theorem lenO (l : List (Int × Int × Int)) : (flat encO l).length = l.length * 3 := flat_length (enc := encO) (es := 3) (fun _ => rfl) l
def encT (o : ByteArray × Int) : List PV := [.str o.1, .int .i64 o.2]
omit hcf in
theorem lenT (l : List (ByteArray × Int)) : (flat encT l).length = l.length * 2 := flat_length (enc := encT) (es := 2) (fun _ => rfl) l
def encC (o : Bool × Int × Bool) : List PV := [.bool o.1, .int .i64 o.2.1, .bool o.2.2]
omit hcf in
theorem lenC (l : List (Bool × Int × Bool)) : (flat encC l).length = l.length * 3 := flat_length (enc := encC) (es := 3) (fun _ => rfl) l
def objs : Nat → List UInt8 → List (Int × Int × Int)
  | 0, _ => []
  | n + 1, l => (((hd l % 4 : Nat) : Int), ((hd (l.drop 1) * 256 + hd (l.drop 2) : Nat) : Int), (hd (l.drop 3) : Int)) :: objs n (l.drop 4)
def tasks : Nat → List UInt8 → List (ByteArray × Int)
  | 0, _ => []
  | n + 1, l => (⟨((l.drop 1).take (hd l % 32)).toArray⟩, ((hd (l.drop (1 + hd l % 32)) % 5 : Nat) : Int)) :: tasks n (l.drop (2 + hd l % 32))
def tasksR : Nat → List UInt8 → List UInt8
  | 0, l => l
  | n + 1, l => tasksR n (l.drop (2 + hd l % 32))
def choice (b : UInt8) : Bool × Int × Bool := (decide (b.toNat % 2 = 1), ((b.toNat / 4 : Nat) : Int), decide (b.toNat / 2 % 2 = 1))
structure Scr where
  text : ByteArray
  objs : List (Int × Int × Int)
  tasks : List (ByteArray × Int)
  slice : Int
  choices : List (Bool × Int × Bool)
def get (b : List UInt8) : Scr :=
  let n := (hd b * 256 + hd (b.drop 1)) % 2001
  let b1 := b.drop (2 + n)
  let k := hd b1 % 5
  let b2 := b1.drop (1 + 4 * k)
  let j := hd b2 % 8
  let b3 := tasksR j (b2.drop 1)
  ⟨⟨((b.drop 2).take n).toArray⟩, objs k (b1.drop 1), tasks j (b2.drop 1), ((1 + hd b3 : Nat) : Int), ((b3.drop 1).take 4000).map choice⟩
def outS (m : Scr) : PV × List (Option Blk) := (.agg [.str m.text, .own 0 3 0 m.objs.length, .own 1 2 0 m.tasks.length, .int .i64 m.slice, .own 2 3 0 m.choices.length], [some (.row (flat encO m.objs)), some (.row (flat encT m.tasks)), some (.row (flat encC m.choices))])
end
end Go.Proofs.YthmfjkakpefkeaaR
