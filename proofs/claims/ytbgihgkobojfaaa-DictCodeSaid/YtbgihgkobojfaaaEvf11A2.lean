/- Evf11A2: a part of the proof. -/
import Derived.Test.YtbgihgkobojfaaaEvf11A0
open Go Go.Proofs.YtbgihgkobojfaaaEv Go.Proofs.YtbgihgkobojfaaaR Go.IntWalk Go.Proofs
set_option maxRecDepth 20000
set_option maxHeartbeats 8000000
set_option linter.unusedVariables false
set_option linter.unusedSimpArgs false
namespace Go.Proofs.YtbgihgkobojfaaaR
abbrev Bs := List UInt8
def sB (l : Bs) : PV := .str ⟨l.toArray⟩
theorem toL (l : Bs) : (⟨l.toArray⟩ : ByteArray).toList = l := by rw [ByteArray.toList_eq]
theorem szB (l : Bs) : (⟨l.toArray⟩ : ByteArray).size = l.length := rfl
theorem exB (l : Bs) (a b : Nat) : (⟨l.toArray⟩ : ByteArray).extract a b = ⟨((l.take b).drop a).toArray⟩ := by
  apply ByteArray.ext
  rw [ByteArray.data_extract]
  show l.toArray.extract a b = _
  rw [List.extract_toArray, List.drop_take, List.extract_eq_take_drop]
theorem idxB (l : Bs) (i : Nat) (h : i < l.length) : (⟨l.toArray⟩ : ByteArray)[i]? = some l[i] := by
  rw [getElem?_pos (⟨l.toArray⟩ : ByteArray) i (show i < (⟨l.toArray⟩ : ByteArray).size from h)]
  rfl
theorem strB (s : ByteArray) : PV.str s = sB s.toList := by
  unfold sB
  rw [ByteArray.toList_eq]
theorem cmpB (u v : Bs) : ((⟨u.toArray⟩ : ByteArray).toList == (⟨v.toArray⟩ : ByteArray).toList) = decide (u = v) := by
  rw [toL, toL]
  by_cases h : u = v
  · rw [decide_eq_true h]; exact beq_iff_eq.2 h
  · rw [decide_eq_false h]; exact beq_eq_false_iff_ne.2 h
/-- how far it has come, brought to where it may be -/
def inN (n : Nat) (i : Int) : Nat := if i ≤ 0 then 0 else if (n : Int) ≤ i then n else i.toNat
theorem inN_le (n : Nat) (i : Int) : inN n i ≤ n := by unfold inN; split <;> (try split) <;> omega
theorem inN_mm (n : Nat) (i : Int) : (if (0 : Int) < (if (n : Int) < i then (n : Int) else i) then (if (n : Int) < i then (n : Int) else i) else 0) = ((inN n i : Nat) : Int) := by
  unfold inN
  (repeat' split) <;> omega
theorem inN_nat {n i : Nat} (h : i ≤ n) : inN n (i : Int) = i := by unfold inN; split <;> (try split) <;> omega
def srcE (L : Bs) (i : Int) : PV := .agg [sB L, .int .i64 i]
/-- up to the first byte of which something holds -/
def upto (p : UInt8 → Bool) (l : Bs) : Bs := l.takeWhile fun b => !p b
def cutP (p : UInt8 → Bool) (L : Bs) (a : Nat) : Bs × Nat := (upto p (L.drop a), if (upto p (L.drop a)).length < (L.drop a).length then a + (upto p (L.drop a)).length + 1 else L.length)
theorem upto_le (p : UInt8 → Bool) (l : Bs) : (upto p l).length ≤ l.length := (List.takeWhile_prefix _).length_le
theorem upto_all {p : UInt8 → Bool} {l : Bs} (h : ∀ b ∈ l, p b = false) : upto p l = l := by
  induction l with
  | nil => rfl
  | cons b l ih =>
    have hb := h b List.mem_cons_self
    unfold upto at ih ⊢
    rw [List.takeWhile_cons_of_pos (by simp [hb]), ih fun c hc => h c (List.mem_cons_of_mem _ hc)]
theorem upto_at {p : UInt8 → Bool} {q : Bs} {b : UInt8} {r : Bs} (h : ∀ c ∈ q, p c = false) (hb : p b = true) : upto p (q ++ b :: r) = q := by
  induction q with
  | nil => unfold upto; rw [List.nil_append, List.takeWhile_cons_of_neg (by simp [hb])]
  | cons c q ih =>
    have hc := h c List.mem_cons_self
    unfold upto at ih ⊢
    rw [List.cons_append, List.takeWhile_cons_of_pos (by simp [hc]), ih fun c hc => h c (List.mem_cons_of_mem _ hc)]
def emptyP (b : UInt8) : Bool := decide (b.toNat ≤ 32)
def fullP (b : UInt8) : Bool := decide (32 < b.toNat)
def delimP (d : Int) (b : UInt8) : Bool := (b.toNat : Int) == d
def skipN (L : Bs) (i : Int) : Nat := inN L.length i + (upto fullP (L.drop (inN L.length i))).length
def wordP (L : Bs) (i : Int) : Bs × Nat := cutP emptyP L (skipN L i)
def parseP (L : Bs) (i d : Int) : Bs × Nat := if d = 32 then cutP emptyP L (inN L.length i) else cutP (delimP d) L (inN L.length i)
theorem skipN_le (L : Bs) (i : Int) : skipN L i ≤ L.length := by
  unfold skipN
  have h := inN_le L.length i
  have := upto_le fullP (L.drop (inN L.length i))
  rw [List.length_drop] at this
  omega
theorem cutP_le {p : UInt8 → Bool} {L : Bs} {a : Nat} (h : a ≤ L.length) : (cutP p L a).2 ≤ L.length := by
  unfold cutP
  simp only [List.length_drop]
  split <;> omega
/-- what comes back: a piece, and how far it has come -/
def encC (L : Bs) (x : Bs × Nat) : PV := .tup [sB x.1, srcE L (x.2 : Nat)]
theorem cutP_hit {p : UInt8 → Bool} {L q r : Bs} {b : UInt8} {a : Nat} (h : q ++ b :: r = L.drop a) (hq : ∀ c ∈ q, p c = false) (hb : p b = true) : cutP p L a = (q, a + q.length + 1) := by
  unfold cutP
  rw [← h, upto_at hq hb, if_pos (by simp)]
theorem cutP_miss {p : UInt8 → Bool} {L : Bs} {a : Nat} (hq : ∀ c ∈ L.drop a, p c = false) : cutP p L a = (L.drop a, L.length) := by
  unfold cutP
  rw [upto_all hq, if_neg (Nat.lt_irrefl _)]
theorem all_snoc {p : UInt8 → Bool} {q : Bs} {b : UInt8} (h : ∀ c ∈ q, p c = false) (hb : p b = false) : ∀ c ∈ q ++ [b], p c = false := fun c hc => by
  rcases List.mem_append.1 hc with w | w
  · exact h c w
  · rw [List.mem_singleton.1 w]; exact hb
theorem at_B {m q r : Bs} {b : UInt8} (h : q ++ b :: r = m) : (⟨m.toArray⟩ : ByteArray)[((q.length : Nat) : Int).toNat]? = some b := by
  subst h
  rw [Int.toNat_natCast, idxB _ _ (by simp)]
  simp
theorem pre_B {m q r : Bs} (h : q ++ r = m) : (⟨m.toArray⟩ : ByteArray).extract 0 q.length = ⟨q.toArray⟩ := by
  rw [exB, ← h, List.take_left, List.drop_zero]
theorem snoc_lenB (q : Bs) (b : UInt8) : (q ++ [b]).length = q.length + 1 := by simp
def capN (b : Nat) : Nat := if 97 ≤ b ∧ b ≤ 122 then b - 32 else b
def up8 (b : UInt8) : UInt8 := UInt8.ofNat (capN b.toNat)
def upL (l : List UInt8) : List UInt8 := l.map up8
theorem capN_lt {b : Nat} (h : b < 256) : capN b < 256 := by unfold capN; split <;> omega
theorem up8_nat (b : UInt8) : (up8 b).toNat = capN b.toNat := by
  unfold up8
  rw [UInt8.toNat_ofNat']
  exact Nat.mod_eq_of_lt (capN_lt b.toNat_lt)
theorem bytesOf_map : ∀ l : List UInt8, bytesOf (l.map fun b => PV.int .u8 b.toNat) = some l
  | [] => rfl
  | b :: l => by rw [List.map_cons]; simp only [bytesOf, bytesOf_map l]; simp
theorem b2sM {T : List PV} {H : Heap} {new : Nat} {cf : CF} {x : X} {id n : Nat} {l : List UInt8} (hx : valT T x = .own id 1 0 n) (hc : hget H id = some (.row (l.map fun b => PV.int .u8 b.toNat))) (hn : l.length = n) : EK cf (.b2s x) new T H (.str ⟨l.toArray⟩) [] :=
  k_b2s hx (by intro s h; cases h) (n := n) (cs := l.map fun b => PV.int .u8 b.toNat) (by
    show srcOf H (.own id 1 0 n) = _
    simp only [srcOf, hc, Nat.mul_one, Nat.zero_add, List.drop_zero, List.length_map, hn, Nat.le_refl, if_true]
    rw [List.take_of_length_le (by simp [hn])]) (by simpa using hn) (bytesOf_map _)
theorem row_set {α : Type} (f : α → PV) (A B : List α) (x y : α) {n : Nat} (h : A.length = n) : ((A ++ x :: B).map f).take n ++ [f y] ++ ((A ++ x :: B).map f).drop (n + 1) = (A ++ y :: B).map f := by
  subst h
  have e1 : ((A ++ x :: B).map f).take A.length = A.map f := by rw [List.map_append]; exact List.take_left' (by simp)
  have e2 : ((A ++ x :: B).map f).drop (A.length + 1) = B.map f := by
    rw [show A ++ x :: B = (A ++ [x]) ++ B by simp, List.map_append]
    exact List.drop_left' (by simp)
  rw [e1, e2]
  simp
theorem u8sub {b : Nat} (h1 : 97 ≤ b) (h2 : b ≤ 122) : IntKind.u8.wrap ((b : Int) - 32) = ((b - 32 : Nat) : Int) := by
  unfold IntKind.wrap; simp [IntKind.signed, IntKind.bits]; omega
def isB (d : Int) (b : UInt8) : Bool := delimP d b || (d == 32 && emptyP b)
theorem isB_eq (d : Int) (b : UInt8) : isB d b = if d = 32 then emptyP b else delimP d b := by
  unfold isB delimP emptyP
  by_cases h : d = 32
  · subst h
    rw [if_pos rfl, beq_self_eq_true, Bool.true_and]
    by_cases q : b.toNat = 32
    · simp [q]
    · have : ((b.toNat : Int) == 32) = false := beq_eq_false_iff_ne.2 (by omega)
      rw [this, Bool.false_or]
  · rw [if_neg h, beq_eq_false_iff_ne.2 h, Bool.false_and, Bool.or_false]
section
variable {cf : CF} {E : Env} (hcf : cf = ev E) (hE : ∀ n, n ≠ 11 → E n = envh n)
include hcf hE
theorem s41 (b : Nat) (hb : b < 256) : Sp cf 41 [.int .u8 (b : Nat)] (.int .u8 (capN b : Nat)) := by
  refine sp_of hcf ((hE 41 (by decide)).trans envh41) ?_
  conv => arg 2; simp only [ir41]
  conv => arg 3; simp only [ir41, Go.Proofs.YtbgihgkobojfaaaEv.start, List.length, Nat.reduceAdd, Nat.reduceSub, List.reduceReplicate, List.append_eq, List.cons_append, List.nil_append]
  conv => arg 4; simp only [heapOf]
  try conv => arg 5; simp only [List.length, Nat.reduceAdd]
  try conv => arg 6; simp only [List.length, Nat.reduceAdd]
  by_cases h1 : 97 ≤ b
  · have h1' : (b : Int) ≥ 97 := by omega
    by_cases h2 : b ≤ 122
    · have h2' : (b : Int) ≤ 122 := by omega
      have w1 : IntKind.u8.wrap ((b : Int) - 97) = (b : Int) - 97 := by unfold IntKind.wrap; simp [IntKind.signed, IntKind.bits]; omega
      have w2 : IntKind.u8.wrap ((b : Int) - 97 + 65) = ((b - 32 : Nat) : Int) := by unfold IntKind.wrap; simp [IntKind.signed, IntKind.bits]; omega
      have e : capN b = b - 32 := if_pos ⟨h1, h2⟩
      rw [e]
      refine EVgo9 (And.intro (h1') ( And.intro (h2') ( And.intro (w1) (w2)))) trivial trivial trivial trivial trivial trivial trivial trivial trivial trivial trivial ?_
      exact EVret trivial
    · have h2' : ¬ (b : Int) ≤ 122 := by omega
      have e : capN b = b := if_neg fun q => h2 q.2
      rw [e]
      refine EVgo9 (And.intro (h1') (h2')) trivial trivial trivial trivial trivial trivial trivial trivial trivial trivial trivial ?_
      exact EVret trivial
  · have h1' : ¬ (b : Int) ≥ 97 := by omega
    have e : capN b = b := if_neg fun q => h1 q.1
    rw [e]
    refine EVgo9 (h1') trivial trivial trivial trivial trivial trivial trivial trivial trivial trivial trivial ?_
    exact EVret trivial
theorem s22 (s : ByteArray) (hs : s.size ≤ 1000000) : Sp cf 22 [.str s] (.str ⟨(upL s.toList).toArray⟩) := by
  have ls : s.toList.length = s.size := by rw [ByteArray.toList_eq]; rfl
  refine sp_of hcf ((hE 22 (by decide)).trans envh22) ?_
  conv => arg 2; simp only [ir22]
  conv => arg 3; simp only [ir22, Go.Proofs.YtbgihgkobojfaaaEv.start, List.length, Nat.reduceAdd, Nat.reduceSub, List.reduceReplicate, List.append_eq, List.cons_append, List.nil_append]
  conv => arg 4; simp only [heapOf]
  try conv => arg 5; simp only [List.length, Nat.reduceAdd]
  try conv => arg 6; simp only [List.length, Nat.reduceAdd]
  refine EVgo9 trivial trivial trivial trivial trivial trivial trivial trivial trivial trivial trivial trivial ?_
  refine WC.loop (T' := _) (H' := _) (n' := _) rfl ((?_ : ∀ (k i : Nat) (P : List UInt8), i + k = s.size → P.length = s.size → P = upL (s.toList.take i) ++ s.toList.drop i →
    WC cf _ (mkT 23 [(3, .own 0 1 0 s.size), (8, .own 0 1 0 s.size), (9, .int .i64 (s.size : Nat)), (10, .int .i64 (i : Nat))]) [(0, .row (P.map fun b => .int .u8 b.toNat))] 0 1 _) s.size 0 s.toList (by omega) ls rfl)
  intro k
  induction k with
  | zero =>
    intro i P hi hP hx
    obtain rfl : i = s.size := by omega
    rw [← ls, List.take_length, List.drop_length, List.append_nil] at hx
    rw [hx] at hP ⊢
    conv => arg 3; simp only [mkT, putT, List.reduceReplicate, List.set]
    refine EVgl9 trivial trivial trivial trivial trivial trivial trivial trivial trivial trivial trivial trivial ?_
    first | refine WO.step (b2sM rfl rfl hP) ?_ | refine WOc.step (b2sM rfl rfl hP) ?_
    conv => arg 2; simp only [setOpt, List.set, Nat.reduceLT, Int.reduceToNat, List.drop_drop, valT, List.getD_cons_zero, List.getD_cons_succ, Int.reduceLT, Int.reduceLE, Int.reduceAdd, Int.reduceSub, Int.reduceMul, Int.reduceNeg, Int.reduceEq, Int.reduceNe, Int.cast_ofNat_Int, Int.natCast_zero, Int.natCast_one, ge_iff_le, gt_iff_lt, decide_true, decide_false, Bool.not_true, Bool.not_false, Int.toNat_natCast, Nat.sub_zero, Nat.mul_one, Option.isSome_some, Option.isSome_none, Bool.false_eq_true, Bool.and_true, Bool.true_and, Bool.and_false, Bool.false_and, Nat.zero_add, Nat.zero_mul, List.drop_zero, reduceIte, setRange, PV.cells, fillB, List.take, List.drop, List.append_eq, List.cons_append, List.nil_append, List.length, List.map, List.zip, List.zipWith, List.replicate, List.flatten, Nat.reduceAdd, Nat.reduceMul, Nat.reduceSub, PV.mapId, mapIds, Option.map, Blk.mapId, sigN, sigS, Int.lt_irrefl]
    try conv => arg 3; simp only [Nat.reduceLT, List.reduceReplicate, List.flatten_cons, List.flatten_nil, List.append_nil, Nat.reduceMul, Nat.mul_one, Nat.one_mul, Nat.zero_mul, Nat.zero_add, List.drop_zero, List.drop_succ_cons, List.drop_nil, List.take_succ_cons, List.take_zero, List.take_nil, List.drop_drop, setRange, PV.cells, valT, List.getD_cons_zero, List.getD_cons_succ, List.take, List.length, Nat.reduceAdd, List.nil_append, applyU, hset, hdel, Nat.reduceEqDiff, reduceIte, List.append_eq, List.cons_append, List.nil_append, frz, rowsOf, updsNew, updsAt, sigN, sigS, PV.mapId, mapIds, Option.map, Blk.mapId, List.drop, heapOf, Int.lt_irrefl]
    conv => arg 5; simp only [stride, Nat.reduceAdd]
    refine EVgo9 trivial trivial trivial trivial trivial trivial trivial trivial trivial trivial trivial trivial ?_
    exact EVret trivial
  | succ k ih =>
    intro i P hi hP hx
    have hi' : i < s.toList.length := by omega
    have hlt : (i : Int) < (s.size : Int) := by omega
    have hw : IntKind.i64.wrap ((i : Int) + 1) = ((i + 1 : Nat) : Int) := by rw [i64_in _ (by omega)]; simp
    have lu : (upL (s.toList.take i)).length = i := by unfold upL; rw [List.length_map, List.length_take]; omega
    have hPi : P = upL (s.toList.take i) ++ s.toList[i] :: s.toList.drop (i + 1) := by rw [hx, List.drop_eq_getElem_cons hi']
    have e1 : ((P.map fun b => PV.int .u8 b.toNat).drop i).take 1 = [.int .u8 (s.toList[i].toNat : Nat)] := by
      rw [hPi, List.map_append, List.drop_left' (by rw [List.length_map, lu])]
      rfl
    have hnx : upL (s.toList.take i) ++ up8 s.toList[i] :: s.toList.drop (i + 1) = upL (s.toList.take (i + 1)) ++ s.toList.drop (i + 1) := by
      rw [List.take_succ_eq_append_getElem hi']
      unfold upL
      rw [List.map_append, List.append_assoc]
      rfl
    have hst : (P.map fun b => PV.int .u8 b.toNat).take i ++ [PV.int .u8 (capN s.toList[i].toNat : Nat)] ++ (P.map fun b => PV.int .u8 b.toNat).drop (i + 1) = (upL (s.toList.take i) ++ up8 s.toList[i] :: s.toList.drop (i + 1)).map fun b => PV.int .u8 b.toNat := by
      rw [hPi, ← up8_nat]
      exact row_set (fun b : UInt8 => PV.int .u8 b.toNat) _ _ s.toList[i] (up8 s.toList[i]) lu
    have hih := ih (i + 1) _ (by omega) (by simp only [List.length_append, lu, List.length_cons, List.length_drop, ls]; omega) hnx
    conv => arg 3; simp only [mkT, putT, List.reduceReplicate, List.set]
    refine EVgo9 (hlt) trivial trivial trivial trivial trivial trivial trivial trivial trivial trivial trivial ?_
    first | refine WO.step (k_load1 rfl rfl e1) ?_ | refine WOc.step (k_load1 rfl rfl e1) ?_
    conv => arg 2; simp only [setOpt, List.set, Nat.reduceLT, Int.reduceToNat, List.drop_drop, valT, List.getD_cons_zero, List.getD_cons_succ, Int.reduceLT, Int.reduceLE, Int.reduceAdd, Int.reduceSub, Int.reduceMul, Int.reduceNeg, Int.reduceEq, Int.reduceNe, Int.cast_ofNat_Int, Int.natCast_zero, Int.natCast_one, ge_iff_le, gt_iff_lt, decide_true, decide_false, Bool.not_true, Bool.not_false, Int.toNat_natCast, Nat.sub_zero, Nat.mul_one, Option.isSome_some, Option.isSome_none, Bool.false_eq_true, Bool.and_true, Bool.true_and, Bool.and_false, Bool.false_and, Nat.zero_add, Nat.zero_mul, List.drop_zero, reduceIte, setRange, PV.cells, fillB, List.take, List.drop, List.append_eq, List.cons_append, List.nil_append, List.length, List.map, List.zip, List.zipWith, List.replicate, List.flatten, Nat.reduceAdd, Nat.reduceMul, Nat.reduceSub, PV.mapId, mapIds, Option.map, Blk.mapId, sigN, sigS, hlt]
    try conv => arg 3; simp only [Nat.reduceLT, List.reduceReplicate, List.flatten_cons, List.flatten_nil, List.append_nil, Nat.reduceMul, Nat.mul_one, Nat.one_mul, Nat.zero_mul, Nat.zero_add, List.drop_zero, List.drop_succ_cons, List.drop_nil, List.take_succ_cons, List.take_zero, List.take_nil, List.drop_drop, setRange, PV.cells, valT, List.getD_cons_zero, List.getD_cons_succ, List.take, List.length, Nat.reduceAdd, List.nil_append, applyU, hset, hdel, Nat.reduceEqDiff, reduceIte, List.append_eq, List.cons_append, List.nil_append, frz, rowsOf, updsNew, updsAt, sigN, sigS, PV.mapId, mapIds, Option.map, Blk.mapId, List.drop, heapOf, hlt]
    conv => arg 5; simp only [stride, Nat.reduceAdd]
    refine EVgo9 trivial (s41 hcf hE s.toList[i].toNat s.toList[i].toNat_lt) trivial trivial trivial trivial trivial trivial trivial trivial trivial trivial ?_
    first | refine WO.step (k_store_row rfl rfl rfl rfl (by rw [List.length_map, hP]; omega) rfl) ?_ | refine WOc.step (k_store_row rfl rfl rfl rfl (by rw [List.length_map, hP]; omega) rfl) ?_
    conv => arg 2; simp only [setOpt, List.set, Nat.reduceLT, Int.reduceToNat, List.drop_drop, valT, List.getD_cons_zero, List.getD_cons_succ, Int.reduceLT, Int.reduceLE, Int.reduceAdd, Int.reduceSub, Int.reduceMul, Int.reduceNeg, Int.reduceEq, Int.reduceNe, Int.cast_ofNat_Int, Int.natCast_zero, Int.natCast_one, ge_iff_le, gt_iff_lt, decide_true, decide_false, Bool.not_true, Bool.not_false, Int.toNat_natCast, Nat.sub_zero, Nat.mul_one, Option.isSome_some, Option.isSome_none, Bool.false_eq_true, Bool.and_true, Bool.true_and, Bool.and_false, Bool.false_and, Nat.zero_add, Nat.zero_mul, List.drop_zero, reduceIte, setRange, PV.cells, fillB, List.take, List.drop, List.append_eq, List.cons_append, List.nil_append, List.length, List.map, List.zip, List.zipWith, List.replicate, List.flatten, Nat.reduceAdd, Nat.reduceMul, Nat.reduceSub, PV.mapId, mapIds, Option.map, Blk.mapId, sigN, sigS, hst]
    try conv => arg 3; simp only [Nat.reduceLT, List.reduceReplicate, List.flatten_cons, List.flatten_nil, List.append_nil, Nat.reduceMul, Nat.mul_one, Nat.one_mul, Nat.zero_mul, Nat.zero_add, List.drop_zero, List.drop_succ_cons, List.drop_nil, List.take_succ_cons, List.take_zero, List.take_nil, List.drop_drop, setRange, PV.cells, valT, List.getD_cons_zero, List.getD_cons_succ, List.take, List.length, Nat.reduceAdd, List.nil_append, applyU, hset, hdel, Nat.reduceEqDiff, reduceIte, List.append_eq, List.cons_append, List.nil_append, frz, rowsOf, updsNew, updsAt, sigN, sigS, PV.mapId, mapIds, Option.map, Blk.mapId, List.drop, heapOf, hst]
    conv => arg 5; simp only [stride, Nat.reduceAdd]
    refine EVgo9 (hw) trivial trivial trivial trivial trivial trivial trivial trivial trivial trivial trivial ?_
    exact WC.loop rfl hih
end
end Go.Proofs.YtbgihgkobojfaaaR
