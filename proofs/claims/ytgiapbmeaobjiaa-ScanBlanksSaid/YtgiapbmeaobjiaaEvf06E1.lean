/- Evf06E1: a part of the proof. -/
import Derived.Test.YtgiapbmeaobjiaaEvIr06
import Derived.Test.YtgiapbmeaobjiaaEv5
import Derived.IntWalk
open Go Go.Proofs.YtgiapbmeaobjiaaEv Go.Proofs.YtgiapbmeaobjiaaR Go.IntWalk
set_option maxRecDepth 20000
set_option maxHeartbeats 8000000
set_option linter.unusedVariables false
set_option linter.unusedSimpArgs false
namespace Go.Proofs.YtgiapbmeaobjiaaR
abbrev Bs := List UInt8
def sB (l : Bs) : PV := .str ⟨l.toArray⟩
theorem toL (l : Bs) : (⟨l.toArray⟩ : ByteArray).toList = l := by rw [ByteArray.toList_eq]
theorem szB (l : Bs) : (⟨l.toArray⟩ : ByteArray).size = l.length := rfl
theorem exB (l : Bs) (a b : Nat) : (⟨l.toArray⟩ : ByteArray).extract a b = ⟨((l.take b).drop a).toArray⟩ := by
  apply ByteArray.ext
  rw [ByteArray.data_extract]
  show l.toArray.extract a b = _
  rw [List.extract_toArray, List.drop_take, List.extract_eq_take_drop]
theorem idxB (l : Bs) (i : Nat) (h : i < l.length) : (⟨l.toArray⟩ : ByteArray)[i]? = some l[i] := by
  rw [getElem?_pos (⟨l.toArray⟩ : ByteArray) i (show i < (⟨l.toArray⟩ : ByteArray).size from h)]
  rfl
theorem strB (s : ByteArray) : PV.str s = sB s.toList := by
  unfold sB
  rw [ByteArray.toList_eq]
theorem cmpB (u v : Bs) : ((⟨u.toArray⟩ : ByteArray).toList == (⟨v.toArray⟩ : ByteArray).toList) = decide (u = v) := by
  rw [toL, toL]
  by_cases h : u = v
  · rw [decide_eq_true h]; exact beq_iff_eq.2 h
  · rw [decide_eq_false h]; exact beq_eq_false_iff_ne.2 h
/-- how far it has come, brought to where it may be -/
def inN (n : Nat) (i : Int) : Nat := if i ≤ 0 then 0 else if (n : Int) ≤ i then n else i.toNat
theorem inN_le (n : Nat) (i : Int) : inN n i ≤ n := by unfold inN; split <;> (try split) <;> omega
theorem inN_mm (n : Nat) (i : Int) : (if (0 : Int) < (if (n : Int) < i then (n : Int) else i) then (if (n : Int) < i then (n : Int) else i) else 0) = ((inN n i : Nat) : Int) := by
  unfold inN
  (repeat' split) <;> omega
theorem natOf_nat {k : IntKind} {a d : Nat} : natOf (some (.int k (a : Int))) d = some a := by simp [natOf]
theorem inN_nat {n i : Nat} (h : i ≤ n) : inN n (i : Int) = i := by unfold inN; split <;> (try split) <;> omega
def srcE (L : Bs) (i : Int) : PV := .agg [sB L, .int .i64 i]
/-- up to the first byte of which something holds -/
def upto (p : UInt8 → Bool) (l : Bs) : Bs := l.takeWhile fun b => !p b
def cutP (p : UInt8 → Bool) (L : Bs) (a : Nat) : Bs × Nat := (upto p (L.drop a), if (upto p (L.drop a)).length < (L.drop a).length then a + (upto p (L.drop a)).length + 1 else L.length)
theorem upto_le (p : UInt8 → Bool) (l : Bs) : (upto p l).length ≤ l.length := (List.takeWhile_prefix _).length_le
theorem upto_all {p : UInt8 → Bool} {l : Bs} (h : ∀ b ∈ l, p b = false) : upto p l = l := by
  induction l with
  | nil => rfl
  | cons b l ih =>
    have hb := h b List.mem_cons_self
    unfold upto at ih ⊢
    rw [List.takeWhile_cons_of_pos (by simp [hb]), ih fun c hc => h c (List.mem_cons_of_mem _ hc)]
theorem upto_at {p : UInt8 → Bool} {q : Bs} {b : UInt8} {r : Bs} (h : ∀ c ∈ q, p c = false) (hb : p b = true) : upto p (q ++ b :: r) = q := by
  induction q with
  | nil => unfold upto; rw [List.nil_append, List.takeWhile_cons_of_neg (by simp [hb])]
  | cons c q ih =>
    have hc := h c List.mem_cons_self
    unfold upto at ih ⊢
    rw [List.cons_append, List.takeWhile_cons_of_pos (by simp [hc]), ih fun c hc => h c (List.mem_cons_of_mem _ hc)]
def emptyP (b : UInt8) : Bool := decide (b.toNat ≤ 32)
def fullP (b : UInt8) : Bool := decide (32 < b.toNat)
def delimP (d : Int) (b : UInt8) : Bool := (b.toNat : Int) == d
def skipN (L : Bs) (i : Int) : Nat := inN L.length i + (upto fullP (L.drop (inN L.length i))).length
def wordP (L : Bs) (i : Int) : Bs × Nat := cutP emptyP L (skipN L i)
def parseP (L : Bs) (i d : Int) : Bs × Nat := if d = 32 then cutP emptyP L (inN L.length i) else cutP (delimP d) L (inN L.length i)
theorem skipN_le (L : Bs) (i : Int) : skipN L i ≤ L.length := by
  unfold skipN
  have h := inN_le L.length i
  have := upto_le fullP (L.drop (inN L.length i))
  rw [List.length_drop] at this
  omega
theorem cutP_le {p : UInt8 → Bool} {L : Bs} {a : Nat} (h : a ≤ L.length) : (cutP p L a).2 ≤ L.length := by
  unfold cutP
  simp only [List.length_drop]
  split <;> omega
/-- what comes back: a piece, and how far it has come -/
def encC (L : Bs) (x : Bs × Nat) : PV := .tup [sB x.1, srcE L (x.2 : Nat)]
section
variable {cf : CF} (hcf : cf = ev env)
include hcf
theorem s29 (L : Bs) (i : Int) : Sp cf 29 [srcE L i] (.int .i64 (inN L.length i : Nat)) := by
  refine sp_of hcf env29 ?_
  have hm := inN_mm L.length i
  simp only [srcE, sB]
  conv => arg 2; simp only [ir29]
  conv => arg 3; simp only [ir29, Go.Proofs.YtgiapbmeaobjiaaEv.start, List.length, Nat.reduceAdd, Nat.reduceSub, List.reduceReplicate, List.append_eq, List.cons_append, List.nil_append]
  conv => arg 4; simp only [heapOf]
  try conv => arg 5; simp only [List.length, Nat.reduceAdd]
  try conv => arg 6; simp only [List.length, Nat.reduceAdd]
  refine EVgo9 (And.intro (szB) (hm)) trivial trivial trivial trivial trivial trivial trivial trivial trivial trivial trivial ?_
  exact EVret trivial
theorem s31 (L : Bs) (i : Int) : Sp cf 31 [srcE L i] (.int .i64 (inN L.length i : Nat)) := by
  refine sp_of hcf env31 ?_
  have hm := inN_mm L.length i
  simp only [srcE, sB]
  conv => arg 2; simp only [ir31]
  conv => arg 3; simp only [ir31, Go.Proofs.YtgiapbmeaobjiaaEv.start, List.length, Nat.reduceAdd, Nat.reduceSub, List.reduceReplicate, List.append_eq, List.cons_append, List.nil_append]
  conv => arg 4; simp only [heapOf]
  try conv => arg 5; simp only [List.length, Nat.reduceAdd]
  try conv => arg 6; simp only [List.length, Nat.reduceAdd]
  refine EVgo9 (And.intro (szB) (hm)) trivial trivial trivial trivial trivial trivial trivial trivial trivial trivial trivial ?_
  exact EVret trivial
theorem s13 (L : Bs) (i : Int) (hL : L.length ≤ 1000000) : Sp cf 13 [srcE L i] (sB (L.drop (inN L.length i))) := by
  have h := s29 hcf L i
  have hle := inN_le L.length i
  generalize inN L.length i = a at *
  have e : (⟨L.toArray⟩ : ByteArray).extract a L.length = ⟨(L.drop a).toArray⟩ := by rw [exB, List.take_length]
  refine sp_of hcf env13 ?_
  simp only [srcE, sB] at h ⊢
  conv => arg 2; simp only [ir13]
  conv => arg 3; simp only [ir13, Go.Proofs.YtgiapbmeaobjiaaEv.start, List.length, Nat.reduceAdd, Nat.reduceSub, List.reduceReplicate, List.append_eq, List.cons_append, List.nil_append]
  conv => arg 4; simp only [heapOf]
  try conv => arg 5; simp only [List.length, Nat.reduceAdd]
  try conv => arg 6; simp only [List.length, Nat.reduceAdd]
  refine EVgo9 (And.intro (szB) (e)) (h) trivial trivial trivial trivial trivial trivial trivial trivial trivial trivial ?_
  exact EVret trivial
theorem s20 (L : Bs) (i : Int) (hL : L.length ≤ 1000000) : Sp cf 20 [srcE L i] (sB (L.drop (inN L.length i))) := by
  have h := s31 hcf L i
  have hle := inN_le L.length i
  generalize inN L.length i = a at *
  have e : (⟨L.toArray⟩ : ByteArray).extract a L.length = ⟨(L.drop a).toArray⟩ := by rw [exB, List.take_length]
  refine sp_of hcf env20 ?_
  simp only [srcE, sB] at h ⊢
  conv => arg 2; simp only [ir20]
  conv => arg 3; simp only [ir20, Go.Proofs.YtgiapbmeaobjiaaEv.start, List.length, Nat.reduceAdd, Nat.reduceSub, List.reduceReplicate, List.append_eq, List.cons_append, List.nil_append]
  conv => arg 4; simp only [heapOf]
  try conv => arg 5; simp only [List.length, Nat.reduceAdd]
  try conv => arg 6; simp only [List.length, Nat.reduceAdd]
  refine EVgo9 (And.intro (szB) (e)) (h) trivial trivial trivial trivial trivial trivial trivial trivial trivial trivial ?_
  exact EVret trivial
theorem s25 (b : UInt8) : Sp cf 25 [.int .u8 (b.toNat : Nat)] (.bool (emptyP b)) := by
  refine sp_of hcf env25 ?_
  have e : decide ((b.toNat : Int) ≤ 32) = emptyP b := by unfold emptyP; exact decide_eq_decide.2 (by omega)
  conv => arg 2; simp only [ir25]
  conv => arg 3; simp only [ir25, Go.Proofs.YtgiapbmeaobjiaaEv.start, List.length, Nat.reduceAdd, Nat.reduceSub, List.reduceReplicate, List.append_eq, List.cons_append, List.nil_append]
  conv => arg 4; simp only [heapOf]
  try conv => arg 5; simp only [List.length, Nat.reduceAdd]
  try conv => arg 6; simp only [List.length, Nat.reduceAdd]
  refine EVgo9 (e) trivial trivial trivial trivial trivial trivial trivial trivial trivial trivial trivial ?_
  exact EVret trivial
theorem s33 (b : UInt8) : Sp cf 33 [.int .u8 (b.toNat : Nat)] (.bool (fullP b)) := by
  refine sp_of hcf env33 ?_
  have e : decide ((32 : Int) < (b.toNat : Int)) = fullP b := by unfold fullP; exact decide_eq_decide.2 (by omega)
  conv => arg 2; simp only [ir33]
  conv => arg 3; simp only [ir33, Go.Proofs.YtgiapbmeaobjiaaEv.start, List.length, Nat.reduceAdd, Nat.reduceSub, List.reduceReplicate, List.append_eq, List.cons_append, List.nil_append]
  conv => arg 4; simp only [heapOf]
  try conv => arg 5; simp only [List.length, Nat.reduceAdd]
  try conv => arg 6; simp only [List.length, Nat.reduceAdd]
  refine EVgo9 (e) trivial trivial trivial trivial trivial trivial trivial trivial trivial trivial trivial ?_
  exact EVret trivial
theorem s30 (b : UInt8) (d : Int) : cf 30 [.int .u8 (b.toNat : Nat), .rop [.int .i64 d]] [] = some (.bool (delimP d b), []) := by
  have hb := b.toNat_lt
  have w : IntKind.i64.wrap (b.toNat : Int) = (b.toNat : Int) := i64_in _ (by omega)
  refine ev_ofC' hcf env30 ?_
  conv => arg 2; simp only [ir30]
  conv => arg 3; simp only [ir30, Go.Proofs.YtgiapbmeaobjiaaEv.start, List.length, Nat.reduceAdd, Nat.reduceSub, List.reduceReplicate, List.append_eq, List.cons_append, List.nil_append]
  conv => arg 4; simp only [heapOf]
  try conv => arg 5; simp only [List.length, Nat.reduceAdd]
  try conv => arg 6; simp only [List.length, Nat.reduceAdd]
  refine EVgo9 (w) trivial trivial trivial trivial trivial trivial trivial trivial trivial trivial trivial ?_
  exact WQ.ret rfl
end
end Go.Proofs.YtgiapbmeaobjiaaR
