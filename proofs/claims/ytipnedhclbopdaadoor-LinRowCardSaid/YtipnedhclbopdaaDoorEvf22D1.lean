/- The search with its memory, as plain functions. -/
import Derived.Test.YtipnedhclbopdaaDoorEvf22C2
open Go Go.Proofs.YtipnedhclbopdaaDoorEv Go.Proofs.YtipnedhclbopdaaDoorR Go.IntWalk Go.Proofs
set_option maxRecDepth 20000
set_option maxHeartbeats 8000000
set_option linter.unusedVariables false
set_option linter.unusedSimpArgs false
namespace Go.Proofs.YtipnedhclbopdaaDoorR
abbrev Key := List UInt8
def hasK (q : List Key) (s : Key) : Bool := q.any fun y => s == y
def mOf (q : List Key) : List (PV × PV) := q.map fun s => (.str ⟨s.toArray⟩, .bool true)
theorem toL (s : Key) : (⟨s.toArray⟩ : ByteArray).toList = s := by rw [Lib.toList_data]
theorem cellEq_str (s y : Key) : cellEq (.str ⟨s.toArray⟩) (.str ⟨y.toArray⟩) = some (s == y) := by
  show some ((⟨s.toArray⟩ : ByteArray).toList == (⟨y.toArray⟩ : ByteArray).toList) = _
  rw [toL, toL]
theorem mfind_mOf (s : Key) : ∀ q : List Key, mfind (mOf q) (.str ⟨s.toArray⟩) = some (if hasK q s = true then some (.bool true) else none)
  | [] => rfl
  | y :: q => by
    show (match cellEq (.str ⟨s.toArray⟩) (.str ⟨y.toArray⟩) with | some true => some (some (PV.bool true)) | some false => mfind (mOf q) (.str ⟨s.toArray⟩) | none => none) = _
    rw [cellEq_str]
    unfold hasK
    rw [List.any_cons]
    cases h : (s == y) with
    | true => rfl
    | false => rw [Bool.false_or]; exact mfind_mOf s q
theorem mput_mOf (s : Key) : ∀ q : List Key, hasK q s = false → mput (mOf q) (.str ⟨s.toArray⟩) (.bool true) = mOf (q ++ [s])
  | [], _ => rfl
  | y :: q, h => by
    unfold hasK at h
    rw [List.any_cons, Bool.or_eq_false_iff] at h
    show (if cellEq (.str ⟨s.toArray⟩) (.str ⟨y.toArray⟩) = some true then _ else _) = _
    rw [cellEq_str, h.1, if_neg (by simp)]
    exact congrArg _ (mput_mOf s q h.2)
theorem k_lookup {cf : CF} {new : Nat} {T : List PV} {H : Heap} {m k : X} {id : Nat} {s : Key} {q : List Key} {b : Bool} (hm : valT T m = .map id) (hk : valT T k = .str ⟨s.toArray⟩) (hg : hget H id = some (.mp (mOf q))) (hb : hasK q s = b) : EK cf (.lookup 2 [.bool false] false m k) new T H (.bool b) [] := ⟨by
  simp only [evalK, hm, hk, hg, kindOf, if_true, mfind_mOf, hb]
  cases b <;> rfl⟩
theorem k_mapup {cf : CF} {new : Nat} {T : List PV} {H : Heap} {m k v : X} {id : Nat} {s : Key} {q : List Key} (hm : valT T m = .map id) (hk : valT T k = .str ⟨s.toArray⟩) (hv : valT T v = .bool true) (hg : hget H id = some (.mp (mOf q))) (hb : hasK q s = false) : EK cf (.mapup 2 m k v) new T H .undef [(id, some (.mp (mOf (q ++ [s]))))] := ⟨by
  simp only [evalK, hm, hk, hv, hg, kindOf, if_true, mfind_mOf, hb, PV.scalar, mput_mOf s q hb]
  rfl⟩
def leftL (d : List Bool) : Nat → List Ot → Bool
  | _, [] => false
  | k, o :: r => (!isB d k && endT o) || leftL d (k + 1) r
abbrev Rec := List Bool → List Int → List Key → Bool × List Key
def memoL (rec : Rec) (l : List Ot) (n : Int) (d : List Bool) (h : List Int) : Nat → List Ot → List Key → Bool × List Key
  | _, [], ms => (false, ms)
  | k, o :: r, ms =>
    if afterN l d k = true then
      if (applyT h o n).2 = true then
        if (rec (d.set k true) (applyT h o n).1 ms).1 = true then (true, (rec (d.set k true) (applyT h o n).1 ms).2)
        else memoL rec l n d h (k + 1) r (rec (d.set k true) (applyT h o n).1 ms).2
      else memoL rec l n d h (k + 1) r ms
    else memoL rec l n d h (k + 1) r ms
def memo (l : List Ot) (n : Int) : Nat → Rec
  | 0 => fun _ _ ms => (false, ms)
  | m + 1 => fun d h ms => if hasK ms (keyL d h) = true then (false, ms) else if leftL d 0 l = true then memoL (memo l n m) l n d h 0 l (ms ++ [keyL d h]) else (true, ms ++ [keyL d h])
/-- how many are not done -/
def cntF (d : List Bool) : Nat := d.count false
theorem cntF_set : ∀ (d : List Bool) (k : Nat), k < d.length → isB d k = false → cntF (d.set k true) + 1 = cntF d
  | [], k, h, _ => by simp at h
  | b :: d, 0, _, hb => by
    have : b = false := hb
    subst this
    simp [cntF, List.count_cons]
  | b :: d, k + 1, h, hb => by
    have ih := cntF_set d k (by simpa using h) (by simpa [isB] using hb)
    unfold cntF at *
    rw [List.set_cons_succ, List.count_cons, List.count_cons]
    omega
theorem after_not {l : List Ot} {d : List Bool} {k : Nat} (h : afterN l d k = true) : isB d k = false := by
  unfold afterN at h
  simp only [Bool.and_eq_true, Bool.not_eq_true'] at h
  exact h.1
theorem apply_len (h : List Int) (o : Ot) (n : Int) : (applyT h o n).1.length ≤ h.length + 1 := by
  unfold applyT addT takeT
  (repeat' split) <;> simp <;> omega
theorem inI_and (a : Int) : inI (andI a 4294967295) = true := by
  obtain ⟨k, hk, hk2⟩ := andI_le a 4294967295 (by decide)
  have hk' : andI a 4294967295 = (k : Int) := hk
  rw [hk']
  exact decide_eq_true (by omega)
theorem apply_in {h : List Int} {o : Ot} (n : Int) (hh : h.all inI = true) (ho : inI (argT o) = true) : (applyT h o n).1.all inI = true := by
  have hs : ∀ x ∈ h, inI x = true := List.all_eq_true.1 hh
  unfold applyT addT takeT
  (repeat' split) <;> first
    | exact hh
    | (rw [List.all_append, hh, Bool.true_and]; simp [ho, inI_and])
    | exact List.all_eq_true.2 fun x hx => hs x (List.mem_of_mem_take hx)
    | exact List.all_eq_true.2 fun x hx => hs x (List.mem_of_mem_drop hx)
theorem setB (d : List Bool) (k : Nat) (hk : k < d.length) : (flat encB d).take k ++ [PV.bool true] ++ (flat encB d).drop (k + 1) = flat encB (d.set k true) := by
  have e1 := flat_take (enc := encB) (es := 1) (fun _ => rfl) d k
  have e2 := flat_drop (enc := encB) (es := 1) (fun _ => rfl) d (k + 1)
  rw [Nat.mul_one] at e1 e2
  rw [e1, e2, List.set_eq_take_append_cons_drop, if_pos hk, flat_append, flat_cons, List.append_assoc]
  rfl
section
variable {cf : CF} (hcf : cf = ev env)
include hcf
theorem s28 (d : List Bool) (h : List Int) (hd : d.length ≤ 1000) (hh : h.length ≤ 1000) (hi : h.all inI = true) : cf 28 [slB d, slI h] [] = some (.str ⟨(keyL d h).toArray⟩, []) := by
  subst hcf
  refine ev_prim env28 _ _ ?_
  show (match boolsOf (flat encB d), intsOf (flat encI h) with
    | some ds, some hs => if d.length = ds.length ∧ h.length = hs.length ∧ ds.length ≤ 1000 ∧ hs.length ≤ 1000 ∧ hs.all inI = true then some (PV.str ⟨(keyL ds hs).toArray⟩, ([] : List (Option Blk))) else none
    | _, _ => none) = _
  rw [boolsOf_flat, intsOf_flat]
  exact if_pos ⟨rfl, rfl, hd, hh, hi⟩
theorem s28n (d : List Bool) (hd : d.length ≤ 1000) : cf 28 [slB d, .nil] [] = some (.str ⟨(keyL d []).toArray⟩, []) := by
  subst hcf
  refine ev_prim env28 _ _ ?_
  show (match boolsOf (flat encB d), intsOf [] with
    | some ds, some hs => if d.length = ds.length ∧ 0 = hs.length ∧ ds.length ≤ 1000 ∧ hs.length ≤ 1000 ∧ hs.all inI = true then some (PV.str ⟨(keyL ds hs).toArray⟩, ([] : List (Option Blk))) else none
    | _, _ => none) = _
  rw [boolsOf_flat]
  exact if_pos ⟨rfl, rfl, hd, by simp, rfl⟩
end
end Go.Proofs.YtipnedhclbopdaaDoorR
