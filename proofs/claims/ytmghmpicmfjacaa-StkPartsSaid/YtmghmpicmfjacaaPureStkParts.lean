/- StkParts: cells in two parts are cells at once (P4.1): the law answers true for every input. -/
import Derived.Test.YtmghmpicmfjacaaPStkPartsx2
import Derived.OpenShut
set_option linter.unusedVariables false
set_option linter.unusedSimpArgs false
namespace Go.Proofs.Ytmghmpicmfjacaa.Pure
open Go.RowKit Go.Proofs.Ytmghmpicmfjacaa.PStkParts Go.Proofs.YtmghmpicmfjacaaW.PrintWords Go.Proofs.YtmghmpicmfjacaaW.PrintLast

/-- As Option.bind_some, but no equation by sight: the kernel is not asked to compare great terms. -/
theorem bsome {α β : Type} (a : α) (f : α → Option β) : (some a).bind f = f a := by
  generalize hx : some a = o
  cases o with
  | none => cases hx
  | some b => cases hx; rfl
theorem wr_id {x : Int} (h0 : -9223372036854775808 ≤ x) (h1 : x ≤ 9223372036854775807) : wrap64 x = x := by unfold wrap64; omega
theorem concat2 (k : Nat) (hk : 4 ≤ k) (a b : List Int) (h : a.length + b.length < 17592186044416) : slices_Concat_int_int.f k [a, b] = some (a ++ b) := by
  obtain ⟨m, rfl⟩ : ∃ m, k = m + 4 := ⟨k - 4, by omega⟩
  have e1 : wrap64 (0 + 1) = 1 := wr_id (by omega) (by omega)
  have e2 : wrap64 (1 + 1) = 2 := wr_id (by omega) (by omega)
  have e3 : wrap64 1 = 1 := wr_id (by omega) (by omega)
  have e4 : wrap64 2 = 2 := wr_id (by omega) (by omega)
  have h1 : a.length < 17592186044416 := by omega
  simp [slices_Concat_int_int.f, slices_Concat_int_int.l0, rd_L1, e1, e2, e3, e4, h, h1]
theorem push_ok (k : Nat) (hk : 4 ≤ k) (l x : List Int) (most : Int) (h1 : l.length ≤ 1000000) (h2 : x.length ≤ 1000000) :
    stk_Push.f k l most x = some (if ((l.length : Int) + (x.length : Int)) > most then (l, -3) else (l ++ x, 0)) := by
  unfold stk_Push.f
  rw [wr_id (by omega) (by omega), concat2 k hk l x (by omega)]
  split <;> simp
theorem pop_ok (l : List Int) (n : Int) (h1 : l.length ≤ 1000000) (h2 : n ≤ 9223372036854775807) :
    stk_Pop.f l n = some (if 0 ≤ n ∧ n ≤ l.length then (l.take (l.length - n.toNat), l.drop (l.length - n.toNat), 0) else (l, [], -4)) := by
  unfold stk_Pop.f
  by_cases c : n < 0
  · rw [if_pos c, if_neg (by omega)]
  · rw [if_neg c, wr_id (by omega) (by omega)]
    by_cases d : (l.length : Int) - n < 0
    · rw [if_pos d, if_neg (by omega)]
    · rw [if_neg d, if_pos (by omega), if_pos (by omega), if_pos (by omega), show ((l.length : Int) - n).toNat = l.length - n.toNat by omega]
theorem same_go (a b : List Int) (hl : a.length = b.length) (h1 : a.length ≤ 1000000000) : ∀ (d k : Nat) (i : Int), 0 ≤ i → i ≤ a.length → (a.length : Int) - i = d → d < k →
    tenterhookref04_Same.l0 k a b i = some (decide (a.drop i.toNat = b.drop i.toNat)) := by
  intro d
  induction d with
  | zero =>
    intro k i h0 hi hd hk
    obtain ⟨k, rfl⟩ : ∃ m, k = m + 1 := ⟨k - 1, by omega⟩
    simp only [tenterhookref04_Same.l0]
    rw [if_neg (by omega), List.drop_eq_nil_of_le (by omega), List.drop_eq_nil_of_le (by omega)]
    simp
  | succ d ih =>
    intro k i h0 hi hd hk
    obtain ⟨k, rfl⟩ : ∃ m, k = m + 1 := ⟨k - 1, by omega⟩
    have hi1 : i.toNat < a.length := by omega
    have hi2 : i.toNat < b.length := by omega
    simp only [tenterhookref04_Same.l0]
    rw [if_pos (by omega), if_pos h0, if_pos (by omega), wr_id (by omega) (by omega), List.drop_eq_getElem_cons hi1, List.drop_eq_getElem_cons hi2]
    have e1 : rd a i = a[i.toNat] := by unfold rd; rw [List.getD_eq_getElem?_getD, List.getElem?_eq_getElem hi1]; rfl
    have e2 : rd b i = b[i.toNat] := by unfold rd; rw [List.getD_eq_getElem?_getD, List.getElem?_eq_getElem hi2]; rfl
    rw [e1, e2]
    by_cases c : a[i.toNat] = b[i.toNat]
    · rw [if_pos c, ih k (i + 1) (by omega) (by omega) (by omega) (by omega), show (i + 1).toNat = i.toNat + 1 by omega]
      exact congrArg some (decide_eq_decide.2 ⟨fun h => by rw [c, h], fun h => (List.cons.inj h).2⟩)
    · rw [if_neg c]
      exact congrArg some (decide_eq_false (fun h => c (List.cons.inj h).1)).symm
theorem same_ok (k : Nat) (a b : List Int) (h : a.length < k) (h1 : a.length ≤ 1000000000) : tenterhookref04_Same.f k a b = some (decide (a = b)) := by
  unfold tenterhookref04_Same.f
  by_cases c : a.length = b.length
  · rw [if_pos (by omega), same_go a b c h1 a.length k 0 (by omega) (by omega) (by omega) h]
    simp
  · rw [if_neg (by omega)]
    simp only [Option.some.injEq, Bool.false_eq, decide_eq_false_iff_not]
    exact (fun e => c (by rw [e]))
theorem same_refl (k : Nat) (a : List Int) (h : a.length < k) (h1 : a.length ≤ 1000000000) : tenterhookref04_Same.f k a a = some true := by rw [same_ok k a a h h1]; simp
/-- The elements that 'to' names; none: one is not there. -/
def pickAll (x tt : List Int) : Option (List Int) := if ∀ t ∈ tt, 0 ≤ t ∧ t < (x.length : Int) then some (tt.map fun t => rd x t) else none
theorem pickAll_nil (x : List Int) : pickAll x [] = some [] := by simp [pickAll]
theorem pickAll_cons (x : List Int) (t : Int) (tt : List Int) : pickAll x (t :: tt) = if 0 ≤ t ∧ t < (x.length : Int) then (pickAll x tt).map (fun y => rd x t :: y) else none := by
  unfold pickAll
  by_cases c : 0 ≤ t ∧ t < (x.length : Int)
  · rw [if_pos c]
    by_cases d : ∀ t ∈ tt, 0 ≤ t ∧ t < (x.length : Int)
    · rw [if_pos (by intro u hu; rcases List.mem_cons.1 hu with rfl | hu; exact c; exact d u hu), if_pos d]; rfl
    · rw [if_neg (fun h => d (fun u hu => h u (List.mem_cons_of_mem _ hu))), if_neg d]; rfl
  · rw [if_neg c, if_neg (fun h => c (h t List.mem_cons_self))]
theorem pickAll_len {x tt y : List Int} (h : pickAll x tt = some y) : y.length = tt.length := by
  unfold pickAll at h; split at h
  · cases h; simp
  · cases h
def permEnd (l m : List Int) (most : Int) : Option (List Int) → List Int × Int
  | none => (l, -4)
  | some y => if ((m.length : Int) + (y.length : Int)) > most then (l, -3) else (m ++ y, 0)
theorem perm_go (l m x tt : List Int) (most : Int) (hm : m.length ≤ 1000000) (ht : tt.length ≤ 1000000) : ∀ (d k : Nat) (i : Int) (acc : List Int), 0 ≤ i → i ≤ tt.length → (tt.length : Int) - i = d → d + 5 ≤ k → (acc.length : Int) = i →
    stk_Permute.l0 k l most m x acc tt (tt.length : Int) i = some (permEnd l m most ((pickAll x (tt.drop i.toNat)).map (fun y => acc ++ y))) := by
  intro d
  induction d with
  | zero =>
    intro k i acc h0 hi hd hk ha
    obtain ⟨k, rfl⟩ : ∃ m, k = m + 1 := ⟨k - 1, by omega⟩
    simp only [stk_Permute.l0]
    rw [if_neg (by omega), List.drop_eq_nil_of_le (by omega), pickAll_nil, push_ok k (by omega) m acc most hm (by omega)]
    by_cases c : ((m.length : Int) + (acc.length : Int)) > most
    · simp [permEnd, c]
    · simp [permEnd, c]
  | succ d ih =>
    intro k i acc h0 hi hd hk ha
    obtain ⟨k, rfl⟩ : ∃ m, k = m + 1 := ⟨k - 1, by omega⟩
    have hi1 : i.toNat < tt.length := by omega
    have e1 : rd tt i = tt[i.toNat] := by unfold rd; rw [List.getD_eq_getElem?_getD, List.getElem?_eq_getElem hi1]; rfl
    simp only [stk_Permute.l0]
    rw [if_pos (by omega), if_pos h0, if_pos (by omega), List.drop_eq_getElem_cons hi1, pickAll_cons, ← e1]
    by_cases c1 : rd tt i < 0
    · rw [if_pos c1, if_neg (by omega)]; rfl
    · rw [if_neg c1]
      by_cases c2 : rd tt i ≥ (x.length : Int)
      · rw [if_pos c2, if_neg (by omega)]; rfl
      · rw [if_neg c2, if_pos (by omega), if_pos (by omega), if_pos (by omega), if_pos (by omega), wr_id (by omega) (by omega), ih k (i + 1) (acc ++ [rd x (rd tt i)]) (by omega) (by omega) (by omega) (by omega) (by simp; omega), show (i + 1).toNat = i.toNat + 1 by omega]
        cases pickAll x (tt.drop (i.toNat + 1)) <;> simp
/-- What Permute tells. -/
def perm (l : List Int) (n : Int) (tt : List Int) (most : Int) : List Int × Int :=
  if 0 ≤ n ∧ n ≤ l.length then permEnd l (l.take (l.length - n.toNat)) most (pickAll (l.drop (l.length - n.toNat)) tt) else (l, -4)
theorem perm_ok (k : Nat) (l : List Int) (n : Int) (tt : List Int) (most : Int) (h1 : l.length ≤ 1000000) (h2 : n ≤ 9223372036854775807) (h3 : tt.length ≤ 1000000) (hk : tt.length + 5 ≤ k) :
    stk_Permute.f k l n tt most = some (perm l n tt most) := by
  unfold stk_Permute.f perm
  rw [pop_ok l n h1 h2]
  simp only [bsome]
  by_cases c : 0 ≤ n ∧ n ≤ l.length
  · rw [if_pos c, if_pos c, if_pos rfl, perm_go l _ _ tt most (by rw [List.length_take]; omega) h3 tt.length k 0 [] (by omega) (by omega) (by omega) hk rfl]
    simp
  · rw [if_neg c, if_neg c, if_neg (show ¬((-4 : Int) = 0) by decide)]
theorem awake_ok (k : Nat) (hk : 100 ≤ k) : tenterhooklaw04_awake.f k = some true := by
  unfold tenterhooklaw04_awake.f
  rw [perm_ok k [1, 2, 3] 3 [1, 2, 0] 9 (by simp) (by omega) (by simp) (by simp; omega)]
  simp [perm, permEnd, pickAll, rd]

theorem StkParts : tenterhooklaw04_StkParts.Pure := by
  intro l x y n hl0 _ _ hx0 _ _ hy0 _ _ hn
  have hnb := (Go.bounds_i64 hn).2
  obtain ⟨k, hk⟩ : ∃ k : Nat, k = 1000 := ⟨_, rfl⟩
  refine ⟨k + 1, ?_⟩
  unfold tenterhooklaw04_StkParts.f
  rw [awake_ok (k + 1) (by omega)]
  simp only [bsome]
  have quit : tenterhooklaw04_StkParts.j0 (k + 1) l x y n true true = some true := by simp only [tenterhooklaw04_StkParts.j0, if_true]
  by_cases c : l.length ≤ 100 ∧ x.length ≤ 50 ∧ y.length ≤ 50
  · obtain ⟨c1, c2, c3⟩ := c
    rw [if_neg (by omega), if_neg (by omega), show decide ((y.length : Int) > 50) = false from decide_eq_false (by omega)]
    simp only [tenterhooklaw04_StkParts.j0, Bool.false_eq_true, if_false, if_true]
    rw [push_ok k (by omega) l x 999 (by omega) (by omega), if_neg (by omega), bsome, push_ok k (by omega) (l ++ x) y 999 (by simp; omega) (by omega), if_neg (by simp; omega), bsome, bsome,
      if_pos (by simp; omega), bsome, if_pos (by simp; omega), List.nil_append, push_ok k (by omega) l (x ++ y) 999 (by omega) (by simp; omega), if_neg (by simp; omega), bsome, pop_ok l n (by omega) hnb]
    by_cases d : 0 ≤ n ∧ n ≤ l.length
    · rw [if_pos d, bsome, push_ok k (by omega) _ _ 999 (by simp; omega) (by simp; omega), if_neg (by simp; omega), bsome, List.append_assoc, List.take_append_drop, same_refl k _ (by simp; omega) (by simp; omega), same_refl k l (by omega) (by omega)]
      simp
    · rw [if_neg d, bsome, push_ok k (by omega) l [] 999 (by omega) (by simp), if_neg (by simp; omega), bsome, List.append_assoc, List.append_nil, same_refl k _ (by simp; omega) (by simp; omega), same_refl k l (by omega) (by omega)]
      simp
  · by_cases d : (l.length : Int) > 100
    · rw [if_pos d]; exact quit
    · rw [if_neg d]
      by_cases e : (x.length : Int) > 50
      · rw [if_pos e]; exact quit
      · rw [if_neg e, show decide ((y.length : Int) > 50) = true from decide_eq_true (by omega)]; exact quit


end Go.Proofs.Ytmghmpicmfjacaa.Pure
