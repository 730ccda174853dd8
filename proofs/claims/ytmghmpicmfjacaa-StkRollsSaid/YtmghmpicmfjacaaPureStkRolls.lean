/- StkRolls: what is rolled as often as there are such cells is as it was (P4.2, P4.4): the law answers true for every input. -/
import Derived.Test.YtmghmpicmfjacaaPStkRollsx3
import Derived.OpenShut
set_option linter.unusedVariables false
set_option linter.unusedSimpArgs false
namespace Go.Proofs.Ytmghmpicmfjacaa.Pure
open Go.RowKit Go.Proofs.Ytmghmpicmfjacaa.PStkRolls Go.Proofs.YtmghmpicmfjacaaW.PrintWords Go.Proofs.YtmghmpicmfjacaaW.PrintLast

/-- As Option.bind_some, but no equation by sight: the kernel is not asked to compare great terms. -/
theorem bsome {α β : Type} (a : α) (f : α → Option β) : (some a).bind f = f a := by
  generalize hx : some a = o
  cases o with
  | none => cases hx
  | some b => cases hx; rfl
theorem wr_id {x : Int} (h0 : -9223372036854775808 ≤ x) (h1 : x ≤ 9223372036854775807) : wrap64 x = x := by unfold wrap64; omega

theorem i64_and65535 (n : Int) : bits .and .i64 n 65535 = n % 65536 := by
  have hm_ : (BitVec.ofInt 64 65535).toNat = 2 ^ 16 - 1 := by decide
  have key : (BitVec.ofInt 64 n &&& BitVec.ofInt 64 65535).toNat = (n % ((2 ^ 64 : Nat) : Int)).toNat % 2 ^ 16 := by
    rw [BitVec.toNat_and, BitVec.toNat_ofInt, hm_, Nat.and_two_pow_sub_one_eq_mod]
  show IntKind.i64.wrap ((BitVec.ofInt 64 n &&& BitVec.ofInt 64 65535).toNat : Nat) = n % 65536
  rw [key, IntKind.wrap_i64]
  omega

theorem concat2 (k : Nat) (hk : 4 ≤ k) (a b : List Int) (h : a.length + b.length < 17592186044416) : slices_Concat_int_int.f k [a, b] = some (a ++ b) := by
  obtain ⟨m, rfl⟩ : ∃ m, k = m + 4 := ⟨k - 4, by omega⟩
  have e1 : wrap64 (0 + 1) = 1 := wr_id (by omega) (by omega)
  have e2 : wrap64 (1 + 1) = 2 := wr_id (by omega) (by omega)
  have e3 : wrap64 1 = 1 := wr_id (by omega) (by omega)
  have e4 : wrap64 2 = 2 := wr_id (by omega) (by omega)
  have h1 : a.length < 17592186044416 := by omega
  simp [slices_Concat_int_int.f, slices_Concat_int_int.l0, rd_L1, e1, e2, e3, e4, h, h1]
theorem push_ok (k : Nat) (hk : 4 ≤ k) (l x : List Int) (most : Int) (h1 : l.length ≤ 1000000) (h2 : x.length ≤ 1000000) :
    stk_Push.f k l most x = some (if ((l.length : Int) + (x.length : Int)) > most then (l, -3) else (l ++ x, 0)) := by
  unfold stk_Push.f
  rw [wr_id (by omega) (by omega), concat2 k hk l x (by omega)]
  split <;> simp
theorem pop_ok (l : List Int) (n : Int) (h1 : l.length ≤ 1000000) (h2 : n ≤ 9223372036854775807) :
    stk_Pop.f l n = some (if 0 ≤ n ∧ n ≤ l.length then (l.take (l.length - n.toNat), l.drop (l.length - n.toNat), 0) else (l, [], -4)) := by
  unfold stk_Pop.f
  by_cases c : n < 0
  · rw [if_pos c, if_neg (by omega)]
  · rw [if_neg c, wr_id (by omega) (by omega)]
    by_cases d : (l.length : Int) - n < 0
    · rw [if_pos d, if_neg (by omega)]
    · rw [if_neg d, if_pos (by omega), if_pos (by omega), if_pos (by omega), show ((l.length : Int) - n).toNat = l.length - n.toNat by omega]
/-- The elements that 'to' names; none: one is not there. -/
def pickAll (x tt : List Int) : Option (List Int) := if ∀ t ∈ tt, 0 ≤ t ∧ t < (x.length : Int) then some (tt.map fun t => rd x t) else none
theorem pickAll_nil (x : List Int) : pickAll x [] = some [] := by simp [pickAll]
theorem pickAll_cons (x : List Int) (t : Int) (tt : List Int) : pickAll x (t :: tt) = if 0 ≤ t ∧ t < (x.length : Int) then (pickAll x tt).map (fun y => rd x t :: y) else none := by
  unfold pickAll
  by_cases c : 0 ≤ t ∧ t < (x.length : Int)
  · rw [if_pos c]
    by_cases d : ∀ t ∈ tt, 0 ≤ t ∧ t < (x.length : Int)
    · rw [if_pos (by intro u hu; rcases List.mem_cons.1 hu with rfl | hu; exact c; exact d u hu), if_pos d]; rfl
    · rw [if_neg (fun h => d (fun u hu => h u (List.mem_cons_of_mem _ hu))), if_neg d]; rfl
  · rw [if_neg c, if_neg (fun h => c (h t List.mem_cons_self))]
theorem pickAll_len {x tt y : List Int} (h : pickAll x tt = some y) : y.length = tt.length := by
  unfold pickAll at h; split at h
  · cases h; simp
  · cases h
def permEnd (l m : List Int) (most : Int) : Option (List Int) → List Int × Int
  | none => (l, -4)
  | some y => if ((m.length : Int) + (y.length : Int)) > most then (l, -3) else (m ++ y, 0)
theorem perm_go (l m x tt : List Int) (most : Int) (hm : m.length ≤ 1000000) (ht : tt.length ≤ 1000000) : ∀ (d k : Nat) (i : Int) (acc : List Int), 0 ≤ i → i ≤ tt.length → (tt.length : Int) - i = d → d + 5 ≤ k → (acc.length : Int) = i →
    stk_Permute.l0 k l most m x acc tt (tt.length : Int) i = some (permEnd l m most ((pickAll x (tt.drop i.toNat)).map (fun y => acc ++ y))) := by
  intro d
  induction d with
  | zero =>
    intro k i acc h0 hi hd hk ha
    obtain ⟨k, rfl⟩ : ∃ m, k = m + 1 := ⟨k - 1, by omega⟩
    simp only [stk_Permute.l0]
    rw [if_neg (by omega), List.drop_eq_nil_of_le (by omega), pickAll_nil, push_ok k (by omega) m acc most hm (by omega)]
    by_cases c : ((m.length : Int) + (acc.length : Int)) > most
    · simp [permEnd, c]
    · simp [permEnd, c]
  | succ d ih =>
    intro k i acc h0 hi hd hk ha
    obtain ⟨k, rfl⟩ : ∃ m, k = m + 1 := ⟨k - 1, by omega⟩
    have hi1 : i.toNat < tt.length := by omega
    have e1 : rd tt i = tt[i.toNat] := by unfold rd; rw [List.getD_eq_getElem?_getD, List.getElem?_eq_getElem hi1]; rfl
    simp only [stk_Permute.l0]
    rw [if_pos (by omega), if_pos h0, if_pos (by omega), List.drop_eq_getElem_cons hi1, pickAll_cons, ← e1]
    by_cases c1 : rd tt i < 0
    · rw [if_pos c1, if_neg (by omega)]; rfl
    · rw [if_neg c1]
      by_cases c2 : rd tt i ≥ (x.length : Int)
      · rw [if_pos c2, if_neg (by omega)]; rfl
      · rw [if_neg c2, if_pos (by omega), if_pos (by omega), if_pos (by omega), if_pos (by omega), wr_id (by omega) (by omega), ih k (i + 1) (acc ++ [rd x (rd tt i)]) (by omega) (by omega) (by omega) (by omega) (by simp; omega), show (i + 1).toNat = i.toNat + 1 by omega]
        cases pickAll x (tt.drop (i.toNat + 1)) <;> simp
/-- What Permute tells. -/
def perm (l : List Int) (n : Int) (tt : List Int) (most : Int) : List Int × Int :=
  if 0 ≤ n ∧ n ≤ l.length then permEnd l (l.take (l.length - n.toNat)) most (pickAll (l.drop (l.length - n.toNat)) tt) else (l, -4)
theorem perm_ok (k : Nat) (l : List Int) (n : Int) (tt : List Int) (most : Int) (h1 : l.length ≤ 1000000) (h2 : n ≤ 9223372036854775807) (h3 : tt.length ≤ 1000000) (hk : tt.length + 5 ≤ k) :
    stk_Permute.f k l n tt most = some (perm l n tt most) := by
  unfold stk_Permute.f perm
  rw [pop_ok l n h1 h2]
  simp only [bsome]
  by_cases c : 0 ≤ n ∧ n ≤ l.length
  · rw [if_pos c, if_pos c, if_pos rfl, perm_go l _ _ tt most (by rw [List.length_take]; omega) h3 tt.length k 0 [] (by omega) (by omega) (by omega) hk rfl]
    simp
  · rw [if_neg c, if_neg c, if_neg (show ¬((-4 : Int) = 0) by decide)]
theorem awake_ok (k : Nat) (hk : 100 ≤ k) : tenterhooklaw04_awake.f k = some true := by
  unfold tenterhooklaw04_awake.f
  rw [perm_ok k [1, 2, 3] 3 [1, 2, 0] 9 (by simp) (by omega) (by simp) (by simp; omega)]
  simp [perm, permEnd, pickAll, rd]

theorem same_go (a b : List Int) (hl : a.length = b.length) (h1 : a.length ≤ 1000000000) : ∀ (d k : Nat) (i : Int), 0 ≤ i → i ≤ a.length → (a.length : Int) - i = d → d < k →
    tenterhookref04_Same.l0 k a b i = some (decide (a.drop i.toNat = b.drop i.toNat)) := by
  intro d
  induction d with
  | zero =>
    intro k i h0 hi hd hk
    obtain ⟨k, rfl⟩ : ∃ m, k = m + 1 := ⟨k - 1, by omega⟩
    simp only [tenterhookref04_Same.l0]
    rw [if_neg (by omega), List.drop_eq_nil_of_le (by omega), List.drop_eq_nil_of_le (by omega)]
    simp
  | succ d ih =>
    intro k i h0 hi hd hk
    obtain ⟨k, rfl⟩ : ∃ m, k = m + 1 := ⟨k - 1, by omega⟩
    have hi1 : i.toNat < a.length := by omega
    have hi2 : i.toNat < b.length := by omega
    simp only [tenterhookref04_Same.l0]
    rw [if_pos (by omega), if_pos h0, if_pos (by omega), wr_id (by omega) (by omega), List.drop_eq_getElem_cons hi1, List.drop_eq_getElem_cons hi2]
    have e1 : rd a i = a[i.toNat] := by unfold rd; rw [List.getD_eq_getElem?_getD, List.getElem?_eq_getElem hi1]; rfl
    have e2 : rd b i = b[i.toNat] := by unfold rd; rw [List.getD_eq_getElem?_getD, List.getElem?_eq_getElem hi2]; rfl
    rw [e1, e2]
    by_cases c : a[i.toNat] = b[i.toNat]
    · rw [if_pos c, ih k (i + 1) (by omega) (by omega) (by omega) (by omega), show (i + 1).toNat = i.toNat + 1 by omega]
      exact congrArg some (decide_eq_decide.2 ⟨fun h => by rw [c, h], fun h => (List.cons.inj h).2⟩)
    · rw [if_neg c]
      exact congrArg some (decide_eq_false (fun h => c (List.cons.inj h).1)).symm
theorem same_ok (k : Nat) (a b : List Int) (h : a.length < k) (h1 : a.length ≤ 1000000000) : tenterhookref04_Same.f k a b = some (decide (a = b)) := by
  unfold tenterhookref04_Same.f
  by_cases c : a.length = b.length
  · rw [if_pos (by omega), same_go a b c h1 a.length k 0 (by omega) (by omega) (by omega) h]
    simp
  · rw [if_neg (by omega)]
    simp only [Option.some.injEq, Bool.false_eq, decide_eq_false_iff_not]
    exact (fun e => c (by rw [e]))
theorem same_refl (k : Nat) (a : List Int) (h : a.length < k) (h1 : a.length ≤ 1000000000) : tenterhookref04_Same.f k a a = some true := by rw [same_ok k a a h h1]; simp

theorem rd_get (l : List Int) (i : Int) (h0 : 0 ≤ i) (h : i.toNat < l.length) : rd l i = l[i.toNat] := by unfold rd; rw [List.getD_eq_getElem?_getD, List.getElem?_eq_getElem h]; rfl
def pk (l : List Int) (n : Int) : Int × Int := if 0 ≤ n ∧ n < (l.length : Int) then (rd l ((l.length : Int) - 1 - n), 0) else (0, -4)
theorem pick_ok (l : List Int) (n : Int) (h1 : l.length ≤ 1000000) : stk_Pick.f l n = some (pk l n) := by
  unfold stk_Pick.f pk
  by_cases c : n < 0
  · rw [if_pos c, if_neg (by omega)]
  · rw [if_neg c]
    by_cases d : n ≥ (l.length : Int)
    · rw [if_pos d, if_neg (by omega)]
    · rw [if_neg d, if_pos (show 0 ≤ n ∧ n < (l.length : Int) by omega), wr_id (x := (l.length : Int) - 1) (by omega) (by omega), wr_id (by omega) (by omega), if_pos (by omega), if_pos (by omega)]

theorem concat3 (k : Nat) (hk : 5 ≤ k) (a b c : List Int) (h : a.length + b.length + c.length < 17592186044416) : slices_Concat_int_int.f k [a, b, c] = some (a ++ b ++ c) := by
  obtain ⟨m, rfl⟩ : ∃ m, k = m + 5 := ⟨k - 5, by omega⟩
  have e1 : wrap64 (0 + 1) = 1 := wr_id (by omega) (by omega)
  have e2 : wrap64 (1 + 1) = 2 := wr_id (by omega) (by omega)
  have e3 : wrap64 1 = 1 := wr_id (by omega) (by omega)
  have e4 : wrap64 2 = 2 := wr_id (by omega) (by omega)
  have e5 : wrap64 3 = 3 := wr_id (by omega) (by omega)
  have e6 : wrap64 (2 + 1) = 3 := wr_id (by omega) (by omega)
  have h1 : a.length < 17592186044416 := by omega
  have h2 : a.length + b.length < 17592186044416 := by omega
  have h3 : a.length + (b.length + c.length) < 17592186044416 := by omega
  simp [slices_Concat_int_int.f, slices_Concat_int_int.l0, rd_L1, e1, e2, e3, e4, e5, e6, h, h1, h2, h3]
def rl (l : List Int) (n : Int) : List Int × Int := if 0 ≤ n ∧ n < (l.length : Int) then (l.take (l.length - 1 - n.toNat) ++ l.drop (l.length - n.toNat) ++ [rd l ((l.length : Int) - 1 - n)], 0) else (l, -4)
theorem roll_ok (k : Nat) (hk : 5 ≤ k) (l : List Int) (n : Int) (h1 : l.length ≤ 1000000) : stk_Roll.f k l n = some (rl l n) := by
  unfold stk_Roll.f rl
  rw [pick_ok l n h1, bsome]
  unfold pk
  by_cases c : 0 ≤ n ∧ n < (l.length : Int)
  · rw [if_pos c, if_pos c, if_pos rfl, wr_id (x := (l.length : Int) - 1) (by omega) (by omega), wr_id (x := (l.length : Int) - 1 - n) (by omega) (by omega), wr_id (x := (l.length : Int) - 1 - n + 1) (by omega) (by omega),
      if_pos (by omega), if_pos (by omega), if_pos (by omega), if_pos (by omega), concat3 k hk _ _ _ (by simp; omega), bsome,
      show ((l.length : Int) - 1 - n).toNat = l.length - 1 - n.toNat by omega, show ((l.length : Int) - 1 - n + 1).toNat = l.length - n.toNat by omega]
  · rw [if_neg c, if_neg c, if_neg (show ¬((-4 : Int) = 0) by decide)]

theorem pk_app (p t : List Int) (x : Int) : pk (p ++ x :: t) (t.length : Int) = (x, 0) := by
  unfold pk
  have hl : (p ++ x :: t).length = p.length + t.length + 1 := by simp; omega
  rw [if_pos (by omega), rd_get _ _ (by omega) (by omega)]
  have e : (((p ++ x :: t).length : Int) - 1 - (t.length : Int)).toNat = p.length := by omega
  simp only [e, List.getElem_append_right (Nat.le_refl _), Nat.sub_self, List.getElem_cons_zero]
theorem pk_end (p : List Int) (x : Int) : pk (p ++ [x]) 0 = (x, 0) := by
  have h := pk_app p [] x
  simpa using h
theorem rl_app (p t : List Int) (x : Int) : rl (p ++ x :: t) (t.length : Int) = (p ++ t ++ [x], 0) := by
  unfold rl
  have hl : (p ++ x :: t).length = p.length + t.length + 1 := by simp; omega
  rw [if_pos (by omega), rd_get _ _ (by omega) (by omega)]
  have e : (((p ++ x :: t).length : Int) - 1 - (t.length : Int)).toNat = p.length := by omega
  have e2 : (p ++ x :: t).length - 1 - (t.length : Int).toNat = p.length := by omega
  have e3 : (p ++ x :: t).length - (t.length : Int).toNat = p.length + 1 := by omega
  simp only [e, e2, e3, List.getElem_append_right (Nat.le_refl _), Nat.sub_self, List.getElem_cons_zero, List.take_left', List.drop_append, List.drop_succ_cons]
  simp
theorem rolls_go (p s : List Int) (K : Nat) (hs : s.length = K + 1) (hl : p.length + s.length ≤ 100) : ∀ (d k i : Nat), i + d = K + 1 → d + 200 ≤ k →
    tenterhooklaw04_StkRolls.l0 k (p ++ s) true (K : Int) (p ++ (s.drop i ++ s.take i)) (i : Int) = some true := by
  intro d
  induction d with
  | zero =>
    intro k i hi hk
    obtain rfl : i = K + 1 := by omega
    obtain ⟨k, rfl⟩ : ∃ m, k = m + 1 := ⟨k - 1, by omega⟩
    simp only [tenterhooklaw04_StkRolls.l0]
    rw [if_neg (by omega), List.drop_eq_nil_of_le (by omega), List.take_of_length_le (by omega), List.nil_append, same_refl k _ (by simp; omega) (by simp; omega), bsome]
    simp
  | succ d ih =>
    intro k i hi hk
    obtain ⟨k, rfl⟩ : ∃ m, k = m + 1 := ⟨k - 1, by omega⟩
    have hi1 : i < s.length := by omega
    have hdrop : s.drop i = s[i] :: s.drop (i + 1) := List.drop_eq_getElem_cons hi1
    have htake : s.take (i + 1) = s.take i ++ [s[i]] := List.take_succ_eq_append_getElem hi1
    obtain ⟨t, ht⟩ : ∃ t, t = s.drop (i + 1) ++ s.take i := ⟨_, rfl⟩
    have htl : t.length = K := by rw [ht]; simp; omega
    have hat : p ++ (s.drop i ++ s.take i) = p ++ s[i] :: t := by rw [hdrop, ht, List.cons_append]
    have hnext : p ++ t ++ [s[i]] = p ++ (s.drop (i + 1) ++ s.take (i + 1)) := by rw [ht, htake]; simp only [List.append_assoc]
    have hnl : (p ++ t ++ [s[i]]).length = p.length + s.length := by simp; omega
    have hih := ih k (i + 1) (by omega) (by omega)
    have h1 := pk_app p t s[i]
    have h2 := rl_app p t s[i]
    have h3 := pk_end (p ++ t) s[i]
    rw [htl] at h1 h2
    have e1 : ((p ++ s).length : Int) - 1 - (K : Int) = (p.length : Int) := by simp; omega
    have e2 : (p ++ t ++ [s[i]]).take p.length = p := by rw [List.append_assoc]; simp
    have e3 : (p ++ s).take p.length = p := by simp
    have e4 : ((p ++ s).length : Int) = (p.length : Int) + s.length := by simp
    simp only [tenterhooklaw04_StkRolls.l0]
    rw [if_pos (by omega), hat, pick_ok _ _ (by simp; omega), bsome, roll_ok k (by omega) _ _ (by simp; omega), bsome, h1, h2, pick_ok _ _ (by simp; omega), bsome, h3, if_pos rfl, if_pos rfl, if_pos rfl, if_pos rfl,
      if_pos (show ((p ++ t ++ [s[i]]).length : Int) = ((p ++ s).length : Int) by rw [hnl]; simp), wr_id (x := ((p ++ s).length : Int) - 1) (by omega) (by omega), wr_id (by omega) (by omega), e1, if_pos (by omega), if_pos (show (p.length : Int) ≤ ((p ++ t ++ [s[i]]).length : Int) by omega), if_pos (by omega), show ((p.length : Int)).toNat = p.length from rfl, e2, e3,
      same_refl k p (by omega) (by omega), bsome, if_pos rfl, wr_id (by omega) (by omega), hnext, show ((i : Int) + 1) = ((i + 1 : Nat) : Int) by omega]
    exact hih
theorem StkRolls : tenterhooklaw04_StkRolls.Pure := by
  intro l n hl0 _ _ hn
  obtain ⟨k, hk⟩ : ∃ k : Nat, k = 1000 := ⟨_, rfl⟩
  refine ⟨k + 1, ?_⟩
  unfold tenterhooklaw04_StkRolls.f
  rw [awake_ok (k + 1) (by omega), bsome]
  have quit : tenterhooklaw04_StkRolls.j0 (k + 1) l n true true = some true := by simp only [tenterhooklaw04_StkRolls.j0, if_true]
  by_cases c : (l.length : Int) > 100
  · rw [if_pos c]; exact quit
  · rw [if_neg c]
    by_cases d : l.length = 0
    · rw [show ((l.length : Int) == 0) = true from beq_iff_eq.2 (by omega)]; exact quit
    · rw [show ((l.length : Int) == 0) = false from beq_eq_false_iff_ne.2 (by omega)]
      simp only [tenterhooklaw04_StkRolls.j0, Bool.false_eq_true, if_false]
      rw [if_neg (by omega), i64_and65535 n]
      obtain ⟨K, hK, hKl⟩ : ∃ K : Nat, Int.tmod (n % 65536) (l.length : Int) = (K : Int) ∧ K < l.length := by
        have h0 : 0 ≤ n % 65536 := by omega
        rw [Int.tmod_eq_emod_of_nonneg h0]
        have h1 := Int.emod_nonneg (n % 65536) (show (l.length : Int) ≠ 0 by omega)
        have h2 := Int.emod_lt_of_pos (n % 65536) (show (0 : Int) < (l.length : Int) by omega)
        exact ⟨(n % 65536 % (l.length : Int)).toNat, by omega, by omega⟩
      rw [hK]
      have h := rolls_go (l.take (l.length - 1 - K)) (l.drop (l.length - 1 - K)) K (by simp; omega) (by simp; omega) (K + 1) k 0 (by omega) (by omega)
      simpa using h


end Go.Proofs.Ytmghmpicmfjacaa.Pure
