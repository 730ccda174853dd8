/- StkMoves: what is rolled is what is put anew (P4.2, P4.3): the law answers true for every input. -/
import Derived.Test.YtmghmpicmfjacaaPStkMovesx2
import Derived.OpenShut
set_option linter.unusedVariables false
set_option linter.unusedSimpArgs false
namespace Go.Proofs.Ytmghmpicmfjacaa.Pure
open Go.RowKit Go.Proofs.Ytmghmpicmfjacaa.PStkMoves Go.Proofs.YtmghmpicmfjacaaW.PrintWords Go.Proofs.YtmghmpicmfjacaaW.PrintLast

/-- As Option.bind_some, but no equation by sight: the kernel is not asked to compare great terms. -/
theorem bsome {α β : Type} (a : α) (f : α → Option β) : (some a).bind f = f a := by
  generalize hx : some a = o
  cases o with
  | none => cases hx
  | some b => cases hx; rfl
theorem wr_id {x : Int} (h0 : -9223372036854775808 ≤ x) (h1 : x ≤ 9223372036854775807) : wrap64 x = x := by unfold wrap64; omega

theorem i64_and65535 (n : Int) : bits .and .i64 n 65535 = n % 65536 := by
  have hm_ : (BitVec.ofInt 64 65535).toNat = 2 ^ 16 - 1 := by decide
  have key : (BitVec.ofInt 64 n &&& BitVec.ofInt 64 65535).toNat = (n % ((2 ^ 64 : Nat) : Int)).toNat % 2 ^ 16 := by
    rw [BitVec.toNat_and, BitVec.toNat_ofInt, hm_, Nat.and_two_pow_sub_one_eq_mod]
  show IntKind.i64.wrap ((BitVec.ofInt 64 n &&& BitVec.ofInt 64 65535).toNat : Nat) = n % 65536
  rw [key, IntKind.wrap_i64]
  omega

theorem concat2 (k : Nat) (hk : 4 ≤ k) (a b : List Int) (h : a.length + b.length < 17592186044416) : slices_Concat_int_int.f k [a, b] = some (a ++ b) := by
  obtain ⟨m, rfl⟩ : ∃ m, k = m + 4 := ⟨k - 4, by omega⟩
  have e1 : wrap64 (0 + 1) = 1 := wr_id (by omega) (by omega)
  have e2 : wrap64 (1 + 1) = 2 := wr_id (by omega) (by omega)
  have e3 : wrap64 1 = 1 := wr_id (by omega) (by omega)
  have e4 : wrap64 2 = 2 := wr_id (by omega) (by omega)
  have h1 : a.length < 17592186044416 := by omega
  simp [slices_Concat_int_int.f, slices_Concat_int_int.l0, rd_L1, e1, e2, e3, e4, h, h1]
theorem push_ok (k : Nat) (hk : 4 ≤ k) (l x : List Int) (most : Int) (h1 : l.length ≤ 1000000) (h2 : x.length ≤ 1000000) :
    stk_Push.f k l most x = some (if ((l.length : Int) + (x.length : Int)) > most then (l, -3) else (l ++ x, 0)) := by
  unfold stk_Push.f
  rw [wr_id (by omega) (by omega), concat2 k hk l x (by omega)]
  split <;> simp
theorem pop_ok (l : List Int) (n : Int) (h1 : l.length ≤ 1000000) (h2 : n ≤ 9223372036854775807) :
    stk_Pop.f l n = some (if 0 ≤ n ∧ n ≤ l.length then (l.take (l.length - n.toNat), l.drop (l.length - n.toNat), 0) else (l, [], -4)) := by
  unfold stk_Pop.f
  by_cases c : n < 0
  · rw [if_pos c, if_neg (by omega)]
  · rw [if_neg c, wr_id (by omega) (by omega)]
    by_cases d : (l.length : Int) - n < 0
    · rw [if_pos d, if_neg (by omega)]
    · rw [if_neg d, if_pos (by omega), if_pos (by omega), if_pos (by omega), show ((l.length : Int) - n).toNat = l.length - n.toNat by omega]
/-- The elements that 'to' names; none: one is not there. -/
def pickAll (x tt : List Int) : Option (List Int) := if ∀ t ∈ tt, 0 ≤ t ∧ t < (x.length : Int) then some (tt.map fun t => rd x t) else none
theorem pickAll_nil (x : List Int) : pickAll x [] = some [] := by simp [pickAll]
theorem pickAll_cons (x : List Int) (t : Int) (tt : List Int) : pickAll x (t :: tt) = if 0 ≤ t ∧ t < (x.length : Int) then (pickAll x tt).map (fun y => rd x t :: y) else none := by
  unfold pickAll
  by_cases c : 0 ≤ t ∧ t < (x.length : Int)
  · rw [if_pos c]
    by_cases d : ∀ t ∈ tt, 0 ≤ t ∧ t < (x.length : Int)
    · rw [if_pos (by intro u hu; rcases List.mem_cons.1 hu with rfl | hu; exact c; exact d u hu), if_pos d]; rfl
    · rw [if_neg (fun h => d (fun u hu => h u (List.mem_cons_of_mem _ hu))), if_neg d]; rfl
  · rw [if_neg c, if_neg (fun h => c (h t List.mem_cons_self))]
theorem pickAll_len {x tt y : List Int} (h : pickAll x tt = some y) : y.length = tt.length := by
  unfold pickAll at h; split at h
  · cases h; simp
  · cases h
def permEnd (l m : List Int) (most : Int) : Option (List Int) → List Int × Int
  | none => (l, -4)
  | some y => if ((m.length : Int) + (y.length : Int)) > most then (l, -3) else (m ++ y, 0)
theorem perm_go (l m x tt : List Int) (most : Int) (hm : m.length ≤ 1000000) (ht : tt.length ≤ 1000000) : ∀ (d k : Nat) (i : Int) (acc : List Int), 0 ≤ i → i ≤ tt.length → (tt.length : Int) - i = d → d + 5 ≤ k → (acc.length : Int) = i →
    stk_Permute.l0 k l most m x acc tt (tt.length : Int) i = some (permEnd l m most ((pickAll x (tt.drop i.toNat)).map (fun y => acc ++ y))) := by
  intro d
  induction d with
  | zero =>
    intro k i acc h0 hi hd hk ha
    obtain ⟨k, rfl⟩ : ∃ m, k = m + 1 := ⟨k - 1, by omega⟩
    simp only [stk_Permute.l0]
    rw [if_neg (by omega), List.drop_eq_nil_of_le (by omega), pickAll_nil, push_ok k (by omega) m acc most hm (by omega)]
    by_cases c : ((m.length : Int) + (acc.length : Int)) > most
    · simp [permEnd, c]
    · simp [permEnd, c]
  | succ d ih =>
    intro k i acc h0 hi hd hk ha
    obtain ⟨k, rfl⟩ : ∃ m, k = m + 1 := ⟨k - 1, by omega⟩
    have hi1 : i.toNat < tt.length := by omega
    have e1 : rd tt i = tt[i.toNat] := by unfold rd; rw [List.getD_eq_getElem?_getD, List.getElem?_eq_getElem hi1]; rfl
    simp only [stk_Permute.l0]
    rw [if_pos (by omega), if_pos h0, if_pos (by omega), List.drop_eq_getElem_cons hi1, pickAll_cons, ← e1]
    by_cases c1 : rd tt i < 0
    · rw [if_pos c1, if_neg (by omega)]; rfl
    · rw [if_neg c1]
      by_cases c2 : rd tt i ≥ (x.length : Int)
      · rw [if_pos c2, if_neg (by omega)]; rfl
      · rw [if_neg c2, if_pos (by omega), if_pos (by omega), if_pos (by omega), if_pos (by omega), wr_id (by omega) (by omega), ih k (i + 1) (acc ++ [rd x (rd tt i)]) (by omega) (by omega) (by omega) (by omega) (by simp; omega), show (i + 1).toNat = i.toNat + 1 by omega]
        cases pickAll x (tt.drop (i.toNat + 1)) <;> simp
/-- What Permute tells. -/
def perm (l : List Int) (n : Int) (tt : List Int) (most : Int) : List Int × Int :=
  if 0 ≤ n ∧ n ≤ l.length then permEnd l (l.take (l.length - n.toNat)) most (pickAll (l.drop (l.length - n.toNat)) tt) else (l, -4)
theorem perm_ok (k : Nat) (l : List Int) (n : Int) (tt : List Int) (most : Int) (h1 : l.length ≤ 1000000) (h2 : n ≤ 9223372036854775807) (h3 : tt.length ≤ 1000000) (hk : tt.length + 5 ≤ k) :
    stk_Permute.f k l n tt most = some (perm l n tt most) := by
  unfold stk_Permute.f perm
  rw [pop_ok l n h1 h2]
  simp only [bsome]
  by_cases c : 0 ≤ n ∧ n ≤ l.length
  · rw [if_pos c, if_pos c, if_pos rfl, perm_go l _ _ tt most (by rw [List.length_take]; omega) h3 tt.length k 0 [] (by omega) (by omega) (by omega) hk rfl]
    simp
  · rw [if_neg c, if_neg c, if_neg (show ¬((-4 : Int) = 0) by decide)]
theorem awake_ok (k : Nat) (hk : 100 ≤ k) : tenterhooklaw04_awake.f k = some true := by
  unfold tenterhooklaw04_awake.f
  rw [perm_ok k [1, 2, 3] 3 [1, 2, 0] 9 (by simp) (by omega) (by simp) (by simp; omega)]
  simp [perm, permEnd, pickAll, rd]

theorem same_go (a b : List Int) (hl : a.length = b.length) (h1 : a.length ≤ 1000000000) : ∀ (d k : Nat) (i : Int), 0 ≤ i → i ≤ a.length → (a.length : Int) - i = d → d < k →
    tenterhookref04_Same.l0 k a b i = some (decide (a.drop i.toNat = b.drop i.toNat)) := by
  intro d
  induction d with
  | zero =>
    intro k i h0 hi hd hk
    obtain ⟨k, rfl⟩ : ∃ m, k = m + 1 := ⟨k - 1, by omega⟩
    simp only [tenterhookref04_Same.l0]
    rw [if_neg (by omega), List.drop_eq_nil_of_le (by omega), List.drop_eq_nil_of_le (by omega)]
    simp
  | succ d ih =>
    intro k i h0 hi hd hk
    obtain ⟨k, rfl⟩ : ∃ m, k = m + 1 := ⟨k - 1, by omega⟩
    have hi1 : i.toNat < a.length := by omega
    have hi2 : i.toNat < b.length := by omega
    simp only [tenterhookref04_Same.l0]
    rw [if_pos (by omega), if_pos h0, if_pos (by omega), wr_id (by omega) (by omega), List.drop_eq_getElem_cons hi1, List.drop_eq_getElem_cons hi2]
    have e1 : rd a i = a[i.toNat] := by unfold rd; rw [List.getD_eq_getElem?_getD, List.getElem?_eq_getElem hi1]; rfl
    have e2 : rd b i = b[i.toNat] := by unfold rd; rw [List.getD_eq_getElem?_getD, List.getElem?_eq_getElem hi2]; rfl
    rw [e1, e2]
    by_cases c : a[i.toNat] = b[i.toNat]
    · rw [if_pos c, ih k (i + 1) (by omega) (by omega) (by omega) (by omega), show (i + 1).toNat = i.toNat + 1 by omega]
      exact congrArg some (decide_eq_decide.2 ⟨fun h => by rw [c, h], fun h => (List.cons.inj h).2⟩)
    · rw [if_neg c]
      exact congrArg some (decide_eq_false (fun h => c (List.cons.inj h).1)).symm
theorem same_ok (k : Nat) (a b : List Int) (h : a.length < k) (h1 : a.length ≤ 1000000000) : tenterhookref04_Same.f k a b = some (decide (a = b)) := by
  unfold tenterhookref04_Same.f
  by_cases c : a.length = b.length
  · rw [if_pos (by omega), same_go a b c h1 a.length k 0 (by omega) (by omega) (by omega) h]
    simp
  · rw [if_neg (by omega)]
    simp only [Option.some.injEq, Bool.false_eq, decide_eq_false_iff_not]
    exact (fun e => c (by rw [e]))
theorem same_refl (k : Nat) (a : List Int) (h : a.length < k) (h1 : a.length ≤ 1000000000) : tenterhookref04_Same.f k a a = some true := by rw [same_ok k a a h h1]; simp

theorem rd_get (l : List Int) (i : Int) (h0 : 0 ≤ i) (h : i.toNat < l.length) : rd l i = l[i.toNat] := by unfold rd; rw [List.getD_eq_getElem?_getD, List.getElem?_eq_getElem h]; rfl
def pk (l : List Int) (n : Int) : Int × Int := if 0 ≤ n ∧ n < (l.length : Int) then (rd l ((l.length : Int) - 1 - n), 0) else (0, -4)
theorem pick_ok (l : List Int) (n : Int) (h1 : l.length ≤ 1000000) : stk_Pick.f l n = some (pk l n) := by
  unfold stk_Pick.f pk
  by_cases c : n < 0
  · rw [if_pos c, if_neg (by omega)]
  · rw [if_neg c]
    by_cases d : n ≥ (l.length : Int)
    · rw [if_pos d, if_neg (by omega)]
    · rw [if_neg d, if_pos (show 0 ≤ n ∧ n < (l.length : Int) by omega), wr_id (x := (l.length : Int) - 1) (by omega) (by omega), wr_id (by omega) (by omega), if_pos (by omega), if_pos (by omega)]

theorem concat3 (k : Nat) (hk : 5 ≤ k) (a b c : List Int) (h : a.length + b.length + c.length < 17592186044416) : slices_Concat_int_int.f k [a, b, c] = some (a ++ b ++ c) := by
  obtain ⟨m, rfl⟩ : ∃ m, k = m + 5 := ⟨k - 5, by omega⟩
  have e1 : wrap64 (0 + 1) = 1 := wr_id (by omega) (by omega)
  have e2 : wrap64 (1 + 1) = 2 := wr_id (by omega) (by omega)
  have e3 : wrap64 1 = 1 := wr_id (by omega) (by omega)
  have e4 : wrap64 2 = 2 := wr_id (by omega) (by omega)
  have e5 : wrap64 3 = 3 := wr_id (by omega) (by omega)
  have e6 : wrap64 (2 + 1) = 3 := wr_id (by omega) (by omega)
  have h1 : a.length < 17592186044416 := by omega
  have h2 : a.length + b.length < 17592186044416 := by omega
  have h3 : a.length + (b.length + c.length) < 17592186044416 := by omega
  simp [slices_Concat_int_int.f, slices_Concat_int_int.l0, rd_L1, e1, e2, e3, e4, e5, e6, h, h1, h2, h3]
def rl (l : List Int) (n : Int) : List Int × Int := if 0 ≤ n ∧ n < (l.length : Int) then (l.take (l.length - 1 - n.toNat) ++ l.drop (l.length - n.toNat) ++ [rd l ((l.length : Int) - 1 - n)], 0) else (l, -4)
theorem roll_ok (k : Nat) (hk : 5 ≤ k) (l : List Int) (n : Int) (h1 : l.length ≤ 1000000) : stk_Roll.f k l n = some (rl l n) := by
  unfold stk_Roll.f rl
  rw [pick_ok l n h1, bsome]
  unfold pk
  by_cases c : 0 ≤ n ∧ n < (l.length : Int)
  · rw [if_pos c, if_pos c, if_pos rfl, wr_id (x := (l.length : Int) - 1) (by omega) (by omega), wr_id (x := (l.length : Int) - 1 - n) (by omega) (by omega), wr_id (x := (l.length : Int) - 1 - n + 1) (by omega) (by omega),
      if_pos (by omega), if_pos (by omega), if_pos (by omega), if_pos (by omega), concat3 k hk _ _ _ (by simp; omega), bsome,
      show ((l.length : Int) - 1 - n).toNat = l.length - 1 - n.toNat by omega, show ((l.length : Int) - 1 - n + 1).toNat = l.length - n.toNat by omega]
  · rw [if_neg c, if_neg c, if_neg (show ¬((-4 : Int) = 0) by decide)]

def upTo : Nat → List Int
  | 0 => []
  | n + 1 => upTo n ++ [(n : Int) + 1]
theorem upTo_length : ∀ n, (upTo n).length = n
  | 0 => rfl
  | n + 1 => by simp [upTo, upTo_length n]
theorem upTo_mem : ∀ n t, t ∈ upTo n → 1 ≤ t ∧ t ≤ (n : Int)
  | 0, t, h => by simp [upTo] at h
  | n + 1, t, h => by
    simp only [upTo, List.mem_append, List.mem_singleton] at h
    rcases h with h | h
    · have := upTo_mem n t h; omega
    · omega
theorem upTo_map (x : List Int) : ∀ n, n + 1 ≤ x.length → (upTo n).map (fun t => rd x t) = (x.drop 1).take n
  | 0, _ => by simp [upTo]
  | n + 1, h => by
    have h1 : 1 + n < x.length := by omega
    rw [upTo, List.map_append, upTo_map x n (by omega), List.take_succ_eq_append_getElem (by simp; omega)]
    simp only [List.map_cons, List.map_nil, List.getElem_drop]
    rw [rd_get x _ (by omega) (by omega)]
    congr 3
    omega
theorem moves_go (l : List Int) (K : Nat) (hl : l.length ≤ 60) (hK : K < l.length) : ∀ (d k i : Nat), i + d = K → d + 300 ≤ k →
    tenterhooklaw04_StkMoves.l0 k l true (K : Int) (upTo i) ((i : Int) + 1) = some true := by
  intro d
  induction d with
  | zero =>
    intro k i hi hk
    obtain rfl : i = K := by omega
    obtain ⟨k, rfl⟩ : ∃ m, k = m + 1 := ⟨k - 1, by omega⟩
    have hul := upTo_length i
    simp only [tenterhooklaw04_StkMoves.l0]
    rw [if_neg (by omega), if_pos (by omega), roll_ok k (by omega) l i (by omega), bsome, wr_id (by omega) (by omega),
      perm_ok k l _ _ _ (by omega) (by omega) (by simp; omega) (by simp; omega), bsome, if_pos trivial]
    have hx : (l.drop (l.length - (i + 1))).length = i + 1 := by simp; omega
    have e0 : ((i : Int) + 1).toNat = i + 1 := by omega
    have e2 : rd (l.drop (l.length - (i + 1))) 0 = rd l ((l.length : Int) - 1 - (i : Int)) := by
      rw [rd_get _ 0 (by omega) (by rw [hx]; omega), rd_get l _ (by omega) (by omega), List.getElem_drop]
      congr 1
      omega
    have hp : perm l ((i : Int) + 1) (upTo i ++ [0]) (l.length : Int) = rl l i := by
      unfold perm rl
      rw [if_pos (by omega), if_pos (by omega), e0]
      have hall : ∀ t ∈ upTo i ++ [0], 0 ≤ t ∧ t < ((l.drop (l.length - (i + 1))).length : Int) := by
        intro t ht
        rw [hx]
        rcases List.mem_append.1 ht with h | h
        · have := upTo_mem i t h; omega
        · obtain rfl := List.mem_singleton.1 h; omega
      unfold pickAll
      rw [if_pos hall]
      unfold permEnd
      simp only [List.length_map, List.length_append, hul, List.length_take, List.length_cons, List.length_nil]
      rw [if_neg (by omega), List.map_append, upTo_map _ i (by omega), List.map_cons, List.map_nil, List.drop_drop, show l.length - (i + 1) + 1 = l.length - i by omega,
        show (l.drop (l.length - i)).take i = l.drop (l.length - i) from List.take_of_length_le (by rw [List.length_drop]; omega), show (i : Int).toNat = i from rfl, ← List.append_assoc, e2, show l.length - (i + 1) = l.length - 1 - i by omega]
    rw [hp]
    have er : (rl l i).2 = 0 := by unfold rl; rw [if_pos (by omega)]
    have el : (rl l i).1.length ≤ 200 := by unfold rl; rw [if_pos (by omega)]; simp; omega
    rw [er, if_pos rfl, if_pos rfl, same_refl k _ (by omega) (by omega), bsome]
  | succ d ih =>
    intro k i hi hk
    obtain ⟨k, rfl⟩ : ∃ m, k = m + 1 := ⟨k - 1, by omega⟩
    have hul := upTo_length i
    simp only [tenterhooklaw04_StkMoves.l0]
    rw [if_pos (by omega), if_pos (by omega), wr_id (by omega) (by omega)]
    have h := ih k (i + 1) (by omega) (by omega)
    rw [upTo] at h
    rw [show ((i : Int) + 1 + 1) = ((i + 1 : Nat) : Int) + 1 by omega]
    exact h
theorem StkMoves : tenterhooklaw04_StkMoves.Pure := by
  intro l n hl0 _ _ hn
  obtain ⟨k, hk⟩ : ∃ k : Nat, k = 1000 := ⟨_, rfl⟩
  refine ⟨k + 1, ?_⟩
  unfold tenterhooklaw04_StkMoves.f
  rw [awake_ok (k + 1) (by omega), bsome]
  have quit : tenterhooklaw04_StkMoves.j0 (k + 1) l n true true = some true := by simp only [tenterhooklaw04_StkMoves.j0, if_true]
  by_cases c : (l.length : Int) > 60
  · rw [if_pos c]; exact quit
  · rw [if_neg c]
    by_cases d : l.length = 0
    · rw [show ((l.length : Int) == 0) = true from beq_iff_eq.2 (by omega)]; exact quit
    · rw [show ((l.length : Int) == 0) = false from beq_eq_false_iff_ne.2 (by omega)]
      simp only [tenterhooklaw04_StkMoves.j0, Bool.false_eq_true, if_false]
      rw [if_neg (by omega), i64_and65535 n]
      obtain ⟨K, hK, hKl⟩ : ∃ K : Nat, Int.tmod (n % 65536) (l.length : Int) = (K : Int) ∧ K < l.length := by
        have h0 : 0 ≤ n % 65536 := by omega
        rw [Int.tmod_eq_emod_of_nonneg h0]
        have h1 := Int.emod_nonneg (n % 65536) (show (l.length : Int) ≠ 0 by omega)
        have h2 := Int.emod_lt_of_pos (n % 65536) (show (0 : Int) < (l.length : Int) by omega)
        exact ⟨(n % 65536 % (l.length : Int)).toNat, by omega, by omega⟩
      rw [hK]
      exact moves_go l K (by omega) hKl K k 0 (by omega) (by omega)


end Go.Proofs.Ytmghmpicmfjacaa.Pure
