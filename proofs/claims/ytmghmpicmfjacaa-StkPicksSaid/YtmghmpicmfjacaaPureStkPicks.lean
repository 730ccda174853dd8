/- StkPicks: a cell is there, or it is too little (P4.1, P4.2): the law answers true for every input. -/
import Derived.Test.YtmghmpicmfjacaaPStkPicksx2
import Derived.OpenShut
set_option linter.unusedVariables false
set_option linter.unusedSimpArgs false
namespace Go.Proofs.Ytmghmpicmfjacaa.Pure
open Go.RowKit Go.Proofs.Ytmghmpicmfjacaa.PStkPicks Go.Proofs.YtmghmpicmfjacaaW.PrintWords Go.Proofs.YtmghmpicmfjacaaW.PrintLast

/-- As Option.bind_some, but no equation by sight: the kernel is not asked to compare great terms. -/
theorem bsome {α β : Type} (a : α) (f : α → Option β) : (some a).bind f = f a := by
  generalize hx : some a = o
  cases o with
  | none => cases hx
  | some b => cases hx; rfl
theorem wr_id {x : Int} (h0 : -9223372036854775808 ≤ x) (h1 : x ≤ 9223372036854775807) : wrap64 x = x := by unfold wrap64; omega

theorem concat2 (k : Nat) (hk : 4 ≤ k) (a b : List Int) (h : a.length + b.length < 17592186044416) : slices_Concat_int_int.f k [a, b] = some (a ++ b) := by
  obtain ⟨m, rfl⟩ : ∃ m, k = m + 4 := ⟨k - 4, by omega⟩
  have e1 : wrap64 (0 + 1) = 1 := wr_id (by omega) (by omega)
  have e2 : wrap64 (1 + 1) = 2 := wr_id (by omega) (by omega)
  have e3 : wrap64 1 = 1 := wr_id (by omega) (by omega)
  have e4 : wrap64 2 = 2 := wr_id (by omega) (by omega)
  have h1 : a.length < 17592186044416 := by omega
  simp [slices_Concat_int_int.f, slices_Concat_int_int.l0, rd_L1, e1, e2, e3, e4, h, h1]
theorem push_ok (k : Nat) (hk : 4 ≤ k) (l x : List Int) (most : Int) (h1 : l.length ≤ 1000000) (h2 : x.length ≤ 1000000) :
    stk_Push.f k l most x = some (if ((l.length : Int) + (x.length : Int)) > most then (l, -3) else (l ++ x, 0)) := by
  unfold stk_Push.f
  rw [wr_id (by omega) (by omega), concat2 k hk l x (by omega)]
  split <;> simp
theorem pop_ok (l : List Int) (n : Int) (h1 : l.length ≤ 1000000) (h2 : n ≤ 9223372036854775807) :
    stk_Pop.f l n = some (if 0 ≤ n ∧ n ≤ l.length then (l.take (l.length - n.toNat), l.drop (l.length - n.toNat), 0) else (l, [], -4)) := by
  unfold stk_Pop.f
  by_cases c : n < 0
  · rw [if_pos c, if_neg (by omega)]
  · rw [if_neg c, wr_id (by omega) (by omega)]
    by_cases d : (l.length : Int) - n < 0
    · rw [if_pos d, if_neg (by omega)]
    · rw [if_neg d, if_pos (by omega), if_pos (by omega), if_pos (by omega), show ((l.length : Int) - n).toNat = l.length - n.toNat by omega]
/-- The elements that 'to' names; none: one is not there. -/
def pickAll (x tt : List Int) : Option (List Int) := if ∀ t ∈ tt, 0 ≤ t ∧ t < (x.length : Int) then some (tt.map fun t => rd x t) else none
theorem pickAll_nil (x : List Int) : pickAll x [] = some [] := by simp [pickAll]
theorem pickAll_cons (x : List Int) (t : Int) (tt : List Int) : pickAll x (t :: tt) = if 0 ≤ t ∧ t < (x.length : Int) then (pickAll x tt).map (fun y => rd x t :: y) else none := by
  unfold pickAll
  by_cases c : 0 ≤ t ∧ t < (x.length : Int)
  · rw [if_pos c]
    by_cases d : ∀ t ∈ tt, 0 ≤ t ∧ t < (x.length : Int)
    · rw [if_pos (by intro u hu; rcases List.mem_cons.1 hu with rfl | hu; exact c; exact d u hu), if_pos d]; rfl
    · rw [if_neg (fun h => d (fun u hu => h u (List.mem_cons_of_mem _ hu))), if_neg d]; rfl
  · rw [if_neg c, if_neg (fun h => c (h t List.mem_cons_self))]
theorem pickAll_len {x tt y : List Int} (h : pickAll x tt = some y) : y.length = tt.length := by
  unfold pickAll at h; split at h
  · cases h; simp
  · cases h
def permEnd (l m : List Int) (most : Int) : Option (List Int) → List Int × Int
  | none => (l, -4)
  | some y => if ((m.length : Int) + (y.length : Int)) > most then (l, -3) else (m ++ y, 0)
theorem perm_go (l m x tt : List Int) (most : Int) (hm : m.length ≤ 1000000) (ht : tt.length ≤ 1000000) : ∀ (d k : Nat) (i : Int) (acc : List Int), 0 ≤ i → i ≤ tt.length → (tt.length : Int) - i = d → d + 5 ≤ k → (acc.length : Int) = i →
    stk_Permute.l0 k l most m x acc tt (tt.length : Int) i = some (permEnd l m most ((pickAll x (tt.drop i.toNat)).map (fun y => acc ++ y))) := by
  intro d
  induction d with
  | zero =>
    intro k i acc h0 hi hd hk ha
    obtain ⟨k, rfl⟩ : ∃ m, k = m + 1 := ⟨k - 1, by omega⟩
    simp only [stk_Permute.l0]
    rw [if_neg (by omega), List.drop_eq_nil_of_le (by omega), pickAll_nil, push_ok k (by omega) m acc most hm (by omega)]
    by_cases c : ((m.length : Int) + (acc.length : Int)) > most
    · simp [permEnd, c]
    · simp [permEnd, c]
  | succ d ih =>
    intro k i acc h0 hi hd hk ha
    obtain ⟨k, rfl⟩ : ∃ m, k = m + 1 := ⟨k - 1, by omega⟩
    have hi1 : i.toNat < tt.length := by omega
    have e1 : rd tt i = tt[i.toNat] := by unfold rd; rw [List.getD_eq_getElem?_getD, List.getElem?_eq_getElem hi1]; rfl
    simp only [stk_Permute.l0]
    rw [if_pos (by omega), if_pos h0, if_pos (by omega), List.drop_eq_getElem_cons hi1, pickAll_cons, ← e1]
    by_cases c1 : rd tt i < 0
    · rw [if_pos c1, if_neg (by omega)]; rfl
    · rw [if_neg c1]
      by_cases c2 : rd tt i ≥ (x.length : Int)
      · rw [if_pos c2, if_neg (by omega)]; rfl
      · rw [if_neg c2, if_pos (by omega), if_pos (by omega), if_pos (by omega), if_pos (by omega), wr_id (by omega) (by omega), ih k (i + 1) (acc ++ [rd x (rd tt i)]) (by omega) (by omega) (by omega) (by omega) (by simp; omega), show (i + 1).toNat = i.toNat + 1 by omega]
        cases pickAll x (tt.drop (i.toNat + 1)) <;> simp
/-- What Permute tells. -/
def perm (l : List Int) (n : Int) (tt : List Int) (most : Int) : List Int × Int :=
  if 0 ≤ n ∧ n ≤ l.length then permEnd l (l.take (l.length - n.toNat)) most (pickAll (l.drop (l.length - n.toNat)) tt) else (l, -4)
theorem perm_ok (k : Nat) (l : List Int) (n : Int) (tt : List Int) (most : Int) (h1 : l.length ≤ 1000000) (h2 : n ≤ 9223372036854775807) (h3 : tt.length ≤ 1000000) (hk : tt.length + 5 ≤ k) :
    stk_Permute.f k l n tt most = some (perm l n tt most) := by
  unfold stk_Permute.f perm
  rw [pop_ok l n h1 h2]
  simp only [bsome]
  by_cases c : 0 ≤ n ∧ n ≤ l.length
  · rw [if_pos c, if_pos c, if_pos rfl, perm_go l _ _ tt most (by rw [List.length_take]; omega) h3 tt.length k 0 [] (by omega) (by omega) (by omega) hk rfl]
    simp
  · rw [if_neg c, if_neg c, if_neg (show ¬((-4 : Int) = 0) by decide)]
theorem awake_ok (k : Nat) (hk : 100 ≤ k) : tenterhooklaw04_awake.f k = some true := by
  unfold tenterhooklaw04_awake.f
  rw [perm_ok k [1, 2, 3] 3 [1, 2, 0] 9 (by simp) (by omega) (by simp) (by simp; omega)]
  simp [perm, permEnd, pickAll, rd]

theorem rd_get (l : List Int) (i : Int) (h0 : 0 ≤ i) (h : i.toNat < l.length) : rd l i = l[i.toNat] := by unfold rd; rw [List.getD_eq_getElem?_getD, List.getElem?_eq_getElem h]; rfl
def pk (l : List Int) (n : Int) : Int × Int := if 0 ≤ n ∧ n < (l.length : Int) then (rd l ((l.length : Int) - 1 - n), 0) else (0, -4)
theorem pick_ok (l : List Int) (n : Int) (h1 : l.length ≤ 1000000) : stk_Pick.f l n = some (pk l n) := by
  unfold stk_Pick.f pk
  by_cases c : n < 0
  · rw [if_pos c, if_neg (by omega)]
  · rw [if_neg c]
    by_cases d : n ≥ (l.length : Int)
    · rw [if_pos d, if_neg (by omega)]
    · rw [if_neg d, if_pos (show 0 ≤ n ∧ n < (l.length : Int) by omega), wr_id (x := (l.length : Int) - 1) (by omega) (by omega), wr_id (by omega) (by omega), if_pos (by omega), if_pos (by omega)]

theorem StkPicks : tenterhooklaw04_StkPicks.Pure := by
  intro l n hl0 _ _ hn
  have hnb := (Go.bounds_i64 hn).2
  obtain ⟨k, hk⟩ : ∃ k : Nat, k = 1000 := ⟨_, rfl⟩
  refine ⟨k + 1, ?_⟩
  unfold tenterhooklaw04_StkPicks.f
  rw [awake_ok (k + 1) (by omega), bsome]
  by_cases c : (l.length : Int) > 300
  · rw [if_pos c]
  · rw [if_neg c, pick_ok l n (by omega), bsome]
    by_cases d : 0 ≤ n ∧ n < (l.length : Int)
    · rw [if_neg (by omega), show decide (n ≥ (l.length : Int)) = false from decide_eq_false (by omega)]
      simp only [tenterhooklaw04_StkPicks.j0, Bool.false_eq_true, if_false, if_true]
      rw [pop_ok l n (by omega) hnb, if_pos (by omega), bsome, pick_ok _ 0 (by simp; omega), bsome, perm_ok k l n [n] 999 (by omega) hnb (by simp) (by simp; omega), bsome]
      have hp : perm l n [n] 999 = (l, -4) := by
        unfold perm
        rw [if_pos (by omega), pickAll_cons, if_neg (by simp; omega)]
        rfl
      have e1 : pk l n = (rd l ((l.length : Int) - 1 - n), 0) := by unfold pk; rw [if_pos d]
      have hlt : (l.take (l.length - n.toNat)).length = l.length - n.toNat := by simp
      have e2 : pk (l.take (l.length - n.toNat)) 0 = (rd l ((l.length : Int) - 1 - n), 0) := by
        unfold pk
        rw [hlt, if_pos (by omega), rd_get l _ (by omega) (by omega), rd_get _ _ (by omega) (by rw [hlt]; omega)]
        simp only [List.getElem_take]
        congr 2
        omega
      rw [hp, e1, e2, wr_id (x := (l.length : Int) - 1) (by omega) (by omega), wr_id (by omega) (by omega)]
      simp only [if_true]
      rw [if_pos (by omega), if_pos (by omega)]
      rfl
    · have e1 : pk l n = (0, -4) := by unfold pk; rw [if_neg d]
      rw [e1]
      have quit : tenterhooklaw04_StkPicks.j0 (k + 1) l n true 0 (-4) true = some true := by simp [tenterhooklaw04_StkPicks.j0]
      by_cases e : n < 0
      · rw [if_pos e]; exact quit
      · rw [if_neg e, show decide (n ≥ (l.length : Int)) = true from decide_eq_true (by omega)]; exact quit


end Go.Proofs.Ytmghmpicmfjacaa.Pure
