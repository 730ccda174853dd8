/- OpFinds: what is found has that name (P7.1 to P7.3): the law answers true for every input. -/
import Derived.Test.YtlfdempjfjgbdaaPOpFindsx2
import Derived.OpenShut
set_option linter.unusedVariables false
set_option linter.unusedSimpArgs false
namespace Go.Proofs.Ytlfdempjfjgbdaa.Pure
open Go.RowKit Go.Proofs.Ytlfdempjfjgbdaa.POpFinds Go.Proofs.YtlfdempjfjgbdaaW.PrintWords Go.Proofs.YtlfdempjfjgbdaaW.PrintLast

/-- As Option.bind_some, but no equation by sight: the kernel is not asked to compare great terms. -/
theorem bsome {α β : Type} (a : α) (f : α → Option β) : (some a).bind f = f a := by
  generalize hx : some a = o
  cases o with
  | none => cases hx
  | some b => cases hx; rfl
theorem wr_id {x : Int} (h0 : -9223372036854775808 ≤ x) (h1 : x ≤ 9223372036854775807) : wrap64 x = x := by unfold wrap64; omega

theorem i64_and65535 (n : Int) : bits .and .i64 n 65535 = n % 65536 := by
  have hm_ : (BitVec.ofInt 64 65535).toNat = 2 ^ 16 - 1 := by decide
  have key : (BitVec.ofInt 64 n &&& BitVec.ofInt 64 65535).toNat = (n % ((2 ^ 64 : Nat) : Int)).toNat % 2 ^ 16 := by
    rw [BitVec.toNat_and, BitVec.toNat_ofInt, hm_, Nat.and_two_pow_sub_one_eq_mod]
  show IntKind.i64.wrap ((BitVec.ofInt 64 n &&& BitVec.ofInt 64 65535).toNat : Nat) = n % 65536
  rw [key, IntKind.wrap_i64]
  omega

/-- The text in capitals. -/
def UP (s : ByteArray) : ByteArray := strOfNums ((Go.Proofs.YtlfdempjfjgbdaaH.ints s).map Go.Proofs.YtlfdempjfjgbdaaH.up1)
theorem capital_ok (c : Int) : scan_capital.f c = some (Go.Proofs.YtlfdempjfjgbdaaH.up1 c) := by
  unfold scan_capital.f Go.Proofs.YtlfdempjfjgbdaaH.up1
  by_cases a : c ≥ 97
  · rw [if_pos a]
    by_cases b : c ≤ 122
    · rw [if_pos b, if_pos ⟨a, b⟩]; congr 1; omega
    · rw [if_neg b, if_neg (fun hh => b hh.2)]
  · rw [if_neg a, if_neg (fun hh => a hh.1)]
theorem ints_at (s : ByteArray) (i : Int) (h0 : 0 ≤ i) (h : i < s.size) : (Go.Proofs.YtlfdempjfjgbdaaH.ints s).drop i.toNat = bt s i :: (Go.Proofs.YtlfdempjfjgbdaaH.ints s).drop (i + 1).toNat := by
  have hl := Go.Proofs.YtlfdempjfjgbdaaH.ints_length s
  have hlt : i.toNat < (Go.Proofs.YtlfdempjfjgbdaaH.ints s).length := by omega
  have := Go.Proofs.YtlfdempjfjgbdaaH.ints_get s i.toNat (by omega)
  rw [List.getD_eq_getElem?_getD, List.getElem?_eq_getElem hlt, show ((i.toNat : Nat) : Int) = i by omega] at this
  rw [List.drop_eq_getElem_cons hlt, show (i + 1).toNat = i.toNat + 1 by omega]
  congr 1
theorem upper_go (s : ByteArray) (hs : s.size ≤ 1000000) : ∀ (d k : Nat) (i : Int) (acc : List Int), 0 ≤ i → i ≤ s.size → (s.size : Int) - i = d → d < k → (acc.length : Int) = i →
    scan_Upper.l1 k s acc i = some (strOfNums (acc ++ ((Go.Proofs.YtlfdempjfjgbdaaH.ints s).drop i.toNat).map Go.Proofs.YtlfdempjfjgbdaaH.up1)) := by
  intro d
  induction d with
  | zero =>
    intro k i acc h0 hi hd hk ha
    obtain ⟨k, rfl⟩ : ∃ m, k = m + 1 := ⟨k - 1, by omega⟩
    have hl := Go.Proofs.YtlfdempjfjgbdaaH.ints_length s
    simp only [scan_Upper.l1]
    rw [if_neg (by omega), List.drop_eq_nil_of_le (by omega), List.map_nil, List.append_nil]
  | succ d ih =>
    intro k i acc h0 hi hd hk ha
    obtain ⟨k, rfl⟩ : ∃ m, k = m + 1 := ⟨k - 1, by omega⟩
    simp only [scan_Upper.l1]
    rw [if_pos (by omega), if_pos h0, capital_ok, bsome, if_pos (by omega), wr_id (by omega) (by omega), ih k (i + 1) _ (by omega) (by omega) (by omega) (by omega) (by simp; omega), ints_at s i h0 (by omega)]
    simp
theorem upper_ok (k : Nat) (s : ByteArray) (hs : s.size ≤ 1000000) (hk : s.size < k) : scan_Upper.f k s = some (UP s) := by
  unfold scan_Upper.f UP
  rw [upper_go s hs s.size k 0 [] (by omega) (by omega) (by omega) hk rfl]
  simp

/-- The names. -/
def NL : List ByteArray := (op_names.f).getD []
theorem names_ok : op_names.f = some NL := rfl
theorem NL_length : NL.length = 111 := by decide +kernel
def nm (j : Nat) : ByteArray := NL.getD j ByteArray.empty
theorem rd_nm (i : Int) : rdOf ByteArray.empty NL i = nm i.toNat := rfl
/-- Is a name hidden? -/
def hid (j : Nat) : Bool := (op_Hidden.f (j : Int)).getD false
theorem hid_all : ∀ j : Fin 111, op_Hidden.f (j.val : Int) = some (hid j.val) := by decide +kernel
theorem hid_ok (i : Int) (h0 : 0 ≤ i) (h : i < 111) : op_Hidden.f i = some (hid i.toNat) := by
  have := hid_all ⟨i.toNat, by omega⟩
  rwa [show ((i.toNat : Nat) : Int) = i by omega] at this
theorem name_ok (i : Int) (h0 : 0 ≤ i) (h : i < 111) : op_Name.f i = some (nm i.toNat) := by
  unfold op_Name.f op_in.f
  rw [if_pos h0, bsome, decide_eq_true h, if_pos rfl, names_ok, bsome, if_pos h0, if_pos (by rw [NL_length]; exact h), rd_nm]
/-- What a search from the place i on comes to. -/
def Found (u : ByteArray) (i : Nat) (r : Int × Bool) : Prop :=
  (r.2 = true ∧ ∃ j : Nat, r.1 = (j : Int) ∧ i ≤ j ∧ j < 111 ∧ (nm j).toList = u.toList ∧ hid j = false) ∨ (r = (0, false) ∧ ∀ j, i ≤ j → j < 111 → (nm j).toList = u.toList → hid j = true)
theorem find_go (u : ByteArray) : ∀ (d k i : Nat), i + d = 111 → d < k → ∃ r, op_Find.l0 k u NL 111 (i : Int) = some r ∧ Found u i r := by
  intro d
  induction d with
  | zero =>
    intro k i hi hk
    obtain ⟨k, rfl⟩ : ∃ m, k = m + 1 := ⟨k - 1, by omega⟩
    refine ⟨(0, false), ?_, .inr ⟨rfl, fun j h1 h2 => absurd h1 (by omega)⟩⟩
    simp only [op_Find.l0]
    rw [if_neg (by omega)]
  | succ d ih =>
    intro k i hi hk
    obtain ⟨k, rfl⟩ : ∃ m, k = m + 1 := ⟨k - 1, by omega⟩
    obtain ⟨r, hr, hf⟩ := ih k (i + 1) (by omega) (by omega)
    simp only [op_Find.l0]
    rw [if_pos (by omega), if_pos (by omega), if_pos (by rw [NL_length]; omega), rd_nm, wr_id (by omega) (by omega), show ((i : Int)).toNat = i from rfl, show ((i : Int) + 1) = ((i + 1 : Nat) : Int) by omega]
    by_cases c : (nm i).toList = u.toList
    · rw [if_pos c, hid_ok i (by omega) (by omega), bsome, show ((i : Int)).toNat = i from rfl]
      cases hh : hid i with
      | false =>
        rw [if_neg (by decide)]
        exact ⟨_, rfl, .inl ⟨rfl, i, rfl, Nat.le_refl _, by omega, c, hh⟩⟩
      | true =>
        rw [if_pos rfl]
        refine ⟨r, hr, ?_⟩
        rcases hf with ⟨h1, j, h2, h3, h4, h5, h6⟩ | ⟨h1, h2⟩
        · exact .inl ⟨h1, j, h2, by omega, h4, h5, h6⟩
        · refine .inr ⟨h1, fun j h3 h4 h5 => ?_⟩
          by_cases e : j = i
          · rw [e]; exact hh
          · exact h2 j (by omega) h4 h5
    · rw [if_neg c]
      refine ⟨r, hr, ?_⟩
      rcases hf with ⟨h1, j, h2, h3, h4, h5, h6⟩ | ⟨h1, h2⟩
      · exact .inl ⟨h1, j, h2, by omega, h4, h5, h6⟩
      · refine .inr ⟨h1, fun j h3 h4 h5 => ?_⟩
        by_cases e : j = i
        · rw [e] at h5; exact absurd h5 c
        · exact h2 j (by omega) h4 h5
theorem find_ok (k : Nat) (s : ByteArray) (hs : s.size ≤ 500) (hk : 600 ≤ k) : ∃ r, op_Find.f k s = some r ∧ Found (UP s) 0 r := by
  obtain ⟨r, hr, hf⟩ := find_go (UP s) 111 k 0 rfl (by omega)
  refine ⟨r, ?_, hf⟩
  unfold op_Find.f
  rw [upper_ok k s (by omega) (by omega), bsome, names_ok, bsome, NL_length]
  exact hr
theorem awake200 : tenterhooklaw07_awake.f 200 = some true := by decide +kernel
theorem tenterhooklaw07_awake_ok (k : Nat) (hk : 200 ≤ k) : tenterhooklaw07_awake.f k = some true := at_rounds (fun k => tenterhooklaw07_awake.mono k) hk awake200

theorem names_caps : ∀ j : Fin 111, UP (nm j.val) = nm j.val ∧ (nm j.val).size ≤ 20 ∧ (nm j.val).toList ≠ [] := by decide +kernel
theorem names_apart : (NL.map fun s => s.toList).Nodup := by decide +kernel
theorem nm_inj (i j : Nat) (hi : i < 111) (hj : j < 111) (h : (nm i).toList = (nm j).toList) : i = j := by
  have hl : (NL.map fun s => s.toList).length = 111 := by rw [List.length_map, NL_length]
  have e : ∀ n (hn : n < 111), (NL.map fun s => s.toList)[n]'(by omega) = (nm n).toList := by
    intro n hn
    rw [List.getElem_map]
    unfold nm
    rw [List.getD_eq_getElem?_getD, List.getElem?_eq_getElem (by rw [NL_length]; exact hn)]
    rfl
  have hp := (List.pairwise_iff_getElem.1 names_apart)
  rcases Nat.lt_trichotomy i j with c | c | c
  · exact absurd ((e i hi).trans (h.trans (e j hj).symm)) (hp i j (by omega) (by omega) c)
  · exact c
  · exact absurd ((e j hj).trans (h.symm.trans (e i hi).symm)) (hp j i (by omega) (by omega) c)
theorem find_name (r : Int × Bool) (a : Nat) (ha : a < 111) (h : Found (nm a) 0 r) : r = if hid a then (0, false) else ((a : Int), true) := by
  rcases h with ⟨h1, j, h2, _, h4, h5, h6⟩ | ⟨h1, h2⟩
  · obtain rfl := nm_inj j a h4 ha h5
    rw [h6]
    exact Prod.ext h2 h1
  · rw [h2 a (Nat.zero_le _) ha rfl]
    exact h1
theorem tmod_in (n : Int) : ∃ a : Nat, Int.tmod (Go.bits .and .i64 n 65535) 111 = (a : Int) ∧ a < 111 := by
  rw [i64_and65535 n, Int.tmod_eq_emod_of_nonneg (by omega)]
  exact ⟨(n % 65536 % 111).toNat, by omega, by omega⟩
theorem OpFinds : tenterhooklaw07_OpFinds.Pure := by
  intro n m s _ _ hs
  obtain ⟨K, hK⟩ : ∃ K : Nat, K = 1000 := ⟨_, rfl⟩
  refine ⟨K + 1, ?_⟩
  have hawake : tenterhooklaw07_awake.f (K + 1) = some true := tenterhooklaw07_awake_ok (K + 1) (by omega)
  unfold tenterhooklaw07_OpFinds.f
  rw [hawake, bsome]
  by_cases c : (s.size : Int) > 200
  · rw [if_pos c]
  · rw [if_neg c]
    obtain ⟨a, ha, hal⟩ := tmod_in n
    obtain ⟨b, hb, hbl⟩ := tmod_in m
    rw [ha, hb]
    obtain ⟨caps, hsz, hne⟩ : UP (nm a) = nm a ∧ (nm a).size ≤ 20 ∧ (nm a).toList ≠ [] := names_caps ⟨a, hal⟩
    obtain ⟨r1, hr1, hf1⟩ := find_ok (K + 1) (nm a) (by omega) (by omega)
    obtain ⟨r2, hr2, hf2⟩ := find_ok (K + 1) s (by omega) (by omega)
    have hname : op_Name.f (a : Int) = some (nm a) := name_ok a (by omega) (by omega)
    have hnameb : op_Name.f (b : Int) = some (nm b) := name_ok b (by omega) (by omega)
    have hhid : op_Hidden.f (a : Int) = some (hid a) := hid_ok a (by omega) (by omega)
    rw [caps] at hf1
    have h1 := find_name r1 a hal hf1
    rw [hname, bsome, hr1, bsome, hr2, bsome, hhid, bsome]
    have hup : scan_Upper.f K (nm a) = some (nm a) := by rw [upper_ok K (nm a) (by omega) (by omega), caps]
    have last : tenterhooklaw07_OpFinds.j0 (K + 1) s true (a : Int) r2.1 r2.2 false = some true := by
      simp only [tenterhooklaw07_OpFinds.j0, Bool.false_eq_true, if_false, if_true]
      rcases hf2 with ⟨h2, j, h3, _, h4, h5, h6⟩ | ⟨h2, _⟩
      · have hnj : op_Name.f (j : Int) = some (nm j) := name_ok j (by omega) (by omega)
        have hhj : op_Hidden.f (j : Int) = some (hid j) := hid_ok j (by omega) (by omega)
        rw [h2, if_pos rfl, h3, hnj, bsome, upper_ok K s (by omega) (by omega), bsome, if_pos h5, hhj, bsome, h6, if_neg (by decide), hname, bsome, hup, bsome, bsome]
        simp
      · rw [h2, if_neg (by decide), hname, bsome, hup, bsome, bsome]
        simp
    have hnil : ((nm a).toList == ([] : List UInt8)) = false := beq_eq_false_iff_ne.2 hne
    have fin : (if (a : Int) = (b : Int) then tenterhooklaw07_OpFinds.j0 (K + 1) s true (a : Int) r2.1 r2.2 false else if (nm a).toList = (nm b).toList then tenterhooklaw07_OpFinds.j0 (K + 1) s true (a : Int) r2.1 r2.2 true else tenterhooklaw07_OpFinds.j0 (K + 1) s true (a : Int) r2.1 r2.2 false) = some true := by
      by_cases e : (a : Int) = (b : Int)
      · rw [if_pos e]; exact last
      · rw [if_neg e, if_neg (fun h => e (by have := nm_inj a b hal hbl h; omega))]; exact last
    cases hh : hid a with
    | true =>
      rw [hh] at h1
      simp only [if_true] at h1
      rw [h1, if_neg (by decide), if_neg (by decide)]
      simp only [hnameb, hname, bsome, hnil]
      exact fin
    | false =>
      rw [hh] at h1
      simp only [Bool.false_eq_true, if_false] at h1
      rw [h1, if_neg (show ¬((true == false) = true) by decide), if_pos rfl, if_pos rfl]
      simp only [hnameb, hname, bsome, hnil]
      exact fin


end Go.Proofs.Ytlfdempjfjgbdaa.Pure
