/- OpIs: of any number and any text what the operations are is what the document says (P7.1, P7.2): the law answers true for every input. -/
import Derived.Test.YtlfdempjfjgbdaaPOpIsx4
import Derived.OpenShut
set_option linter.unusedVariables false
set_option linter.unusedSimpArgs false
namespace Go.Proofs.Ytlfdempjfjgbdaa.Pure
open Go.RowKit Go.Proofs.Ytlfdempjfjgbdaa.POpIs Go.Proofs.YtlfdempjfjgbdaaW.PrintWords Go.Proofs.YtlfdempjfjgbdaaW.PrintLast

/-- As Option.bind_some, but no equation by sight: the kernel is not asked to compare great terms. -/
theorem bsome {α β : Type} (a : α) (f : α → Option β) : (some a).bind f = f a := by
  generalize hx : some a = o
  cases o with
  | none => cases hx
  | some b => cases hx; rfl
theorem wr_id {x : Int} (h0 : -9223372036854775808 ≤ x) (h1 : x ≤ 9223372036854775807) : wrap64 x = x := by unfold wrap64; omega

/-- The text in capitals. -/
def UP (s : ByteArray) : ByteArray := strOfNums ((Go.Proofs.YtlfdempjfjgbdaaH.ints s).map Go.Proofs.YtlfdempjfjgbdaaH.up1)
theorem capital_ok (c : Int) : scan_capital.f c = some (Go.Proofs.YtlfdempjfjgbdaaH.up1 c) := by
  unfold scan_capital.f Go.Proofs.YtlfdempjfjgbdaaH.up1
  by_cases a : c ≥ 97
  · rw [if_pos a]
    by_cases b : c ≤ 122
    · rw [if_pos b, if_pos ⟨a, b⟩]; congr 1; omega
    · rw [if_neg b, if_neg (fun hh => b hh.2)]
  · rw [if_neg a, if_neg (fun hh => a hh.1)]
theorem ints_at (s : ByteArray) (i : Int) (h0 : 0 ≤ i) (h : i < s.size) : (Go.Proofs.YtlfdempjfjgbdaaH.ints s).drop i.toNat = bt s i :: (Go.Proofs.YtlfdempjfjgbdaaH.ints s).drop (i + 1).toNat := by
  have hl := Go.Proofs.YtlfdempjfjgbdaaH.ints_length s
  have hlt : i.toNat < (Go.Proofs.YtlfdempjfjgbdaaH.ints s).length := by omega
  have := Go.Proofs.YtlfdempjfjgbdaaH.ints_get s i.toNat (by omega)
  rw [List.getD_eq_getElem?_getD, List.getElem?_eq_getElem hlt, show ((i.toNat : Nat) : Int) = i by omega] at this
  rw [List.drop_eq_getElem_cons hlt, show (i + 1).toNat = i.toNat + 1 by omega]
  congr 1
theorem upper_go (s : ByteArray) (hs : s.size ≤ 1000000) : ∀ (d k : Nat) (i : Int) (acc : List Int), 0 ≤ i → i ≤ s.size → (s.size : Int) - i = d → d < k → (acc.length : Int) = i →
    scan_Upper.l1 k s acc i = some (strOfNums (acc ++ ((Go.Proofs.YtlfdempjfjgbdaaH.ints s).drop i.toNat).map Go.Proofs.YtlfdempjfjgbdaaH.up1)) := by
  intro d
  induction d with
  | zero =>
    intro k i acc h0 hi hd hk ha
    obtain ⟨k, rfl⟩ : ∃ m, k = m + 1 := ⟨k - 1, by omega⟩
    have hl := Go.Proofs.YtlfdempjfjgbdaaH.ints_length s
    simp only [scan_Upper.l1]
    rw [if_neg (by omega), List.drop_eq_nil_of_le (by omega), List.map_nil, List.append_nil]
  | succ d ih =>
    intro k i acc h0 hi hd hk ha
    obtain ⟨k, rfl⟩ : ∃ m, k = m + 1 := ⟨k - 1, by omega⟩
    simp only [scan_Upper.l1]
    rw [if_pos (by omega), if_pos h0, capital_ok, bsome, if_pos (by omega), wr_id (by omega) (by omega), ih k (i + 1) _ (by omega) (by omega) (by omega) (by omega) (by simp; omega), ints_at s i h0 (by omega)]
    simp
theorem upper_ok (k : Nat) (s : ByteArray) (hs : s.size ≤ 1000000) (hk : s.size < k) : scan_Upper.f k s = some (UP s) := by
  unfold scan_Upper.f UP
  rw [upper_go s hs s.size k 0 [] (by omega) (by omega) (by omega) hk rfl]
  simp

theorem rupper_go (s : ByteArray) (hs : s.size ≤ 1000000) : ∀ (d k : Nat) (i : Int) (acc : List Int), 0 ≤ i → i ≤ s.size → (s.size : Int) - i = d → d < k → (acc.length : Int) = i →
    tenterhookref06_Upper.l1 k s acc i = some (strOfNums (acc ++ ((Go.Proofs.YtlfdempjfjgbdaaH.ints s).drop i.toNat).map Go.Proofs.YtlfdempjfjgbdaaH.up1)) := by
  intro d
  induction d with
  | zero =>
    intro k i acc h0 hi hd hk ha
    obtain ⟨k, rfl⟩ : ∃ m, k = m + 1 := ⟨k - 1, by omega⟩
    have hl := Go.Proofs.YtlfdempjfjgbdaaH.ints_length s
    simp only [tenterhookref06_Upper.l1]
    rw [if_neg (by omega), List.drop_eq_nil_of_le (by omega), List.map_nil, List.append_nil]
  | succ d ih =>
    intro k i acc h0 hi hd hk ha
    obtain ⟨k, rfl⟩ : ∃ m, k = m + 1 := ⟨k - 1, by omega⟩
    have hb := bt_range s i
    have hup : Go.Proofs.YtlfdempjfjgbdaaH.up1 (bt s i) = if 97 ≤ bt s i ∧ bt s i ≤ 122 then bt s i - 32 else bt s i := rfl
    simp only [tenterhookref06_Upper.l1]
    rw [if_pos (by omega), if_pos h0]
    have step : ∀ v, v = Go.Proofs.YtlfdempjfjgbdaaH.up1 (bt s i) → (if acc.length < 140737488355328 then tenterhookref06_Upper.l1 k s (acc ++ [v]) (wrap64 (i + 1)) else none) = some (strOfNums (acc ++ ((Go.Proofs.YtlfdempjfjgbdaaH.ints s).drop i.toNat).map Go.Proofs.YtlfdempjfjgbdaaH.up1)) := by
      intro v hv
      rw [if_pos (by omega), wr_id (by omega) (by omega), ih k (i + 1) _ (by omega) (by omega) (by omega) (by omega) (by simp; omega), ints_at s i h0 (by omega), hv]
      simp
    by_cases a : bt s i ≥ 97
    · rw [if_pos a]
      by_cases b : bt s i ≤ 122
      · rw [if_pos b]; exact step _ (by rw [hup, if_pos ⟨a, b⟩]; omega)
      · rw [if_neg b]; exact step _ (by rw [hup, if_neg (fun hh => b hh.2)])
    · rw [if_neg a]; exact step _ (by rw [hup, if_neg (fun hh => a hh.1)])
theorem rupper_ok (k : Nat) (s : ByteArray) (hs : s.size ≤ 1000000) (hk : s.size < k) : tenterhookref06_Upper.f k s = some (UP s) := by
  unfold tenterhookref06_Upper.f UP
  rw [rupper_go s hs s.size k 0 [] (by omega) (by omega) (by omega) hk rfl]
  simp

/-- The names. -/
def NL : List ByteArray := (op_names.f).getD []
theorem names_ok : op_names.f = some NL := rfl
theorem NL_length : NL.length = 111 := by decide +kernel
def nm (j : Nat) : ByteArray := NL.getD j ByteArray.empty
theorem rd_nm (i : Int) : rdOf ByteArray.empty NL i = nm i.toNat := rfl
/-- Is a name hidden? -/
def hid (j : Nat) : Bool := (op_Hidden.f (j : Int)).getD false
theorem hid_all : ∀ j : Fin 111, op_Hidden.f (j.val : Int) = some (hid j.val) := by decide +kernel
theorem hid_ok (i : Int) (h0 : 0 ≤ i) (h : i < 111) : op_Hidden.f i = some (hid i.toNat) := by
  have := hid_all ⟨i.toNat, by omega⟩
  rwa [show ((i.toNat : Nat) : Int) = i by omega] at this
theorem name_ok (i : Int) (h0 : 0 ≤ i) (h : i < 111) : op_Name.f i = some (nm i.toNat) := by
  unfold op_Name.f op_in.f
  rw [if_pos h0, bsome, decide_eq_true h, if_pos rfl, names_ok, bsome, if_pos h0, if_pos (by rw [NL_length]; exact h), rd_nm]
/-- What a search from the place i on comes to. -/
def Found (u : ByteArray) (i : Nat) (r : Int × Bool) : Prop :=
  (r.2 = true ∧ ∃ j : Nat, r.1 = (j : Int) ∧ i ≤ j ∧ j < 111 ∧ (nm j).toList = u.toList ∧ hid j = false) ∨ (r = (0, false) ∧ ∀ j, i ≤ j → j < 111 → (nm j).toList = u.toList → hid j = true)
theorem find_go (u : ByteArray) : ∀ (d k i : Nat), i + d = 111 → d < k → ∃ r, op_Find.l0 k u NL 111 (i : Int) = some r ∧ Found u i r := by
  intro d
  induction d with
  | zero =>
    intro k i hi hk
    obtain ⟨k, rfl⟩ : ∃ m, k = m + 1 := ⟨k - 1, by omega⟩
    refine ⟨(0, false), ?_, .inr ⟨rfl, fun j h1 h2 => absurd h1 (by omega)⟩⟩
    simp only [op_Find.l0]
    rw [if_neg (by omega)]
  | succ d ih =>
    intro k i hi hk
    obtain ⟨k, rfl⟩ : ∃ m, k = m + 1 := ⟨k - 1, by omega⟩
    obtain ⟨r, hr, hf⟩ := ih k (i + 1) (by omega) (by omega)
    simp only [op_Find.l0]
    rw [if_pos (by omega), if_pos (by omega), if_pos (by rw [NL_length]; omega), rd_nm, wr_id (by omega) (by omega), show ((i : Int)).toNat = i from rfl, show ((i : Int) + 1) = ((i + 1 : Nat) : Int) by omega]
    by_cases c : (nm i).toList = u.toList
    · rw [if_pos c, hid_ok i (by omega) (by omega), bsome, show ((i : Int)).toNat = i from rfl]
      cases hh : hid i with
      | false =>
        rw [if_neg (by decide)]
        exact ⟨_, rfl, .inl ⟨rfl, i, rfl, Nat.le_refl _, by omega, c, hh⟩⟩
      | true =>
        rw [if_pos rfl]
        refine ⟨r, hr, ?_⟩
        rcases hf with ⟨h1, j, h2, h3, h4, h5, h6⟩ | ⟨h1, h2⟩
        · exact .inl ⟨h1, j, h2, by omega, h4, h5, h6⟩
        · refine .inr ⟨h1, fun j h3 h4 h5 => ?_⟩
          by_cases e : j = i
          · rw [e]; exact hh
          · exact h2 j (by omega) h4 h5
    · rw [if_neg c]
      refine ⟨r, hr, ?_⟩
      rcases hf with ⟨h1, j, h2, h3, h4, h5, h6⟩ | ⟨h1, h2⟩
      · exact .inl ⟨h1, j, h2, by omega, h4, h5, h6⟩
      · refine .inr ⟨h1, fun j h3 h4 h5 => ?_⟩
        by_cases e : j = i
        · rw [e] at h5; exact absurd h5 c
        · exact h2 j (by omega) h4 h5
theorem find_ok (k : Nat) (s : ByteArray) (hs : s.size ≤ 500) (hk : 600 ≤ k) : ∃ r, op_Find.f k s = some r ∧ Found (UP s) 0 r := by
  obtain ⟨r, hr, hf⟩ := find_go (UP s) 111 k 0 rfl (by omega)
  refine ⟨r, ?_, hf⟩
  unfold op_Find.f
  rw [upper_ok k s (by omega) (by omega), bsome, names_ok, bsome, NL_length]
  exact hr
theorem awake200 : tenterhooklaw07_awake.f 200 = some true := by decide +kernel
theorem tenterhooklaw07_awake_ok (k : Nat) (hk : 200 ≤ k) : tenterhooklaw07_awake.f k = some true := at_rounds (fun k => tenterhooklaw07_awake.mono k) hk awake200

/-- The document's names, in one text; where each begins. -/
def NS : ByteArray := (tenterhookref07_names.f).getD ByteArray.empty
theorem rnames_ok : tenterhookref07_names.f = some NS := rfl
def PL : List Int := [0, 6, 15, 25, 32, 37, 42, 48, 55, 63, 70, 72, 74, 77, 80, 83, 91, 97, 103, 107, 112, 117, 122, 126, 130, 135, 140, 146, 152, 158, 163, 168, 173, 179, 181, 183, 185, 187, 191, 196, 199, 205, 208, 211, 214, 217, 224, 228, 232, 236, 240, 243, 247, 254, 261, 268, 270, 273, 275, 277, 280, 283, 286, 293, 297, 300, 307, 314, 321, 325, 328, 336, 342, 348, 354, 362, 364, 366, 369, 372, 375, 380, 385, 389, 394, 399, 401, 404, 407, 413, 416, 418, 421, 426, 431, 434, 439, 447, 451, 454, 460, 466, 472, 476, 481, 488, 495, 500, 506, 508, 517, 526]
def pos (i : Nat) : Int := PL.getD i 0
def wordIs (i : Nat) : Bool := match tenterhookref06_Word.f 20 NS (pos i) with
  | some r => decide (r.1 = nm i) && decide (r.2.2 = pos (i + 1))
  | none => false
theorem word_all : ∀ i : Fin 111, wordIs i.val = true := by decide +kernel
theorem skip_text : ∀ (k : Nat) (x : Int) (s : ByteArray) (i : Int) (r : ByteArray × Int), tenterhookref06_Skip.l0 k x s i = some r → r.1 = s
  | 0, _, _, _, _, h => by simp [tenterhookref06_Skip.l0] at h
  | k + 1, x, s, i, r, h => by
    simp only [tenterhookref06_Skip.l0] at h
    split at h
    · split at h
      · split at h
        · exact skip_text k _ s i r h
        · cases h; rfl
      · cases h
    · cases h; rfl
theorem parse_text : ∀ (k : Nat) (a b c : Int) (s : ByteArray) (i : Int) (r : ByteArray × ByteArray × Int), tenterhookref06_Parse.l0 k a b c s i = some r → r.2.1 = s
  | 0, _, _, _, _, _, _, h => by simp [tenterhookref06_Parse.l0] at h
  | k + 1, a, b, c, s, i, r, h => by
    simp only [tenterhookref06_Parse.l0] at h
    split at h
    · split at h
      · obtain ⟨t, _, h⟩ := Option.bind_eq_some_iff.1 h
        split at h
        · split at h
          · split at h
            · split at h
              · cases h; rfl
              · cases h
            · cases h
          · cases h
        · exact parse_text k a b _ s i r h
      · cases h
    · split at h
      · split at h
        · cases h; rfl
        · cases h
      · cases h
theorem word_text (k : Nat) (s : ByteArray) (i : Int) (r : ByteArray × ByteArray × Int) (h : tenterhookref06_Word.f k s i = some r) : r.2.1 = s := by
  unfold tenterhookref06_Word.f at h
  obtain ⟨t, h1, h⟩ := Option.bind_eq_some_iff.1 h
  obtain ⟨q, h2, h⟩ := Option.bind_eq_some_iff.1 h
  unfold tenterhookref06_Skip.f at h1
  obtain ⟨_, _, h1⟩ := Option.bind_eq_some_iff.1 h1
  unfold tenterhookref06_Parse.f at h2
  obtain ⟨_, _, h2⟩ := Option.bind_eq_some_iff.1 h2
  cases h
  exact (parse_text _ _ _ _ _ _ _ h2).trans (skip_text _ _ _ _ _ h1)
theorem word_at (k i : Nat) (hk : 20 ≤ k) (hi : i < 111) : tenterhookref06_Word.f k NS (pos i) = some (nm i, NS, pos (i + 1)) := by
  refine at_rounds (fun k => tenterhookref06_Word.mono NS (pos i) k) hk ?_
  have h : wordIs i = true := word_all ⟨i, hi⟩
  unfold wordIs at h
  cases e : tenterhookref06_Word.f 20 NS (pos i) with
  | none => rw [e] at h; cases h
  | some r =>
    rw [e] at h
    simp only [Bool.and_eq_true, decide_eq_true_eq] at h
    have ht := word_text 20 NS (pos i) r e
    obtain ⟨r1, r2, r3⟩ := r
    obtain ⟨h1, h2⟩ := h
    simp only at h1 h2 ht
    rw [h1, h2, ht]
theorem hid_is : ∀ j : Fin 111, hid j.val = (bt (nm j.val) 0 == 40) ∧ 0 < (nm j.val).size := by decide +kernel
theorem rfind_go (u : ByteArray) : ∀ (d k k' i : Nat), i + d = 111 → d < k → d + 20 < k' → tenterhookref07_Find.l0 k' u (i : Int) NS (pos i) = op_Find.l0 k u NL 111 (i : Int) := by
  intro d
  induction d with
  | zero =>
    intro k k' i hi hk hk'
    obtain ⟨k, rfl⟩ : ∃ m, k = m + 1 := ⟨k - 1, by omega⟩
    obtain ⟨k', rfl⟩ : ∃ m, k' = m + 1 := ⟨k' - 1, by omega⟩
    simp only [op_Find.l0, tenterhookref07_Find.l0]
    rw [if_neg (by omega), if_neg (by omega)]
  | succ d ih =>
    intro k k' i hi hk hk'
    obtain ⟨k, rfl⟩ : ∃ m, k = m + 1 := ⟨k - 1, by omega⟩
    obtain ⟨k', rfl⟩ : ∃ m, k' = m + 1 := ⟨k' - 1, by omega⟩
    have h := ih k k' (i + 1) (by omega) (by omega) (by omega)
    obtain ⟨hb, hz⟩ : hid i = (bt (nm i) 0 == 40) ∧ 0 < (nm i).size := hid_is ⟨i, by omega⟩
    simp only [op_Find.l0, tenterhookref07_Find.l0]
    rw [if_pos (show (i : Int) < 111 by omega), word_at k' i (by omega) (by omega), bsome, if_pos (show (i : Int) < 111 by omega), if_pos (show 0 ≤ (i : Int) by omega), if_pos (show (i : Int) < (NL.length : Int) by rw [NL_length]; omega), rd_nm, wr_id (by omega) (by omega), show ((i : Int)).toNat = i from rfl, show ((i : Int) + 1) = ((i + 1 : Nat) : Int) by omega]
    by_cases c : (nm i).toList = u.toList
    · rw [if_pos c, if_pos c, if_pos (show (0 : Int) < ((nm i).size : Int) by omega), hid_ok i (by omega) (by omega), bsome, show ((i : Int)).toNat = i from rfl, hb]
      by_cases e : bt (nm i) 0 = 40
      · rw [if_pos e, if_pos (beq_iff_eq.2 e)]; exact h
      · rw [if_neg e, if_neg (by rw [beq_iff_eq]; exact e)]
    · rw [if_neg c, if_neg c]; exact h
theorem rfind_ok (k : Nat) (s : ByteArray) (hs : s.size ≤ 500) (hk : 600 ≤ k) : tenterhookref07_Find.f k s = op_Find.f k s := by
  unfold tenterhookref07_Find.f op_Find.f
  rw [rupper_ok k s (by omega) (by omega), upper_ok k s (by omega) (by omega), bsome, bsome, rnames_ok, bsome, names_ok, bsome, NL_length]
  exact rfind_go (UP s) 111 k k 0 rfl (by omega) (by omega)
theorem rname_go (n : Nat) (hn : n < 111) : ∀ (d k i : Nat), i + d = n → d + 20 < k → tenterhookref07_Name.l0 k (n : Int) (i : Int) NS (pos i) = some (nm n) := by
  intro d
  induction d with
  | zero =>
    intro k i hi hk
    obtain ⟨k, rfl⟩ : ∃ m, k = m + 1 := ⟨k - 1, by omega⟩
    obtain rfl : i = n := by omega
    simp only [tenterhookref07_Name.l0]
    rw [if_neg (by omega), word_at k i (by omega) hn, bsome]
  | succ d ih =>
    intro k i hi hk
    obtain ⟨k, rfl⟩ : ∃ m, k = m + 1 := ⟨k - 1, by omega⟩
    simp only [tenterhookref07_Name.l0]
    rw [if_pos (by omega), word_at k i (by omega) (by omega), bsome, wr_id (by omega) (by omega), show ((i : Int) + 1) = ((i + 1 : Nat) : Int) by omega]
    exact ih k (i + 1) (by omega) (by omega)
theorem in_ok (n : Int) (h0 : 0 ≤ n) (h : n < 111) : tenterhookref07_in.f n = some true := by
  unfold tenterhookref07_in.f
  rw [if_pos h0, decide_eq_true h]
theorem in_no (n : Int) (h : n < 0 ∨ 111 ≤ n) : op_in.f n = some false ∧ tenterhookref07_in.f n = some false := by
  unfold op_in.f tenterhookref07_in.f
  rcases h with h | h
  · rw [if_neg (by omega)]; exact ⟨rfl, rfl⟩
  · rw [if_pos (by omega), decide_eq_false (by omega)]; exact ⟨rfl, rfl⟩
theorem rname_ok (k : Nat) (n : Int) (h0 : 0 ≤ n) (h : n < 111) (hk : 200 ≤ k) : tenterhookref07_Name.f k n = some (nm n.toNat) := by
  unfold tenterhookref07_Name.f
  rw [in_ok n h0 h, bsome, if_pos rfl, rnames_ok, bsome]
  have := rname_go n.toNat (by omega) n.toNat k 0 (by omega) (by omega)
  rwa [show ((n.toNat : Nat) : Int) = n by omega] at this
def same1 (n : Int) : Bool :=
  (match op_Leaves.f n, tenterhookref07_Leaves.f n with | some a, some b => a == b | _, _ => false) &&
  (match op_Needs.f n, tenterhookref07_Needs.f n with | some a, some b => a == b | _, _ => false) &&
  (match op_Group.f n, tenterhookref07_Group.f n with | some a, some b => a == b | _, _ => false)
theorem same_all : ∀ j : Fin 111, same1 (j.val : Int) = true := by decide +kernel
theorem same1_of {n : Int} (h : same1 n = true) : (∃ a, op_Leaves.f n = some a ∧ tenterhookref07_Leaves.f n = some a) ∧ (∃ a, op_Needs.f n = some a ∧ tenterhookref07_Needs.f n = some a) ∧ (∃ a, op_Group.f n = some a ∧ tenterhookref07_Group.f n = some a) := by
  unfold same1 at h
  rw [Bool.and_eq_true, Bool.and_eq_true] at h
  obtain ⟨⟨h1, h2⟩, h3⟩ := h
  refine ⟨?_, ?_, ?_⟩
  · cases e1 : op_Leaves.f n with
    | none => rw [e1] at h1; cases h1
    | some a =>
      cases e2 : tenterhookref07_Leaves.f n with
      | none => rw [e1, e2] at h1; cases h1
      | some b => rw [e1, e2] at h1; exact ⟨a, rfl, by rw [beq_iff_eq.1 h1]⟩
  · cases e1 : op_Needs.f n with
    | none => rw [e1] at h2; cases h2
    | some a =>
      cases e2 : tenterhookref07_Needs.f n with
      | none => rw [e1, e2] at h2; cases h2
      | some b => rw [e1, e2] at h2; exact ⟨a, rfl, by rw [beq_iff_eq.1 h2]⟩
  · cases e1 : op_Group.f n with
    | none => rw [e1] at h3; cases h3
    | some a =>
      cases e2 : tenterhookref07_Group.f n with
      | none => rw [e1, e2] at h3; cases h3
      | some b => rw [e1, e2] at h3; exact ⟨a, rfl, by rw [beq_iff_eq.1 h3]⟩
theorem no_leaves (n : Int) (h : n < 0 ∨ 111 ≤ n) : op_Leaves.f n = some (0, false) ∧ tenterhookref07_Leaves.f n = some (0, false) := by
  unfold op_Leaves.f op_of.f tenterhookref07_Leaves.f
  rw [(in_no n h).1, (in_no n h).2, bsome, bsome, if_neg (by decide), if_neg (by decide), bsome]
  exact ⟨by decide, rfl⟩
theorem no_needs (n : Int) (h : n < 0 ∨ 111 ≤ n) : op_Needs.f n = some 0 ∧ tenterhookref07_Needs.f n = some 0 := by
  unfold op_Needs.f op_of.f tenterhookref07_Needs.f
  rw [(in_no n h).1, (in_no n h).2, bsome, bsome, if_neg (by decide), if_neg (by decide), bsome]
  exact ⟨rfl, rfl⟩
theorem no_group (n : Int) (h : n < 0 ∨ 111 ≤ n) : op_Group.f n = some (-1) ∧ tenterhookref07_Group.f n = some (-1) := by
  unfold op_Group.f op_of.f tenterhookref07_Group.f
  rw [(in_no n h).1, (in_no n h).2, bsome, bsome, if_neg (by decide), if_neg (by decide), bsome]
  exact ⟨rfl, rfl⟩
theorem no_name (k : Nat) (n : Int) (h : n < 0 ∨ 111 ≤ n) : op_Name.f n = some (⟨#[]⟩ : ByteArray) ∧ tenterhookref07_Name.f k n = some (⟨#[]⟩ : ByteArray) := by
  unfold op_Name.f tenterhookref07_Name.f
  rw [(in_no n h).1, (in_no n h).2, bsome, bsome, if_neg (by decide), if_neg (by decide)]
  exact ⟨rfl, rfl⟩
theorem no_hidden (k : Nat) (n : Int) (h : n < 0 ∨ 111 ≤ n) : op_Hidden.f n = some false ∧ tenterhookref07_Hidden.f k n = some false := by
  unfold op_Hidden.f tenterhookref07_Hidden.f
  rw [(no_name k n h).1, (no_name k n h).2, bsome, bsome]
  exact ⟨by decide +kernel, by decide +kernel⟩
theorem rhidden_ok (k : Nat) (n : Int) (h0 : 0 ≤ n) (h : n < 111) (hk : 200 ≤ k) : tenterhookref07_Hidden.f k n = some (hid n.toNat) := by
  obtain ⟨hb, hz⟩ : hid n.toNat = (bt (nm n.toNat) 0 == 40) ∧ 0 < (nm n.toNat).size := hid_is ⟨n.toNat, by omega⟩
  unfold tenterhookref07_Hidden.f
  rw [rname_ok k n h0 h hk, bsome, if_pos (by omega), if_pos (by omega), hb]
theorem OpIs : tenterhooklaw07_OpIs.Pure := by
  intro n s _ hs
  obtain ⟨K, hK⟩ : ∃ K : Nat, K = 1000 := ⟨_, rfl⟩
  refine ⟨K, ?_⟩
  unfold tenterhooklaw07_OpIs.f
  rw [tenterhooklaw07_awake_ok K (by omega), bsome]
  by_cases c : (s.size : Int) > 200
  · rw [if_pos c]
  · obtain ⟨r, hr, _⟩ := find_ok K s (by omega) (by omega)
    have hr' : tenterhookref07_Find.f K s = some r := by rw [rfind_ok K s (by omega) (by omega)]; exact hr
    have all : (∃ a, op_Leaves.f n = some a ∧ tenterhookref07_Leaves.f n = some a) ∧ (∃ a, op_Needs.f n = some a ∧ tenterhookref07_Needs.f n = some a) ∧ (∃ a, op_Group.f n = some a ∧ tenterhookref07_Group.f n = some a) ∧ (∃ a, op_Name.f n = some a ∧ tenterhookref07_Name.f K n = some a) ∧ (∃ a, op_Hidden.f n = some a ∧ tenterhookref07_Hidden.f K n = some a) := by
      by_cases h : n < 0 ∨ 111 ≤ n
      · exact ⟨⟨_, no_leaves n h⟩, ⟨_, no_needs n h⟩, ⟨_, no_group n h⟩, ⟨_, no_name K n h⟩, ⟨_, no_hidden K n h⟩⟩
      · have hh := same_all ⟨n.toNat, by omega⟩
        rw [show ((n.toNat : Nat) : Int) = n by omega] at hh
        obtain ⟨a, b, c'⟩ := same1_of hh
        exact ⟨a, b, c', ⟨_, name_ok n (by omega) (by omega), rname_ok K n (by omega) (by omega) (by omega)⟩, ⟨_, hid_ok n (by omega) (by omega), rhidden_ok K n (by omega) (by omega) (by omega)⟩⟩
    obtain ⟨⟨a1, ha1, hb1⟩, ⟨a2, ha2, hb2⟩, ⟨a3, ha3, hb3⟩, ⟨a4, ha4, hb4⟩, ⟨a5, ha5, hb5⟩⟩ := all
    rw [if_neg c, hr, bsome, hr', bsome, ha1, bsome, hb1, bsome, if_pos rfl, if_pos rfl, if_pos (by simp), if_pos rfl, if_pos (by simp), ha4, bsome, hb4, bsome, if_pos rfl, ha2, bsome, hb2, bsome, if_pos rfl, ha3, bsome, hb3, bsome, if_pos rfl, ha5, bsome, hb5, bsome]
    simp


end Go.Proofs.Ytlfdempjfjgbdaa.Pure
