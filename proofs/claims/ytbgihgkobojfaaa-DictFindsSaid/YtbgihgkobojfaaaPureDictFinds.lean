/- DictFinds: what is added is found. -/
import Derived.Test.YtbgihgkobojfaaaHLawDictFinds
import Derived.OpenShut
set_option linter.unusedVariables false
set_option linter.unusedSimpArgs false
namespace Go.Proofs.Ytbgihgkobojfaaa.Pure
open Go.RowKit Go.Proofs.Ytbgihgkobojfaaa.PDictFinds Go.Proofs.YtbgihgkobojfaaaW.PrintWords Go.Proofs.YtbgihgkobojfaaaW.PrintLast
/-- As Option.bind_some, but no equation by sight: the kernel is not asked to compare great terms. -/
theorem bsome {α β : Type} (a : α) (f : α → Option β) : (some a).bind f = f a := by
  generalize hx : some a = o
  cases o with
  | none => cases hx
  | some b => cases hx; rfl
theorem wr_id {x : Int} (h0 : -9223372036854775808 ≤ x) (h1 : x ≤ 9223372036854775807) : wrap64 x = x := by unfold wrap64; omega
/-- The text in capitals. -/
def UP (s : ByteArray) : ByteArray := strOfNums ((Go.Proofs.YtbgihgkobojfaaaH.ints s).map Go.Proofs.YtbgihgkobojfaaaH.up1)
theorem capital_ok (c : Int) : scan_capital.f c = some (Go.Proofs.YtbgihgkobojfaaaH.up1 c) := by
  unfold scan_capital.f Go.Proofs.YtbgihgkobojfaaaH.up1
  by_cases a : c ≥ 97
  · rw [if_pos a]
    by_cases b : c ≤ 122
    · rw [if_pos b, if_pos ⟨a, b⟩]; congr 1; omega
    · rw [if_neg b, if_neg (fun hh => b hh.2)]
  · rw [if_neg a, if_neg (fun hh => a hh.1)]
theorem ints_at (s : ByteArray) (i : Int) (h0 : 0 ≤ i) (h : i < s.size) : (Go.Proofs.YtbgihgkobojfaaaH.ints s).drop i.toNat = bt s i :: (Go.Proofs.YtbgihgkobojfaaaH.ints s).drop (i + 1).toNat := by
  have hl := Go.Proofs.YtbgihgkobojfaaaH.ints_length s
  have hlt : i.toNat < (Go.Proofs.YtbgihgkobojfaaaH.ints s).length := by omega
  have := Go.Proofs.YtbgihgkobojfaaaH.ints_get s i.toNat (by omega)
  rw [List.getD_eq_getElem?_getD, List.getElem?_eq_getElem hlt, show ((i.toNat : Nat) : Int) = i by omega] at this
  rw [List.drop_eq_getElem_cons hlt, show (i + 1).toNat = i.toNat + 1 by omega]
  congr 1
theorem upper_go (s : ByteArray) (hs : s.size ≤ 1000000) : ∀ (d k : Nat) (i : Int) (acc : List Int), 0 ≤ i → i ≤ s.size → (s.size : Int) - i = d → d < k → (acc.length : Int) = i →
    scan_Upper.l1 k s acc i = some (strOfNums (acc ++ ((Go.Proofs.YtbgihgkobojfaaaH.ints s).drop i.toNat).map Go.Proofs.YtbgihgkobojfaaaH.up1)) := by
  intro d
  induction d with
  | zero =>
    intro k i acc h0 hi hd hk ha
    obtain ⟨k, rfl⟩ : ∃ m, k = m + 1 := ⟨k - 1, by omega⟩
    have hl := Go.Proofs.YtbgihgkobojfaaaH.ints_length s
    simp only [scan_Upper.l1]
    rw [if_neg (by omega), List.drop_eq_nil_of_le (by omega), List.map_nil, List.append_nil]
  | succ d ih =>
    intro k i acc h0 hi hd hk ha
    obtain ⟨k, rfl⟩ : ∃ m, k = m + 1 := ⟨k - 1, by omega⟩
    simp only [scan_Upper.l1]
    rw [if_pos (by omega), if_pos h0, capital_ok, bsome, if_pos (by omega), wr_id (by omega) (by omega), ih k (i + 1) _ (by omega) (by omega) (by omega) (by omega) (by simp; omega), ints_at s i h0 (by omega)]
    simp
theorem upper_ok (k : Nat) (s : ByteArray) (hs : s.size ≤ 1000000) (hk : s.size < k) : scan_Upper.f k s = some (UP s) := by
  unfold scan_Upper.f UP
  rw [upper_go s hs s.size k 0 [] (by omega) (by omega) (by omega) hk rfl]
  simp
theorem awake_ok (k : Nat) (hk : 400 ≤ k) : tenterhooklaw11_awake.f k = some true := at_rounds (g := fun k => tenterhooklaw11_awake.f k) tenterhooklaw11_awake.mono hk (by decide +kernel)
def toE (x : S40) : S35 := ⟨x.f0, x.f1, x.f2, x.f3, x.f4⟩
def toW (x : S35) : S40 := ⟨x.f0, x.f1, x.f2, x.f3, x.f4⟩
theorem rd40 {l : List S40} {i : Nat} (h : i < l.length) : rd_T40 l (i : Int) = l[i] := by
  unfold rd_T40; rw [Int.toNat_natCast, List.getD_eq_getElem?_getD, List.getElem?_eq_getElem h]; rfl
theorem rd35 {l : List S35} {i : Nat} (h : i < l.length) : rd_T35 l (i : Int) = l[i] := by
  unfold rd_T35; rw [Int.toNat_natCast, List.getD_eq_getElem?_getD, List.getElem?_eq_getElem h]; rfl
theorem few_go (l : List S40) (hl : l.length ≤ maxLen) : ∀ (d k i : Nat), i + d = l.length → d < k →
    ∃ b, tenterhookref11_Few.l0 k l (i : Int) = some b ∧ (b = true → l.length ≤ 600 ∧ ∀ j (h : j < l.length), i ≤ j → l[j].f0.size ≤ 100) := by
  intro d
  unfold maxLen at hl
  induction d with
  | zero =>
    intro k i hi hk
    obtain ⟨k, rfl⟩ : ∃ m, k = m + 1 := ⟨k - 1, by omega⟩
    refine ⟨decide ((l.length : Int) ≤ 600), ?_, fun h => ⟨by have := of_decide_eq_true h; omega, fun j h1 h2 => absurd h1 (by omega)⟩⟩
    simp only [tenterhookref11_Few.l0]
    rw [if_neg (by omega)]
  | succ d ih =>
    intro k i hi hk
    obtain ⟨k, rfl⟩ : ∃ m, k = m + 1 := ⟨k - 1, by omega⟩
    have hlt : i < l.length := by omega
    simp only [tenterhookref11_Few.l0]
    rw [if_pos (by omega), if_pos (by omega), rd40 hlt]
    by_cases c : ((l[i].f0.size : Nat) : Int) > 100
    · rw [if_pos c]
      exact ⟨false, rfl, fun h => by cases h⟩
    · rw [if_neg c, wr_id (by omega) (by omega), show ((i : Int) + 1) = ((i + 1 : Nat) : Int) by omega]
      obtain ⟨b, hb, h⟩ := ih k (i + 1) (by omega) (by omega)
      refine ⟨b, hb, fun e => ⟨(h e).1, fun j h1 h2 => ?_⟩⟩
      by_cases hh : j = i
      · subst hh; omega
      · exact (h e).2 j h1 (by omega)
theorem few_ok (k : Nat) (l : List S40) (hl : l.length ≤ maxLen) (hk : l.length < k) : ∃ b, tenterhookref11_Few.f k l = some b ∧ (b = true → l.length ≤ 600 ∧ ∀ j (h : j < l.length), l[j].f0.size ≤ 100) := by
  obtain ⟨b, hb, h⟩ := few_go l hl l.length k 0 (by omega) hk
  exact ⟨b, hb, fun e => ⟨(h e).1, fun j h1 => (h e).2 j h1 (Nat.zero_le _)⟩⟩
theorem entries_go (l : List S40) (hl : l.length ≤ 1000) : ∀ (d k i : Nat) (acc : List S35), i + d = l.length → d < k → acc.length = i →
    tenterhooklaw11_entries.l0 k l acc (i : Int) = some (acc ++ (l.drop i).map toE) := by
  intro d
  induction d with
  | zero =>
    intro k i acc hi hk ha
    obtain ⟨k, rfl⟩ : ∃ m, k = m + 1 := ⟨k - 1, by omega⟩
    simp only [tenterhooklaw11_entries.l0]
    rw [if_neg (by omega), List.drop_eq_nil_of_le (by omega), List.map_nil, List.append_nil]
  | succ d ih =>
    intro k i acc hi hk ha
    obtain ⟨k, rfl⟩ : ∃ m, k = m + 1 := ⟨k - 1, by omega⟩
    have hlt : i < l.length := by omega
    simp only [tenterhooklaw11_entries.l0, tenterhooklaw11_entry.f]
    rw [if_pos (by omega), if_pos (by omega), bsome, if_pos (by omega), wr_id (by omega) (by omega), show ((i : Int) + 1) = ((i + 1 : Nat) : Int) by omega, ih k (i + 1) _ (by omega) (by omega) (by simp; omega), List.drop_eq_getElem_cons hlt, rd40 hlt]
    rw [List.map_cons, List.append_assoc]
    rfl
theorem entries_ok (k : Nat) (l : List S40) (hl : l.length ≤ 1000) (hk : 1000 < k) : tenterhooklaw11_entries.f k l = some (l.map toE) := by
  have := entries_go l hl l.length k 0 [] (by omega) (by omega) rfl
  rw [List.drop_zero, List.nil_append] at this
  exact this
theorem words_go (l : List S35) (hl : l.length ≤ 1001) : ∀ (d k i : Nat) (acc : List S40), i + d = l.length → d < k → acc.length = i →
    tenterhooklaw11_words.l0 k l acc (i : Int) = some (acc ++ (l.drop i).map toW) := by
  intro d
  induction d with
  | zero =>
    intro k i acc hi hk ha
    obtain ⟨k, rfl⟩ : ∃ m, k = m + 1 := ⟨k - 1, by omega⟩
    simp only [tenterhooklaw11_words.l0]
    rw [if_neg (by omega), List.drop_eq_nil_of_le (by omega), List.map_nil, List.append_nil]
  | succ d ih =>
    intro k i acc hi hk ha
    obtain ⟨k, rfl⟩ : ∃ m, k = m + 1 := ⟨k - 1, by omega⟩
    have hlt : i < l.length := by omega
    simp only [tenterhooklaw11_words.l0]
    rw [if_pos (by omega), if_pos (by omega), if_pos (by omega), wr_id (by omega) (by omega), show ((i : Int) + 1) = ((i + 1 : Nat) : Int) by omega, ih k (i + 1) _ (by omega) (by omega) (by simp; omega), List.drop_eq_getElem_cons hlt, rd35 hlt]
    rw [List.map_cons, List.append_assoc]
    rfl
theorem words_ok (k : Nat) (l : List S35) (hl : l.length ≤ 1001) (hk : 1001 < k) : tenterhooklaw11_words.f k l = some (l.map toW) := by
  have := words_go l hl l.length k 0 [] (by omega) (by omega) rfl
  rw [List.drop_zero, List.nil_append] at this
  exact this
theorem words_entries (l : List S40) : (l.map toE).map toW = l := by
  rw [List.map_map]
  exact List.map_id' l
theorem same_go (l : List S40) (hl : l.length ≤ 1001) : ∀ (d k i : Nat), i + d = l.length → d < k → tenterhookref11_Same.l0 k l l (i : Int) = some true := by
  intro d
  induction d with
  | zero =>
    intro k i hi hk
    obtain ⟨k, rfl⟩ : ∃ m, k = m + 1 := ⟨k - 1, by omega⟩
    simp only [tenterhookref11_Same.l0]
    rw [if_neg (by omega)]
  | succ d ih =>
    intro k i hi hk
    obtain ⟨k, rfl⟩ : ∃ m, k = m + 1 := ⟨k - 1, by omega⟩
    simp only [tenterhookref11_Same.l0]
    rw [if_pos (by omega), if_pos (by omega), if_pos (by omega), if_neg (by simp), wr_id (by omega) (by omega), show ((i : Int) + 1) = ((i + 1 : Nat) : Int) by omega, ih k (i + 1) (by omega) (by omega)]
theorem same_ok (k : Nat) (l : List S40) (hl : l.length ≤ 1001) (hk : 1001 < k) : tenterhookref11_Same.f k l l = some true := by
  unfold tenterhookref11_Same.f
  rw [if_pos rfl]
  exact same_go l hl l.length k 0 (by omega) (by omega)
/-- The last place of a name, below n. -/
def lastIx (l : List S35) (u : List UInt8) : Nat → Option Nat
  | 0 => none
  | n + 1 => if (l.getD n z35).f0.toList = u then some n else lastIx l u n
def found : Option Nat → Int × Bool
  | some j => ((j : Int), true)
  | none => (0, false)
theorem lastIx_app (l : List S35) (e : S35) (u : List UInt8) : ∀ n, n ≤ l.length → lastIx (l ++ [e]) u n = lastIx l u n
  | 0, _ => rfl
  | n + 1, h => by
    simp only [lastIx]
    rw [lastIx_app l e u n (by omega), List.getD_eq_getElem?_getD, List.getElem?_append_left (by omega), ← List.getD_eq_getElem?_getD]
theorem find_go (l : List S35) (u : ByteArray) : ∀ (n k : Nat), n ≤ l.length → n < k → n ≤ 2000 → dict_Find.l0 k l u ((n : Int) - 1) = some (found (lastIx l u.toList n)) := by
  intro n
  induction n with
  | zero =>
    intro k hn hk _
    obtain ⟨k, rfl⟩ : ∃ m, k = m + 1 := ⟨k - 1, by omega⟩
    simp only [dict_Find.l0]
    rw [if_neg (by omega)]
    rfl
  | succ n ih =>
    intro k hn hk hb
    obtain ⟨k, rfl⟩ : ∃ m, k = m + 1 := ⟨k - 1, by omega⟩
    simp only [dict_Find.l0, lastIx]
    rw [show ((n + 1 : Nat) : Int) - 1 = (n : Int) by omega, if_pos (by omega), if_pos (by omega), if_pos (by omega), show rd_T35 l (n : Int) = l.getD n z35 from rfl]
    by_cases c : (l.getD n z35).f0.toList = u.toList
    · rw [if_pos c, if_pos c]; rfl
    · rw [if_neg c, if_neg c, wr_id (by omega) (by omega), ih k (by omega) (by omega) (by omega)]
def FIND (l : List S35) (u : List UInt8) : Int × Bool := if u = [] then (0, false) else found (lastIx l u l.length)
theorem find_ok (k : Nat) (l : List S35) (s : ByteArray) (hl : l.length ≤ 1001) (hs : s.size ≤ 1000) (hk : 1001 < k) : dict_Find.f k l s = some (FIND l (UP s).toList) := by
  unfold dict_Find.f FIND
  rw [upper_ok k s (by omega) (by omega), bsome]
  by_cases c : (UP s).toList = []
  · rw [if_pos c, if_pos c]
  · rw [if_neg c, if_neg c, wr_id (by omega) (by omega), find_go l (UP s) l.length k (Nat.le_refl _) (by omega) (by omega)]
theorem sized_ok (s : ByteArray) : ∃ b, dict_sized.f s = some b ∧ (b = true → s.toList ≠ [] ∧ s.size ≤ 31) := by
  unfold dict_sized.f
  by_cases c : s.toList = []
  · rw [if_pos c]; exact ⟨_, rfl, fun h => by cases h⟩
  · rw [if_neg c]; exact ⟨_, rfl, fun h => ⟨c, by have := of_decide_eq_true h; omega⟩⟩
theorem low_go (s : ByteArray) (hs : s.size ≤ 1000) : ∀ (d k i : Nat), i + d = s.size → d < k → ∃ b, dict_named.l0 k s (i : Int) = some b := by
  intro d
  induction d with
  | zero =>
    intro k i hi hk
    obtain ⟨k, rfl⟩ : ∃ m, k = m + 1 := ⟨k - 1, by omega⟩
    simp only [dict_named.l0]
    rw [if_neg (by omega)]
    exact ⟨_, rfl⟩
  | succ d ih =>
    intro k i hi hk
    obtain ⟨k, rfl⟩ : ∃ m, k = m + 1 := ⟨k - 1, by omega⟩
    simp only [dict_named.l0]
    rw [if_pos (by omega), if_pos (by omega), wr_id (by omega) (by omega), show ((i : Int) + 1) = ((i + 1 : Nat) : Int) by omega]
    by_cases c : bt s (i : Int) ≤ 32
    · rw [if_pos c]; exact ⟨_, rfl⟩
    · rw [if_neg c]; exact ih k (i + 1) (by omega) (by omega)
theorem named_ok (k : Nat) (s : ByteArray) (hs : s.size ≤ 1000) (hk : 1001 < k) : ∃ b, dict_named.f k s = some b := by
  unfold dict_named.f
  obtain ⟨b, hb, _⟩ := sized_ok s
  rw [hb, bsome]
  cases b with
  | false => rw [if_neg (by decide)]; exact ⟨_, rfl⟩
  | true =>
    rw [if_pos rfl, upper_ok k s (by omega) (by omega), bsome]
    by_cases c : (UP s).toList = s.toList
    · rw [if_pos c]; exact low_go s hs s.size k 0 (by omega) (by omega)
    · rw [if_neg c]; exact ⟨_, rfl⟩
theorem hid_all : ∀ j : Fin 111, (op_Hidden.f (j.val : Int)).isSome = true := by decide +kernel
theorem visible_ok (v : Int) : ∃ b, dict_visible.f v = some b := by
  unfold dict_visible.f dict_within.f
  by_cases c : v ≥ 0
  · rw [if_pos c, bsome]
    by_cases d : v ≤ 110
    · rw [if_pos (decide_eq_true d)]
      have := hid_all ⟨v.toNat, by omega⟩
      rw [show ((v.toNat : Nat) : Int) = v by omega] at this
      obtain ⟨b, hb⟩ := Option.isSome_iff_exists.mp this
      rw [hb, bsome]; exact ⟨_, rfl⟩
    · rw [if_neg (by simpa using d)]; exact ⟨_, rfl⟩
  · rw [if_neg c, bsome, if_neg (by decide)]; exact ⟨_, rfl⟩
theorem addr_ok (t a : Int) : ∃ r, dict_Addr.f t a = some r := by
  unfold dict_Addr.f dict_within.f
  by_cases c : t ≥ 0
  · rw [if_pos c, bsome]
    by_cases d : t ≤ 1000000
    · rw [if_pos (decide_eq_true d)]
      by_cases e : a ≥ 0
      · rw [if_pos e, bsome]
        by_cases f : a ≤ 4095
        · rw [if_pos (decide_eq_true f)]; exact ⟨_, rfl⟩
        · rw [if_neg (by simpa using f)]; exact ⟨_, rfl⟩
      · rw [if_neg e, bsome, if_neg (by decide)]; exact ⟨_, rfl⟩
    · rw [if_neg (by simpa using d)]; exact ⟨_, rfl⟩
  · rw [if_neg c, bsome, if_neg (by decide)]; exact ⟨_, rfl⟩
theorem sane_ok (k : Nat) (s : ByteArray) (b : Bool) (kd v t a : Int) (hs : s.size ≤ 1000) (hk : 1001 < k) : ∃ r, dict_Sane.f k s b kd v t a = some r := by
  unfold dict_Sane.f
  obtain ⟨n, hn⟩ := named_ok k s hs hk
  obtain ⟨r, hr⟩ := addr_ok t a
  obtain ⟨q, hq⟩ := visible_ok v
  rw [hn, bsome]
  cases n with
  | false => rw [if_neg (by decide)]; exact ⟨_, rfl⟩
  | true =>
    rw [if_pos rfl, hr, bsome, hq, bsome]
    split
    · split <;> exact ⟨_, rfl⟩
    · split
      · exact ⟨_, rfl⟩
      · split
        · exact ⟨_, rfl⟩
        · split <;> exact ⟨_, rfl⟩
theorem UP_size (s : ByteArray) : (UP s).size = s.size := by
  have h : (UP s).data.toList.length = s.data.toList.length := by
    unfold UP strOfNums
    simp only [List.length_map]
    rw [Go.Proofs.YtbgihgkobojfaaaH.ints_length, Go.Proofs.YtbgihgkobojfaaaH.data_length]
  rwa [Go.Proofs.YtbgihgkobojfaaaH.data_length, Go.Proofs.YtbgihgkobojfaaaH.data_length] at h
theorem add_ok (k : Nat) (l : List S35) (s : ByteArray) (b : Bool) (kd v t a : Int) (hl : l.length ≤ 1000) (hs : s.size ≤ 1000) (hk : 1001 < k) : ∃ m f, dict_Add.f k l s b kd v t a = some (m, f) ∧
    ((f = 0 ∧ m = l ++ [⟨UP s, b, kd, v, ⟨t, a⟩⟩] ∧ (UP s).toList ≠ [] ∧ l.length < 512) ∨ (f ≠ 0 ∧ m = l)) := by
  unfold dict_Add.f
  rw [upper_ok k s (by omega) (by omega), bsome]
  obtain ⟨z, hz, hz2⟩ := sized_ok (UP s)
  obtain ⟨r, hr⟩ := sane_ok k (UP s) b kd v t a (by rw [UP_size]; omega) hk
  rw [hz, bsome]
  cases z with
  | false => rw [if_neg (by decide)]; exact ⟨_, _, rfl, .inr ⟨by decide, rfl⟩⟩
  | true =>
    rw [if_pos rfl, hr, bsome]
    cases r with
    | false => rw [if_neg (by decide)]; exact ⟨_, _, rfl, .inr ⟨by decide, rfl⟩⟩
    | true =>
      rw [if_pos rfl]
      by_cases c : (l.length : Int) ≥ 512
      · rw [if_pos c]; exact ⟨_, _, rfl, .inr ⟨by decide, rfl⟩⟩
      · rw [if_neg c]
        unfold dict_Entry_40.f
        rw [bsome, if_pos (by simp; omega), bsome, bsome, if_pos (by simp; omega)]
        exact ⟨_, _, rfl, .inl ⟨rfl, rfl, (hz2 rfl).1, by omega⟩⟩
theorem DictFinds : tenterhooklaw11_DictFinds.Pure := by
  intro l0 hl x1 h1 a2 h2
  obtain ⟨k, hk⟩ : ∃ k, k = l0.length + 5000 := ⟨_, rfl⟩
  refine ⟨k + 2, ?_⟩
  obtain ⟨b, hb, hfew⟩ := few_ok (k + 2) l0 hl.1 (by omega)
  unfold tenterhooklaw11_DictFinds.f
  rw [awake_ok (k + 2) (by omega), hb, bsome, bsome]
  have skip : tenterhooklaw11_DictFinds.j0 (k + 2) l0 a2 true true x1.f0 x1.f1 x1.f2 x1.f3 x1.f4.f0 x1.f4.f1 = some true := by
    simp only [tenterhooklaw11_DictFinds.j0]
    rw [if_pos trivial]
  cases b with
  | false => rw [if_neg (by decide)]; exact skip
  | true =>
    rw [if_pos rfl]
    obtain ⟨hlen, hnames⟩ := hfew rfl
    by_cases c1 : (a2.size : Int) > 100
    · rw [if_pos c1]; exact skip
    rw [if_neg c1]
    by_cases c2 : (x1.f0.size : Int) > 100
    · rw [decide_eq_true c2]; exact skip
    rw [decide_eq_false c2]
    have hml : (l0.map toE).length = l0.length := List.length_map _
    obtain ⟨m, f, ha, hcase⟩ := add_ok (k + 1) (l0.map toE) x1.f0 x1.f1 x1.f2 x1.f3 x1.f4.f0 x1.f4.f1 (by omega) (by omega) (by omega)
    simp only [tenterhooklaw11_DictFinds.j0, tenterhooklaw11_entry.f]
    rw [if_neg (by decide), entries_ok (k + 1) l0 (by omega) (by omega), bsome, bsome, ha, bsome]
    rcases hcase with ⟨rfl, hm, hne, h512⟩ | ⟨hf, rfl⟩
    · rw [if_pos rfl]
      have hnl : m.length = l0.length + 1 := by rw [hm]; simp
      have hF1 : ∀ u : List UInt8, u ≠ [] → FIND m u = if (UP x1.f0).toList = u then ((l0.length : Int), true) else FIND (l0.map toE) u := by
        intro u hu
        unfold FIND
        rw [if_neg hu, if_neg hu, hnl, hml, hm]
        simp only [lastIx]
        rw [List.getD_eq_getElem?_getD, List.getElem?_append_right (by omega), hml, Nat.sub_self, lastIx_app _ _ _ _ (by omega)]
        show found (if (UP x1.f0).toList = u then some l0.length else _) = _
        split <;> rfl
      rw [find_ok (k + 1) m x1.f0 (by omega) (by omega) (by omega), bsome, find_ok (k + 1) m a2 (by omega) (by omega) (by omega), bsome, bsome, find_ok (k + 1) (l0.map toE) a2 (by omega) (by omega) (by omega), bsome, hF1 _ hne, if_pos rfl, if_pos rfl, if_pos rfl, hnl, wr_id (by omega) (by omega), if_pos (by omega), if_pos (by omega), if_pos (by omega)]
      have htake : m.take ((l0.length : Int)).toNat = l0.map toE := by
        rw [hm, Int.toNat_natCast, ← hml, List.take_left]
      rw [htake, words_ok (k + 1) _ (by omega) (by omega), bsome, words_entries, same_ok (k + 1) l0 (by omega) (by omega), bsome]
      simp only [tenterhooklaw11_DictFinds.j1]
      rw [if_neg (by decide), upper_ok k a2 (by omega) (by omega), upper_ok k x1.f0 (by omega) (by omega), bsome, bsome]
      by_cases cu : (UP a2).toList = (UP x1.f0).toList
      · rw [if_pos cu, cu, hF1 _ hne, if_pos rfl]
        simp
      · rw [if_neg cu]
        have hq : FIND m (UP a2).toList = FIND (l0.map toE) (UP a2).toList := by
          by_cases ce : (UP a2).toList = []
          · unfold FIND; rw [if_pos ce, if_pos ce]
          · rw [hF1 _ ce, if_neg (fun h => cu h.symm)]
        rw [hq]
        simp
    · rw [if_neg hf, if_pos trivial, words_ok (k + 1) (l0.map toE) (by omega) (by omega), bsome, words_entries, same_ok (k + 1) l0 (by omega) (by omega), bsome]
end Go.Proofs.Ytbgihgkobojfaaa.Pure
