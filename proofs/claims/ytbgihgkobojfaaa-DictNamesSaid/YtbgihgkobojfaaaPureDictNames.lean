/- DictNames: names are capitals. -/
import Derived.Test.YtbgihgkobojfaaaHLawDictNames
import Derived.OpenShut
set_option linter.unusedVariables false
set_option linter.unusedSimpArgs false
namespace Go.Proofs.Ytbgihgkobojfaaa.Pure
open Go.RowKit Go.Proofs.Ytbgihgkobojfaaa.PDictNames Go.Proofs.YtbgihgkobojfaaaW.PrintWords Go.Proofs.YtbgihgkobojfaaaW.PrintLast
/-- As Option.bind_some, but no equation by sight: the kernel is not asked to compare great terms. -/
theorem bsome {α β : Type} (a : α) (f : α → Option β) : (some a).bind f = f a := by
  generalize hx : some a = o
  cases o with
  | none => cases hx
  | some b => cases hx; rfl
theorem wr_id {x : Int} (h0 : -9223372036854775808 ≤ x) (h1 : x ≤ 9223372036854775807) : wrap64 x = x := by unfold wrap64; omega
/-- The text in capitals. -/
def UP (s : ByteArray) : ByteArray := strOfNums ((Go.Proofs.YtbgihgkobojfaaaH.ints s).map Go.Proofs.YtbgihgkobojfaaaH.up1)
theorem capital_ok (c : Int) : scan_capital.f c = some (Go.Proofs.YtbgihgkobojfaaaH.up1 c) := by
  unfold scan_capital.f Go.Proofs.YtbgihgkobojfaaaH.up1
  by_cases a : c ≥ 97
  · rw [if_pos a]
    by_cases b : c ≤ 122
    · rw [if_pos b, if_pos ⟨a, b⟩]; congr 1; omega
    · rw [if_neg b, if_neg (fun hh => b hh.2)]
  · rw [if_neg a, if_neg (fun hh => a hh.1)]
theorem ints_at (s : ByteArray) (i : Int) (h0 : 0 ≤ i) (h : i < s.size) : (Go.Proofs.YtbgihgkobojfaaaH.ints s).drop i.toNat = bt s i :: (Go.Proofs.YtbgihgkobojfaaaH.ints s).drop (i + 1).toNat := by
  have hl := Go.Proofs.YtbgihgkobojfaaaH.ints_length s
  have hlt : i.toNat < (Go.Proofs.YtbgihgkobojfaaaH.ints s).length := by omega
  have := Go.Proofs.YtbgihgkobojfaaaH.ints_get s i.toNat (by omega)
  rw [List.getD_eq_getElem?_getD, List.getElem?_eq_getElem hlt, show ((i.toNat : Nat) : Int) = i by omega] at this
  rw [List.drop_eq_getElem_cons hlt, show (i + 1).toNat = i.toNat + 1 by omega]
  congr 1
theorem upper_go (s : ByteArray) (hs : s.size ≤ 1000000) : ∀ (d k : Nat) (i : Int) (acc : List Int), 0 ≤ i → i ≤ s.size → (s.size : Int) - i = d → d < k → (acc.length : Int) = i →
    scan_Upper.l1 k s acc i = some (strOfNums (acc ++ ((Go.Proofs.YtbgihgkobojfaaaH.ints s).drop i.toNat).map Go.Proofs.YtbgihgkobojfaaaH.up1)) := by
  intro d
  induction d with
  | zero =>
    intro k i acc h0 hi hd hk ha
    obtain ⟨k, rfl⟩ : ∃ m, k = m + 1 := ⟨k - 1, by omega⟩
    have hl := Go.Proofs.YtbgihgkobojfaaaH.ints_length s
    simp only [scan_Upper.l1]
    rw [if_neg (by omega), List.drop_eq_nil_of_le (by omega), List.map_nil, List.append_nil]
  | succ d ih =>
    intro k i acc h0 hi hd hk ha
    obtain ⟨k, rfl⟩ : ∃ m, k = m + 1 := ⟨k - 1, by omega⟩
    simp only [scan_Upper.l1]
    rw [if_pos (by omega), if_pos h0, capital_ok, bsome, if_pos (by omega), wr_id (by omega) (by omega), ih k (i + 1) _ (by omega) (by omega) (by omega) (by omega) (by simp; omega), ints_at s i h0 (by omega)]
    simp
theorem upper_ok (k : Nat) (s : ByteArray) (hs : s.size ≤ 1000000) (hk : s.size < k) : scan_Upper.f k s = some (UP s) := by
  unfold scan_Upper.f UP
  rw [upper_go s hs s.size k 0 [] (by omega) (by omega) (by omega) hk rfl]
  simp
theorem awake_ok (k : Nat) (hk : 400 ≤ k) : tenterhooklaw11_awake.f k = some true := at_rounds (g := fun k => tenterhooklaw11_awake.f k) tenterhooklaw11_awake.mono hk (by decide +kernel)
def toE (x : S40) : S35 := ⟨x.f0, x.f1, x.f2, x.f3, x.f4⟩
def toW (x : S35) : S40 := ⟨x.f0, x.f1, x.f2, x.f3, x.f4⟩
theorem rd40 {l : List S40} {i : Nat} (h : i < l.length) : rd_T40 l (i : Int) = l[i] := by
  unfold rd_T40; rw [Int.toNat_natCast, List.getD_eq_getElem?_getD, List.getElem?_eq_getElem h]; rfl
theorem rd35 {l : List S35} {i : Nat} (h : i < l.length) : rd_T35 l (i : Int) = l[i] := by
  unfold rd_T35; rw [Int.toNat_natCast, List.getD_eq_getElem?_getD, List.getElem?_eq_getElem h]; rfl
theorem few_go (l : List S40) (hl : l.length ≤ maxLen) : ∀ (d k i : Nat), i + d = l.length → d < k →
    ∃ b, tenterhookref11_Few.l0 k l (i : Int) = some b ∧ (b = true → l.length ≤ 600 ∧ ∀ j (h : j < l.length), i ≤ j → l[j].f0.size ≤ 100) := by
  intro d
  unfold maxLen at hl
  induction d with
  | zero =>
    intro k i hi hk
    obtain ⟨k, rfl⟩ : ∃ m, k = m + 1 := ⟨k - 1, by omega⟩
    refine ⟨decide ((l.length : Int) ≤ 600), ?_, fun h => ⟨by have := of_decide_eq_true h; omega, fun j h1 h2 => absurd h1 (by omega)⟩⟩
    simp only [tenterhookref11_Few.l0]
    rw [if_neg (by omega)]
  | succ d ih =>
    intro k i hi hk
    obtain ⟨k, rfl⟩ : ∃ m, k = m + 1 := ⟨k - 1, by omega⟩
    have hlt : i < l.length := by omega
    simp only [tenterhookref11_Few.l0]
    rw [if_pos (by omega), if_pos (by omega), rd40 hlt]
    by_cases c : ((l[i].f0.size : Nat) : Int) > 100
    · rw [if_pos c]
      exact ⟨false, rfl, fun h => by cases h⟩
    · rw [if_neg c, wr_id (by omega) (by omega), show ((i : Int) + 1) = ((i + 1 : Nat) : Int) by omega]
      obtain ⟨b, hb, h⟩ := ih k (i + 1) (by omega) (by omega)
      refine ⟨b, hb, fun e => ⟨(h e).1, fun j h1 h2 => ?_⟩⟩
      by_cases hh : j = i
      · subst hh; omega
      · exact (h e).2 j h1 (by omega)
theorem few_ok (k : Nat) (l : List S40) (hl : l.length ≤ maxLen) (hk : l.length < k) : ∃ b, tenterhookref11_Few.f k l = some b ∧ (b = true → l.length ≤ 600 ∧ ∀ j (h : j < l.length), l[j].f0.size ≤ 100) := by
  obtain ⟨b, hb, h⟩ := few_go l hl l.length k 0 (by omega) hk
  exact ⟨b, hb, fun e => ⟨(h e).1, fun j h1 => (h e).2 j h1 (Nat.zero_le _)⟩⟩
theorem entries_go (l : List S40) (hl : l.length ≤ 1000) : ∀ (d k i : Nat) (acc : List S35), i + d = l.length → d < k → acc.length = i →
    tenterhooklaw11_entries.l0 k l acc (i : Int) = some (acc ++ (l.drop i).map toE) := by
  intro d
  induction d with
  | zero =>
    intro k i acc hi hk ha
    obtain ⟨k, rfl⟩ : ∃ m, k = m + 1 := ⟨k - 1, by omega⟩
    simp only [tenterhooklaw11_entries.l0]
    rw [if_neg (by omega), List.drop_eq_nil_of_le (by omega), List.map_nil, List.append_nil]
  | succ d ih =>
    intro k i acc hi hk ha
    obtain ⟨k, rfl⟩ : ∃ m, k = m + 1 := ⟨k - 1, by omega⟩
    have hlt : i < l.length := by omega
    simp only [tenterhooklaw11_entries.l0, tenterhooklaw11_entry.f]
    rw [if_pos (by omega), if_pos (by omega), bsome, if_pos (by omega), wr_id (by omega) (by omega), show ((i : Int) + 1) = ((i + 1 : Nat) : Int) by omega, ih k (i + 1) _ (by omega) (by omega) (by simp; omega), List.drop_eq_getElem_cons hlt, rd40 hlt]
    rw [List.map_cons, List.append_assoc]
    rfl
theorem entries_ok (k : Nat) (l : List S40) (hl : l.length ≤ 1000) (hk : 1000 < k) : tenterhooklaw11_entries.f k l = some (l.map toE) := by
  have := entries_go l hl l.length k 0 [] (by omega) (by omega) rfl
  rw [List.drop_zero, List.nil_append] at this
  exact this
theorem sized_ok (s : ByteArray) : ∃ b, dict_sized.f s = some b ∧ (b = true → s.toList ≠ [] ∧ s.size ≤ 31) := by
  unfold dict_sized.f
  by_cases c : s.toList = []
  · rw [if_pos c]; exact ⟨_, rfl, fun h => by cases h⟩
  · rw [if_neg c]; exact ⟨_, rfl, fun h => ⟨c, by have := of_decide_eq_true h; omega⟩⟩
theorem low_go (s : ByteArray) (hs : s.size ≤ 1000) : ∀ (d k i : Nat), i + d = s.size → d < k → ∃ b, dict_named.l0 k s (i : Int) = some b := by
  intro d
  induction d with
  | zero =>
    intro k i hi hk
    obtain ⟨k, rfl⟩ : ∃ m, k = m + 1 := ⟨k - 1, by omega⟩
    simp only [dict_named.l0]
    rw [if_neg (by omega)]
    exact ⟨_, rfl⟩
  | succ d ih =>
    intro k i hi hk
    obtain ⟨k, rfl⟩ : ∃ m, k = m + 1 := ⟨k - 1, by omega⟩
    simp only [dict_named.l0]
    rw [if_pos (by omega), if_pos (by omega), wr_id (by omega) (by omega), show ((i : Int) + 1) = ((i + 1 : Nat) : Int) by omega]
    by_cases c : bt s (i : Int) ≤ 32
    · rw [if_pos c]; exact ⟨_, rfl⟩
    · rw [if_neg c]; exact ih k (i + 1) (by omega) (by omega)
theorem named_ok (k : Nat) (s : ByteArray) (hs : s.size ≤ 1000) (hk : 1001 < k) : ∃ b, dict_named.f k s = some b := by
  unfold dict_named.f
  obtain ⟨b, hb, _⟩ := sized_ok s
  rw [hb, bsome]
  cases b with
  | false => rw [if_neg (by decide)]; exact ⟨_, rfl⟩
  | true =>
    rw [if_pos rfl, upper_ok k s (by omega) (by omega), bsome]
    by_cases c : (UP s).toList = s.toList
    · rw [if_pos c]; exact low_go s hs s.size k 0 (by omega) (by omega)
    · rw [if_neg c]; exact ⟨_, rfl⟩
theorem hid_all : ∀ j : Fin 111, (op_Hidden.f (j.val : Int)).isSome = true := by decide +kernel
theorem visible_ok (v : Int) : ∃ b, dict_visible.f v = some b := by
  unfold dict_visible.f dict_within.f
  by_cases c : v ≥ 0
  · rw [if_pos c, bsome]
    by_cases d : v ≤ 110
    · rw [if_pos (decide_eq_true d)]
      have := hid_all ⟨v.toNat, by omega⟩
      rw [show ((v.toNat : Nat) : Int) = v by omega] at this
      obtain ⟨b, hb⟩ := Option.isSome_iff_exists.mp this
      rw [hb, bsome]; exact ⟨_, rfl⟩
    · rw [if_neg (by simpa using d)]; exact ⟨_, rfl⟩
  · rw [if_neg c, bsome, if_neg (by decide)]; exact ⟨_, rfl⟩
theorem addr_ok (t a : Int) : ∃ r, dict_Addr.f t a = some r := by
  unfold dict_Addr.f dict_within.f
  by_cases c : t ≥ 0
  · rw [if_pos c, bsome]
    by_cases d : t ≤ 1000000
    · rw [if_pos (decide_eq_true d)]
      by_cases e : a ≥ 0
      · rw [if_pos e, bsome]
        by_cases f : a ≤ 4095
        · rw [if_pos (decide_eq_true f)]; exact ⟨_, rfl⟩
        · rw [if_neg (by simpa using f)]; exact ⟨_, rfl⟩
      · rw [if_neg e, bsome, if_neg (by decide)]; exact ⟨_, rfl⟩
    · rw [if_neg (by simpa using d)]; exact ⟨_, rfl⟩
  · rw [if_neg c, bsome, if_neg (by decide)]; exact ⟨_, rfl⟩
theorem sane_ok (k : Nat) (s : ByteArray) (b : Bool) (kd v t a : Int) (hs : s.size ≤ 1000) (hk : 1001 < k) : ∃ r, dict_Sane.f k s b kd v t a = some r := by
  unfold dict_Sane.f
  obtain ⟨n, hn⟩ := named_ok k s hs hk
  obtain ⟨r, hr⟩ := addr_ok t a
  obtain ⟨q, hq⟩ := visible_ok v
  rw [hn, bsome]
  cases n with
  | false => rw [if_neg (by decide)]; exact ⟨_, rfl⟩
  | true =>
    rw [if_pos rfl, hr, bsome, hq, bsome]
    split
    · split <;> exact ⟨_, rfl⟩
    · split
      · exact ⟨_, rfl⟩
      · split
        · exact ⟨_, rfl⟩
        · split <;> exact ⟨_, rfl⟩
theorem UP_size (s : ByteArray) : (UP s).size = s.size := by
  have h : (UP s).data.toList.length = s.data.toList.length := by
    unfold UP strOfNums
    simp only [List.length_map]
    rw [Go.Proofs.YtbgihgkobojfaaaH.ints_length, Go.Proofs.YtbgihgkobojfaaaH.data_length]
  rwa [Go.Proofs.YtbgihgkobojfaaaH.data_length, Go.Proofs.YtbgihgkobojfaaaH.data_length] at h
theorem tl_len (s : ByteArray) : s.toList.length = s.size := by rw [ByteArray.toList_eq, Array.length_toList]; rfl
theorem tl_nil (s : ByteArray) : s.toList = [] ↔ s.size = 0 := by rw [← tl_len, List.length_eq_zero_iff]
def SZ (n : Nat) : Bool := decide (n ≠ 0 ∧ n ≤ 31)
theorem sized_val (s : ByteArray) : dict_sized.f s = some (SZ s.size) := by
  unfold dict_sized.f SZ
  by_cases c : s.toList = []
  · rw [if_pos c, decide_eq_false (fun h => h.1 ((tl_nil s).1 c))]
  · rw [if_neg c]
    congr 1
    have : s.size ≠ 0 := fun h => c ((tl_nil s).2 h)
    by_cases d : (s.size : Int) ≤ 31
    · rw [decide_eq_true d, decide_eq_true ⟨this, by omega⟩]
    · rw [decide_eq_false d, decide_eq_false (fun h => d (by omega))]
theorem up1_up1 (c : Int) : Go.Proofs.YtbgihgkobojfaaaH.up1 (Go.Proofs.YtbgihgkobojfaaaH.up1 c) = Go.Proofs.YtbgihgkobojfaaaH.up1 c := by
  unfold Go.Proofs.YtbgihgkobojfaaaH.up1
  by_cases a : 97 ≤ c ∧ c ≤ 122
  · rw [if_pos a, if_neg (by omega)]
  · rw [if_neg a, if_neg a]
theorem ints_str (xs : List Int) (h : ∀ x ∈ xs, 0 ≤ x ∧ x ≤ 255) : Go.Proofs.YtbgihgkobojfaaaH.ints (strOfNums xs) = xs := by
  unfold Go.Proofs.YtbgihgkobojfaaaH.ints strOfNums
  rw [List.map_map]
  refine (List.map_congr_left fun x hx => ?_).trans (List.map_id _)
  obtain ⟨h0, h1⟩ := h x hx
  show ((UInt8.ofNat x.toNat).toNat : Int) = x
  rw [UInt8.toNat_ofNat']
  omega
theorem ints_range (s : ByteArray) : ∀ x ∈ Go.Proofs.YtbgihgkobojfaaaH.ints s, 0 ≤ x ∧ x ≤ 255 := fun x hx => by
  unfold Go.Proofs.YtbgihgkobojfaaaH.ints at hx
  obtain ⟨b, _, rfl⟩ := List.mem_map.1 hx
  have := b.toNat_lt
  omega
theorem ints_UP (s : ByteArray) : Go.Proofs.YtbgihgkobojfaaaH.ints (UP s) = (Go.Proofs.YtbgihgkobojfaaaH.ints s).map Go.Proofs.YtbgihgkobojfaaaH.up1 := ints_str _ fun x hx => by
  obtain ⟨y, hy, rfl⟩ := List.mem_map.1 hx
  exact Go.Proofs.YtbgihgkobojfaaaH.up1_range (ints_range s y hy).1 (ints_range s y hy).2
theorem UP_UP (s : ByteArray) : UP (UP s) = UP s := by
  show strOfNums ((Go.Proofs.YtbgihgkobojfaaaH.ints (UP s)).map Go.Proofs.YtbgihgkobojfaaaH.up1) = strOfNums ((Go.Proofs.YtbgihgkobojfaaaH.ints s).map Go.Proofs.YtbgihgkobojfaaaH.up1)
  rw [ints_UP, List.map_map]
  congr 1
  exact List.map_congr_left fun x _ => up1_up1 x
def SA (s : ByteArray) (b : Bool) (kd v t a : Int) : Bool := (dict_Sane.f 1002 s b kd v t a).getD false
theorem sane_val (k : Nat) (s : ByteArray) (b : Bool) (kd v t a : Int) (hs : s.size ≤ 1000) (hk : 1002 ≤ k) : dict_Sane.f k s b kd v t a = some (SA s b kd v t a) := by
  obtain ⟨r, hr⟩ := sane_ok 1002 s b kd v t a hs (by omega)
  have : SA s b kd v t a = r := by unfold SA; rw [hr]; rfl
  rw [this]
  exact at_rounds (g := fun k => dict_Sane.f k s b kd v t a) (dict_Sane.mono s b kd v t a) hk hr
theorem add_val (k : Nat) (l : List S35) (s : ByteArray) (b : Bool) (kd v t a : Int) (hl : l.length ≤ 1000) (hs : s.size ≤ 1000) (hk : 1002 ≤ k) : dict_Add.f k l s b kd v t a =
    some (if SZ s.size = true then (if SA (UP s) b kd v t a = true then (if (l.length : Int) ≥ 512 then (l, -8) else (l ++ [⟨UP s, b, kd, v, ⟨t, a⟩⟩], 0)) else (l, -21)) else (l, -16)) := by
  unfold dict_Add.f
  rw [upper_ok k s (by omega) (by omega), bsome, sized_val, bsome, UP_size]
  by_cases c : SZ s.size = true
  · rw [if_pos c, if_pos c, sane_val k (UP s) b kd v t a (by rw [UP_size]; omega) hk, bsome]
    by_cases d : SA (UP s) b kd v t a = true
    · rw [if_pos d, if_pos d]
      by_cases e : (l.length : Int) ≥ 512
      · rw [if_pos e, if_pos e]
      · rw [if_neg e, if_neg e]
        unfold dict_Entry_40.f
        rw [bsome, if_pos (by simp; omega), bsome, bsome, if_pos (by simp; omega)]
        rfl
    · rw [if_neg d, if_neg d]
  · rw [if_neg c, if_neg c]
theorem DictNames : tenterhooklaw11_DictNames.Pure := by
  intro l0 hl x1 h1
  obtain ⟨k, hk⟩ : ∃ k, k = l0.length + 5000 := ⟨_, rfl⟩
  refine ⟨k + 2, ?_⟩
  obtain ⟨b, hb, hfew⟩ := few_ok (k + 2) l0 hl.1 (by omega)
  unfold tenterhooklaw11_DictNames.f
  rw [awake_ok (k + 2) (by omega), hb, bsome, bsome]
  have skip : tenterhooklaw11_DictNames.j0 (k + 2) l0 true true x1.f0 x1.f1 x1.f2 x1.f3 x1.f4.f0 x1.f4.f1 = some true := by
    simp only [tenterhooklaw11_DictNames.j0]
    rw [if_pos trivial]
  cases b with
  | false => rw [if_neg (by decide)]; exact skip
  | true =>
    rw [if_pos rfl]
    obtain ⟨hlen, hnames⟩ := hfew rfl
    by_cases c1 : (x1.f0.size : Int) > 100
    · rw [if_pos c1]; exact skip
    rw [if_neg c1]
    by_cases c2 : (l0.length : Int) > 500
    · rw [decide_eq_true c2]; exact skip
    rw [decide_eq_false c2]
    have hml : (l0.map toE).length = l0.length := List.length_map _
    have bad : ∀ (m : List S35) (f : Int), (if (x1.f0.size : Int) = 0 then tenterhooklaw11_DictNames.j1 (k + 1) l0 true m f true x1.f0 x1.f1 x1.f2 x1.f3 x1.f4.f0 x1.f4.f1 else tenterhooklaw11_DictNames.j1 (k + 1) l0 true m f (decide ((x1.f0.size : Int) > 31)) x1.f0 x1.f1 x1.f2 x1.f3 x1.f4.f0 x1.f4.f1) =
        tenterhooklaw11_DictNames.j1 (k + 1) l0 true m f (!SZ x1.f0.size) x1.f0 x1.f1 x1.f2 x1.f3 x1.f4.f0 x1.f4.f1 := by
      intro m f
      unfold SZ
      by_cases c : (x1.f0.size : Int) = 0
      · rw [if_pos c, decide_eq_false (fun h => h.1 (by omega))]; rfl
      · rw [if_neg c]
        by_cases d : (x1.f0.size : Int) > 31
        · rw [decide_eq_true d, decide_eq_false (fun h => by omega)]; rfl
        · rw [decide_eq_false d, decide_eq_true ⟨by omega, by omega⟩]; rfl
    simp only [tenterhooklaw11_DictNames.j0, tenterhooklaw11_entry.f]
    rw [if_neg (by decide), entries_ok (k + 1) l0 (by omega) (by omega), bsome, bsome, add_val (k + 1) (l0.map toE) x1.f0 x1.f1 x1.f2 x1.f3 x1.f4.f0 x1.f4.f1 (by omega) (by omega) (by omega), bsome, bad]
    clear bad skip
    by_cases cz : SZ x1.f0.size = true
    · rw [if_pos cz, cz]
      by_cases cs : SA (UP x1.f0) x1.f1 x1.f2 x1.f3 x1.f4.f0 x1.f4.f1 = true
      · rw [if_pos cs, if_neg (show ¬ ((l0.map toE).length : Int) ≥ 512 by omega)]
        obtain ⟨m, hm⟩ : ∃ m, m = l0.map toE ++ [(⟨UP x1.f0, x1.f1, x1.f2, x1.f3, ⟨x1.f4.f0, x1.f4.f1⟩⟩ : S35)] := ⟨_, rfl⟩
        rw [← hm]
        have hnl : m.length = l0.length + 1 := by rw [hm]; simp
        have hrd : rd_T35 m (l0.length : Int) = ⟨UP x1.f0, x1.f1, x1.f2, x1.f3, ⟨x1.f4.f0, x1.f4.f1⟩⟩ := by
          unfold rd_T35
          rw [hm, Int.toNat_natCast, List.getD_eq_getElem?_getD, List.getElem?_append_right (by omega), hml, Nat.sub_self]
          rfl
        simp only [tenterhooklaw11_DictNames.j1, hrd]
        rw [if_pos trivial, hnl, wr_id (by omega) (by omega), if_pos (by omega), if_pos (by omega), if_pos (by omega), add_val k m (UP x1.f0) x1.f1 x1.f2 x1.f3 x1.f4.f0 x1.f4.f1 (by omega) (by rw [UP_size]; omega) (by omega), bsome, UP_UP, UP_size, if_pos cz, if_pos cs, if_neg (show ¬ (m.length : Int) ≥ 512 by omega), if_pos trivial, if_neg (by decide),
          sane_val k (UP x1.f0) x1.f1 x1.f2 x1.f3 x1.f4.f0 x1.f4.f1 (by rw [UP_size]; omega) (by omega), bsome, cs]
        have hn2 : (m ++ [(⟨UP x1.f0, x1.f1, x1.f2, x1.f3, ⟨x1.f4.f0, x1.f4.f1⟩⟩ : S35)]).length = l0.length + 2 := by rw [List.length_append, hnl]; rfl
        have hrd2 : rd_T35 (m ++ [(⟨UP x1.f0, x1.f1, x1.f2, x1.f3, ⟨x1.f4.f0, x1.f4.f1⟩⟩ : S35)]) ((l0.length + 1 : Nat) : Int) = ⟨UP x1.f0, x1.f1, x1.f2, x1.f3, ⟨x1.f4.f0, x1.f4.f1⟩⟩ := by
          unfold rd_T35
          rw [Int.toNat_natCast, List.getD_eq_getElem?_getD, List.getElem?_append_right (by omega), hnl, Nat.sub_self]
          rfl
        simp only [hrd2, hn2]
        rw [wr_id (by omega) (by omega)]
        simp
        rw [if_pos (by omega), if_pos (by omega)]
      · rw [if_neg cs]
        simp [tenterhooklaw11_DictNames.j1]
    · rw [if_neg cz, Bool.eq_false_iff.mpr cz]
      simp [tenterhooklaw11_DictNames.j1]
end Go.Proofs.Ytbgihgkobojfaaa.Pure
