/- QueueRound. -/
import Derived.Test.YtoihpjpgihhcjaaEvf16F2
open Go Go.Proofs.YtoihpjpgihhcjaaEv Go.Proofs.YtoihpjpgihhcjaaR Go.IntWalk Go.Proofs
set_option maxRecDepth 20000
set_option maxHeartbeats 8000000
set_option linter.unusedVariables false
set_option linter.unusedSimpArgs false
namespace Go.Proofs.YtoihpjpgihhcjaaR
def andI (a b : Int) : Int := IntKind.i64.wrap ((BitVec.ofInt 64 a &&& BitVec.ofInt 64 b).toNat : Int)
theorem andI_le (a : Int) (b : Nat) (hb : b < 100000) : ∃ k : Nat, andI a b = k ∧ k ≤ b := by
  have h := Nat.and_le_right (n := (BitVec.ofInt 64 a).toNat) (m := (BitVec.ofInt 64 (b : Int)).toNat)
  have hb2 : (BitVec.ofInt 64 (b : Int)).toNat = b := by
    rw [BitVec.toNat_ofInt]; omega
  rw [hb2] at h
  refine ⟨((BitVec.ofInt 64 a).toNat &&& b), ?_, h⟩
  unfold andI
  rw [BitVec.toNat_and, hb2]
  exact i64_in _ (by omega)
theorem insX_end {l : List It} {x : It} (h : ∀ y ∈ l, Ahd y x) : insX l x = l ++ [x] := by
  have hp : posK l x = l.length := by
    unfold posK
    induction l with
    | nil => rfl
    | cons z l ih =>
      rw [List.takeWhile_cons_of_pos (p := fun y => aheadB y x) (ahead_iff.2 (h z List.mem_cons_self)), List.length_cons, List.length_cons, ih fun y hy => h y (List.mem_cons_of_mem _ hy)]
  unfold insX
  rw [hp, List.take_length, List.drop_length]
def itR (k : Nat) (p : Int) (t : Nat) : It := (((t % k : Nat) : Int), p, (t : Int))
def lstR (k : Nat) (p : Int) (s m : Nat) : List It := (List.range' s m).map (itR k p)
theorem lstR_len (k : Nat) (p : Int) (s m : Nat) : (lstR k p s m).length = m := by unfold lstR; simp
theorem mem_lstR {k : Nat} {p : Int} {s m : Nat} {x : It} : x ∈ lstR k p s m ↔ ∃ t, s ≤ t ∧ t < s + m ∧ x = itR k p t := by
  unfold lstR
  rw [List.mem_map]
  constructor
  · rintro ⟨t, ht, rfl⟩; rw [List.mem_range'_1] at ht; exact ⟨t, ht.1, ht.2, rfl⟩
  · rintro ⟨t, h1, h2, rfl⟩; exact ⟨t, List.mem_range'_1.2 ⟨h1, h2⟩, rfl⟩
theorem mod_ne {k a b : Nat} (h : a < b) (hb : b < a + k) : a % k ≠ b % k := fun e => by
  have h1 := Nat.sub_mod_eq_zero_of_mod_eq e.symm
  rw [Nat.mod_eq_of_lt (by omega)] at h1
  omega
theorem pw_range {α : Type} {R : α → α → Prop} {f : Nat → α} : ∀ (m s : Nat), (∀ a b, s ≤ a → a < b → b < s + m → R (f a) (f b)) → ((List.range' s m).map f).Pairwise R
  | 0, _, _ => .nil
  | m + 1, s, h => by
    rw [List.range'_succ, List.map_cons]
    refine .cons (fun y hy => ?_) (pw_range m (s + 1) fun a b h1 h2 h3 => h a b (by omega) h2 (by omega))
    obtain ⟨t, ht, rfl⟩ := List.mem_map.1 hy
    rw [List.mem_range'_1] at ht
    exact h s t (Nat.le_refl _) (by omega) (by omega)
theorem fitR {k : Nat} {p : Int} {s m : Nat} (hk : k ≤ 8) (hm : m ≤ k) (h0 : 0 ≤ p) (h3 : p ≤ 3) (hs : s + m ≤ 1000) : Fit ((s + m : Nat) : Int) (lstR k p s m) := by
  refine ⟨by omega, by omega, by rw [lstR_len]; omega, fun x hx => ?_, pw_range _ _ fun a b h1 h2 h3 => ?_, pw_range _ _ fun a b h1 h2 h3 => ?_, pw_range _ _ fun a b h1 h2 h3 => ?_⟩
  · obtain ⟨t, h1, h2, rfl⟩ := mem_lstR.1 hx
    have := Nat.mod_lt t (show k > 0 by omega)
    exact may_iff.2 (by unfold itR; simp only; omega)
  · have := mod_ne (k := k) h2 (by omega)
    unfold itR; simp only; omega
  · unfold itR; simp only; omega
  · exact .inr ⟨rfl, by show (a : Int) < (b : Int); omega⟩
theorem putR {k : Nat} {p : Int} {s m : Nat} (hk : k ≤ 8) (hm : m < k) (h0 : 0 ≤ p) (h3 : p ≤ 3) (hs : s + m < 1000) : putQ (((s + m : Nat) : Int), lstR k p s m) (((s + m) % k : Nat) : Int) p = ((((s + m + 1 : Nat) : Int), lstR k p s (m + 1)), true) := by
  have hf := fitR (k := k) (p := p) (s := s) (m := m) hk (by omega) h0 h3 (by omega)
  have hmd := Nat.mod_lt (s + m) (show k > 0 by omega)
  have ho : PutOk ((s + m : Nat) : Int) (lstR k p s m) (((s + m) % k : Nat) : Int) p := ⟨may_iff.2 (by simp only; omega), fun y hy => by
    obtain ⟨t, h1, h2, rfl⟩ := mem_lstR.1 hy
    have := mod_ne (k := k) (a := t) (b := s + m) (by omega) (by omega)
    unfold itR; simp only; omega, by omega⟩
  rw [(put_ok hf ho).1]
  have e1 : insX (lstR k p s m) ((((s + m) % k : Nat) : Int), p, ((s + m : Nat) : Int)) = lstR k p s (m + 1) := by
    rw [insX_end fun y hy => by
      obtain ⟨t, h1, h2, rfl⟩ := mem_lstR.1 hy
      exact .inr ⟨rfl, by show (t : Int) < ((s + m : Nat) : Int); omega⟩]
    unfold lstR
    rw [List.range'_concat, List.map_append, Nat.one_mul]
    rfl
  rw [e1, show (((s + m : Nat) : Int) + 1) = ((s + m + 1 : Nat) : Int) by omega]
theorem takeR {k : Nat} {p : Int} {s m : Nat} (hk : k ≤ 8) (hm : m < k) (h0 : 0 ≤ p) (h3 : p ≤ 3) (hs : s + m < 1000) : nthQ (((s + (m + 1) : Nat) : Int), lstR k p s (m + 1)) 0 = ((((s + (m + 1) : Nat) : Int), lstR k p (s + 1) m), ((s % k : Nat) : Int), true) := by
  have hf := fitR (k := k) (p := p) (s := s) (m := m + 1) hk (by omega) h0 h3 (by omega)
  unfold nthQ
  rw [saneQ_id (q := (((s + (m + 1) : Nat) : Int), lstR k p s (m + 1))) hf]
  have e : lstR k p s (m + 1) = itR k p s :: lstR k p (s + 1) m := by unfold lstR; rw [List.range'_succ, List.map_cons]
  simp only [e]
  rw [if_neg (by simp), show (0 : Int).toNat % (itR k p s :: lstR k p (s + 1) m).length = 0 from Nat.zero_mod _]
  rfl
section
variable {cf : CF} (hcf : cf = ev env)
include hcf
theorem s4 (n prio rounds : Int) : Sp cf 4 [.int .i64 n, .int .i64 prio, .int .i64 rounds] (.bool true) := by
  have h8 := s8 hcf
  have f1 : ∀ a b : Int, IntKind.i64.wrap ((BitVec.ofInt IntKind.i64.bits a &&& BitVec.ofInt IntKind.i64.bits b).toNat : Int) = andI a b := fun _ _ => rfl
  refine sp_of hcf env4 ?_
  obtain ⟨k', hk', hk2⟩ := andI_le n 7 (by decide)
  obtain ⟨p, hp, hp2⟩ := andI_le prio 3 (by decide)
  obtain ⟨c, hc, hc2⟩ := andI_le rounds 7 (by decide)
  have hk' : andI n 7 = (k' : Int) := hk'
  have hp : andI prio 3 = (p : Int) := hp
  have hc : andI rounds 7 = (c : Int) := hc
  have hw1 : IntKind.i64.wrap (1 + (k' : Int)) = ((k' + 1 : Nat) : Int) := by rw [i64_in _ (by omega)]; omega
  obtain ⟨k, hk⟩ : ∃ k, k' + 1 = k := ⟨_, rfl⟩
  rw [hk] at hw1
  have hk8 : k ≤ 8 := by omega
  conv => arg 2; simp only [ir4]
  conv => arg 3; simp only [ir4, Go.Proofs.YtoihpjpgihhcjaaEv.start, List.length, Nat.reduceAdd, Nat.reduceSub, List.reduceReplicate, List.append_eq, List.cons_append, List.nil_append]
  conv => arg 4; simp only [heapOf]
  try conv => arg 5; simp only [List.length, Nat.reduceAdd]
  try conv => arg 6; simp only [List.length, Nat.reduceAdd]
  refine EVgo9 (And.intro (f1) ( And.intro (hk') ( And.intro (hp) (hw1)))) (h8) trivial trivial trivial trivial trivial trivial trivial trivial trivial trivial ?_
  refine WC.loop (T' := _) (H' := _) (n' := _) rfl ((?_ : ∀ (r i : Nat) (v : PV), i + r = k → (v = .nil ∧ i = 0) ∨ v = slX (lstR k p 0 i) →
    WC cf _ (mkT 85 [(2, .int .i64 rounds), (7, .bool true), (8, .int .i64 (k : Nat)), (9, .int .i64 (p : Nat)), (10, .ptr 0 0), (11, .int .i64 (i : Nat))]) [(0, .box [.int .i64 (i : Nat), v])] 0 1 _) k 0 .nil (by omega) (.inl ⟨rfl, rfl⟩))
  intro r
  induction r with
  | succ r ih =>
    intro i v hi hv
    have hlt : (i : Int) < (k : Int) := by omega
    have hw : IntKind.i64.wrap ((i : Int) + 1) = ((i + 1 : Nat) : Int) := by rw [i64_in _ (by omega)]; simp
    have h13 := s13 hcf ((i : Int), lstR k p 0 i) (i : Int) (p : Int) (by simp only; rw [lstR_len]; omega)
    have hput := putR (k := k) (p := p) (s := 0) (m := i) hk8 (by omega) (by omega) (by omega) (by omega)
    rw [Nat.zero_add, Nat.mod_eq_of_lt (show i < k by omega)] at hput
    rw [hput] at h13
    have hih := ih (i + 1) _ (by omega) (.inr rfl)
    simp only [encB, encQ, slX] at h13 hih
    rcases hv with ⟨rfl, hi0⟩ | rfl
    · have e0 : lstR k p 0 i = [] := by rw [hi0]; rfl
      rw [e0] at h13
      simp only [List.length, flat_nil] at h13
      generalize lstR k p 0 (i + 1) = m1 at *
      conv => arg 3; simp only [mkT, putT, List.reduceReplicate, List.set]
      refine EVgo9 (And.intro (hlt) (hw)) (h13) trivial trivial trivial trivial trivial trivial trivial trivial trivial trivial ?_
      exact WC.loop rfl hih
    · simp only [slX]
      generalize lstR k p 0 (i + 1) = m1 at *
      generalize lstR k p 0 i = m0 at *
      conv => arg 3; simp only [mkT, putT, List.reduceReplicate, List.set]
      refine EVgo9 (And.intro (hlt) (hw)) (h13) trivial trivial trivial trivial trivial trivial trivial trivial trivial trivial ?_
      exact WC.loop rfl hih
  | zero =>
    intro i v hi hv
    rw [Nat.add_zero] at hi
    subst hi
    have hv' : v = slX (lstR i p 0 i) := by
      rcases hv with ⟨_, h0⟩ | h
      · omega
      · exact h
    rw [hv']
    clear hv hv'
    have hne : ((i : Nat) : Int) ≠ 0 := by omega
    have w2 : IntKind.i64.wrap ((c : Int) * (i : Int)) = ((c * i : Nat) : Int) := by
      have h1 : c * i ≤ 7 * 8 := Nat.mul_le_mul hc2 hk8
      rw [i64_in _ (by rw [← Int.natCast_mul]; omega), Int.natCast_mul]
    have hci : c * i ≤ 7 * 8 := Nat.mul_le_mul hc2 hk8
    generalize c * i = d at *
    simp only [slX]
    conv => arg 3; simp only [mkT, putT, List.reduceReplicate, List.set]
    refine EVgl9 trivial trivial trivial trivial trivial trivial trivial trivial trivial trivial trivial trivial ?_
    refine WC.loop (T' := _) (H' := _) (n' := _) rfl ((?_ : ∀ (r j : Nat), j + r = d →
      WC cf _ (mkT 85 [(2, .int .i64 rounds), (7, .bool true), (8, .int .i64 (i : Nat)), (9, .int .i64 (p : Nat)), (10, .ptr 0 0), (14, .int .i64 (j : Nat))]) [(0, .box [.int .i64 ((i + j : Nat) : Int), .sl (lstR i p j i).length false (flat encX (lstR i p j i))])] 0 1 _) d 0 (by omega))
    intro r
    induction r with
    | succ r ih =>
      intro j hj
      have hlt : (j : Int) < (d : Int) := by omega
      have hw : IntKind.i64.wrap ((j : Int) + 1) = ((j + 1 : Nat) : Int) := by rw [i64_in _ (by omega)]; simp
      have h11 := s11 hcf (((j + i : Nat) : Int), lstR i p j i) (by simp only; rw [lstR_len]; omega)
      obtain ⟨m, rfl⟩ : ∃ m, i = m + 1 := ⟨i - 1, by omega⟩
      have htk := takeR (k := m + 1) (p := p) (s := j) (m := m) hk8 (by omega) (by omega) (by omega) (by omega)
      rw [htk] at h11
      have h13 := s13 hcf (((j + (m + 1) : Nat) : Int), lstR (m + 1) p (j + 1) m) ((j % (m + 1) : Nat) : Int) (p : Int) (by simp only; rw [lstR_len]; omega)
      have hput := putR (k := m + 1) (p := p) (s := j + 1) (m := m) hk8 (by omega) (by omega) (by omega) (by omega)
      rw [show j + 1 + m = j + (m + 1) by omega, Nat.add_mod_right] at hput
      rw [hput] at h13
      have hrem : ((j : Nat) : Int).tmod ((m + 1 : Nat) : Int) = ((j % (m + 1) : Nat) : Int) := (Int.ofNat_tmod _ _).symm
      have q1 : (((j % (m + 1) : Nat) : Int) != ((j % (m + 1) : Nat) : Int)) = false := bne_self_eq_false _
      have hih := ih (j + 1) (by omega)
      rw [show m + 1 + (j + 1) = j + (m + 1) + 1 by omega] at hih
      rw [Nat.add_comm (m + 1) j]
      simp only [encB, encN, encQ, slX] at h13 h11 hih
      generalize j % (m + 1) = u at *
      generalize lstR (m + 1) p (j + 1) (m + 1) = m1 at *
      generalize lstR (m + 1) p (j + 1) m = m2 at *
      generalize lstR (m + 1) p j (m + 1) = m3 at *
      generalize m + 1 = kk at *
      generalize j + kk = jk at *
      conv => arg 3; simp only [mkT, putT, List.reduceReplicate, List.set]
      refine EVgo9 (And.intro (hlt) ( And.intro (hw) ( And.intro (f1) ( And.intro (hc) (w2))))) (h11) (h13) trivial trivial trivial trivial trivial trivial trivial (k_rem hne) trivial ?_
      refine EVgo9 (And.intro (hlt) ( And.intro (hw) ( And.intro (hrem) (q1)))) trivial trivial trivial trivial trivial trivial trivial trivial trivial trivial trivial ?_
      exact WC.loop rfl hih
    | zero =>
      intro j hj
      rw [Nat.add_zero] at hj
      subst hj
      have hf := fitR (k := i) (p := p) (s := j) (m := i) hk8 (Nat.le_refl _) (by omega) (by omega) (by omega)
      have h14 := s14 hcf (((j + i : Nat) : Int), lstR i p j i) (by simp only; rw [lstR_len]; omega)
      rw [saneQ_id (q := (((j + i : Nat) : Int), lstR i p j i)) hf] at h14
      have hlen := lstR_len i p j i
      have q1 : (((i : Nat) : Int) == ((i : Nat) : Int)) = true := beq_self_eq_true _
      simp only [encQ, slX] at h14
      rw [Nat.add_comm i j]
      generalize lstR i p j i = m3 at *
      generalize j + i = ji at *
      conv => arg 3; simp only [mkT, putT, List.reduceReplicate, List.set]
      refine EVgl9 (And.intro (f1) ( And.intro (hc) (w2))) (h14) trivial trivial trivial trivial trivial trivial trivial trivial trivial trivial ?_
      refine EVgo9 (And.intro (hlen) (q1)) trivial trivial trivial trivial trivial trivial trivial trivial trivial trivial trivial ?_
      exact EVret trivial
end
end Go.Proofs.YtoihpjpgihhcjaaR
