/- Evf17F8: a part of the proof. -/
import Derived.Test.YtppnijapeepbnaaEvf17F7
open Go Go.Proofs.YtppnijapeepbnaaEv Go.Proofs.YtppnijapeepbnaaR Go.IntWalk Go.Proofs
set_option maxRecDepth 20000
set_option maxHeartbeats 16000000
set_option linter.unusedVariables false
set_option linter.unusedSimpArgs false
namespace Go.Proofs.YtppnijapeepbnaaR
def encI (x : Int) : List PV := [.int .i64 x]
def slI (l : List Int) : PV := .sl l.length false (flat encI l)
theorem mid_I {m p r : List Int} {x : Int} (h : p ++ x :: r = m) : (flat encI m).drop p.length = .int .i64 x :: flat encI r := by
  subst h
  have := flat_drop (enc := encI) (es := 1) (fun _ => rfl) (p ++ x :: r) p.length
  rw [Nat.mul_one] at this
  rw [this, List.drop_left]
  rfl
theorem at_I {l : List Int} {i : Nat} (hi : i < l.length) : (flat encI l).drop i = .int .i64 (l.getD i 0) :: flat encI (l.drop (i + 1)) := by
  have := flat_at (enc := encI) (es := 1) (fun _ => rfl) hi
  rw [Nat.mul_one] at this
  rw [this, List.getD_eq_getElem?_getD, List.getElem?_eq_getElem hi]
  rfl
theorem nod_inj : ∀ {l : List Np} {x y : Np}, l.Pairwise (fun a b => a.1 ≠ b.1) → x ∈ l → y ∈ l → x.1 = y.1 → x = y
  | z :: l, x, y, h, hx, hy, e => by
    have h' := List.pairwise_cons.1 h
    rcases List.mem_cons.1 hx with hx1 | hx1
    · rcases List.mem_cons.1 hy with hy1 | hy1
      · rw [hx1, hy1]
      · rw [hx1] at e; exact absurd e (h'.1 y hy1)
    · rcases List.mem_cons.1 hy with hy1 | hy1
      · rw [hy1] at e; exact absurd e.symm (h'.1 x hx1)
      · exact nod_inj h'.2 hx1 hy1 e
/-- how often one has woken -/
def cntI (D : List Np) (j : Nat) : Int := if hasN D (j : Int) = true then 1 else 0
def upd (c : Nat → Int) (k : Nat) (v : Int) (j : Nat) : Int := if j = k then v else c j
theorem snoc_lenI (p : List Int) (x : Int) : (p ++ [x]).length = p.length + 1 := by simp
def box8 (c : Nat → Int) : List PV := [.int .i64 (c 0), .int .i64 (c 1), .int .i64 (c 2), .int .i64 (c 3), .int .i64 (c 4), .int .i64 (c 5), .int .i64 (c 6), .int .i64 (c 7)]
theorem lt8 {k : Nat} (h : k < 8) : k = 0 ∨ k = 1 ∨ k = 2 ∨ k = 3 ∨ k = 4 ∨ k = 5 ∨ k = 6 ∨ k = 7 := by omega
theorem k_iaddrA {cf : CF} {new : Nat} {T : List PV} {H : Heap} {es len id off k : Nat} {x i : X} (h : k < len) (hi : valT T i = .int .i64 (k : Nat)) (hx : valT T x = .ptr id off) : EK cf (.iaddrA es len x i) new T H (.ptr id (off + k * es)) [] := ⟨by
  simp only [evalK, hi, hx]
  rw [if_pos ⟨by omega, by omega⟩, Int.toNat_natCast]⟩
theorem k_load8 {cf : CF} {new : Nat} {T : List PV} {H : Heap} {id k : Nat} {a : X} {c : Nat → Int} (h : k < 8) (ha : valT T a = .ptr id k) (hg : hget H id = some (.box (box8 c))) : EK cf (.load false 1 a) new T H (.int .i64 (c k)) [] := ⟨by
  simp only [evalK, ha, hg]
  rcases lt8 h with rfl | rfl | rfl | rfl | rfl | rfl | rfl | rfl <;> rfl⟩
theorem k_store8 {cf : CF} {new : Nat} {T : List PV} {H : Heap} {id k : Nat} {a x : X} {c : Nat → Int} {v : Int} (h : k < 8) (ha : valT T a = .ptr id k) (hx : valT T x = .int .i64 v) (hg : hget H id = some (.box (box8 c))) : EK cf (.store 1 a x) new T H .undef [(id, some (.box (box8 (upd c k v))))] := ⟨by
  simp only [evalK, ha, hx, hg]
  rcases lt8 h with rfl | rfl | rfl | rfl | rfl | rfl | rfl | rfl <;> rfl⟩
/-- the naps of the first n -/
def InW (l : List Int) (n : Nat) (x : Np) : Prop := ∃ i : Nat, i < n ∧ x = ((i : Int), andI (l.getD i 0) 31)
def doneB (s t : Nat) (y : Np) : Bool := decide (s < t) && decide (y.2 < (t : Int))
theorem done_iff {s t : Nat} {y : Np} : doneB s t y = true ↔ s < t ∧ y.2 < (t : Int) := by unfold doneB; simp
theorem done_no {s t : Nat} {y : Np} (h : ¬ (s < t ∧ y.2 < (t : Int))) : doneB s t y = false := by rw [← Bool.not_eq_true, done_iff]; exact h
theorem Sp.any {cf : CF} {f : Nat} {As : List PV} {Y : PV} (h : Sp cf f As Y) {xs : List PV} (h1 : idsL xs = []) (h2 : norms xs = As) : cf f xs [] = some (Y, []) := h.ok xs h1 h2
section
variable {cf : CF} (hcf : cf = ev env)
include hcf
theorem s3 (l : List Int) (from_ : Int) : Sp cf 3 [slI l, .int .i64 from_] (.bool true) := by
  have h7 := s7 hcf
  have f1 : ∀ a b : Int, IntKind.i64.wrap ((BitVec.ofInt IntKind.i64.bits a &&& BitVec.ofInt IntKind.i64.bits b).toNat : Int) = andI a b := fun _ _ => rfl
  refine sp_of hcf env3 ?_
  by_cases hl : l.length ≤ 8
  rotate_left
  · have hl' : (l.length : Int) > 8 := by omega
    simp only [slI]
    conv => arg 2; simp only [ir3]
    conv => arg 3; simp only [ir3, Go.Proofs.YtppnijapeepbnaaEv.start, List.length, Nat.reduceAdd, Nat.reduceSub, List.reduceReplicate, List.append_eq, List.cons_append, List.nil_append]
    conv => arg 4; simp only [heapOf]
    try conv => arg 5; simp only [List.length, Nat.reduceAdd]
    try conv => arg 6; simp only [List.length, Nat.reduceAdd]
    refine EVgo9 (hl') (h7) trivial trivial trivial trivial trivial trivial trivial trivial trivial trivial ?_
    exact EVret trivial
  have hl' : ¬ (l.length : Int) > 8 := by omega
  obtain ⟨s, hs, hs2⟩ := andI_le from_ 15 (by decide)
  have hs' : andI from_ 15 = (s : Int) := hs
  simp only [slI]
  conv => arg 2; simp only [ir3]
  conv => arg 3; simp only [ir3, Go.Proofs.YtppnijapeepbnaaEv.start, List.length, Nat.reduceAdd, Nat.reduceSub, List.reduceReplicate, List.append_eq, List.cons_append, List.nil_append]
  conv => arg 4; simp only [heapOf]
  try conv => arg 5; simp only [List.length, Nat.reduceAdd]
  try conv => arg 6; simp only [List.length, Nat.reduceAdd]
  refine EVgo9 (hl') (h7) trivial trivial trivial trivial trivial trivial trivial trivial trivial trivial ?_
  refine WC.loop (T' := _) (H' := _) (n' := _) rfl ((?_ : ∀ (r p : List Int) (v : PV) (a : List Np), p ++ r = l → (v = .nil ∧ a = []) ∨ v = slN a → Fit a → (∀ x, x ∈ a ↔ InW l p.length x) → a.length = p.length →
    WC cf _ (mkT 114 [(0, .sl l.length false (flat encI l)), (1, .int .i64 from_), (5, .bool true), (6, v), (7, .int .i64 (p.length : Nat))]) [] 0 0 _) l [] .nil [] rfl (.inl ⟨rfl, rfl⟩) ⟨fun x h => absurd h List.not_mem_nil, .nil, .nil⟩ (fun x => ⟨fun h => absurd h List.not_mem_nil, fun ⟨i, h, _⟩ => absurd h (Nat.not_lt_zero _)⟩) rfl)
  intro r
  induction r with
  | cons z r ih =>
    intro p v a hp hv hf hm hal
    have hlen : l.length = p.length + (r.length + 1) := by rw [← hp]; simp
    have hlt : (p.length : Int) < (l.length : Int) := by omega
    have hw : IntKind.i64.wrap ((p.length : Int) + 1) = ((p.length + 1 : Nat) : Int) := by rw [i64_in _ (by omega)]; simp
    have e0 := mid_I hp
    have hz : l.getD p.length 0 = z := by rw [← hp, List.getD_eq_getElem?_getD]; simp
    obtain ⟨k, hk, hk2⟩ := andI_le z 31 (by decide)
    have hk' : andI z 31 = (k : Int) := hk
    have hmay : mayB ((p.length : Int), (k : Int)) = true := may_iff.2 (by simp only; omega)
    have hno : hasN a (p.length : Int) = false := hasN_no.2 fun y hy e => by
      obtain ⟨i, hi, rfl⟩ := (hm y).1 hy
      have : (i : Int) = (p.length : Int) := e
      omega
    have h8 := s8 hcf a ((p.length : Int), (k : Int)) (by omega) (by rw [saneL_id hf]; omega)
    have hpl : putL a ((p.length : Int), (k : Int)) = putF a ((p.length : Int), (k : Int)) := by rw [putL_eq, saneL_id hf, if_pos ⟨hmay, hno⟩]
    have hpo : putOk a ((p.length : Int), (k : Int)) = true := by unfold putOk; rw [saneL_id hf, hmay, hno]; rfl
    rw [hpl, hpo] at h8
    have hih := ih (p ++ [z]) (slN (putF a ((p.length : Int), (k : Int)))) (putF a ((p.length : Int), (k : Int))) (by rw [List.append_assoc]; exact hp) (.inr rfl) (hf.put hmay hno) (fun x => by
      rw [mem_putF, hm, snoc_len]
      constructor
      · rintro (rfl | ⟨i, hi, rfl⟩)
        · exact ⟨p.length, by omega, by rw [hz, hk']⟩
        · exact ⟨i, by omega, rfl⟩
      · rintro ⟨i, hi, rfl⟩
        by_cases q : i = p.length
        · subst q; exact .inl (by rw [hz, hk'])
        · exact .inr ⟨i, by omega, rfl⟩) (by rw [putF_len _ _ hf.srt, snoc_len, hal])
    rw [snoc_len] at hih
    generalize putF a ((p.length : Int), (k : Int)) = b at *
    simp only [slN] at h8 hih
    rcases hv with ⟨rfl, rfl⟩ | rfl
    · simp only [List.length, flat_nil] at h8
      conv => arg 3; simp only [mkT, putT, List.reduceReplicate, List.set]
      refine EVgo9 (And.intro (hlt) ( And.intro (hw) ( And.intro (e0) ( And.intro (f1) (hk'))))) (h8) trivial trivial trivial trivial trivial trivial trivial trivial trivial trivial ?_
      exact WC.loop rfl hih
    · simp only [slN]
      conv => arg 3; simp only [mkT, putT, List.reduceReplicate, List.set]
      refine EVgo9 (And.intro (hlt) ( And.intro (hw) ( And.intro (e0) ( And.intro (f1) (hk'))))) (h8) trivial trivial trivial trivial trivial trivial trivial trivial trivial trivial ?_
      exact WC.loop rfl hih
  | nil =>
    intro p v a hp hv hf hm hal
    rw [List.append_nil] at hp
    subst hp
    have hin : ∀ x ∈ a, ∃ i k : Nat, i < p.length ∧ k ≤ 31 ∧ x = ((i : Int), (k : Int)) ∧ andI (p.getD i 0) 31 = (k : Int) := fun x hx => by
      obtain ⟨i, hi, e⟩ := (hm x).1 hx
      obtain ⟨k, hk, hk2⟩ := andI_le (p.getD i 0) 31 (by decide)
      have hk' : andI (p.getD i 0) 31 = (k : Int) := hk
      exact ⟨i, k, hi, hk2, by rw [e, hk'], hk'⟩
    have hv' : (v = .nil ∧ a = []) ∨ v = slN a := hv
    rcases hv with ⟨rfl, ha0⟩ | rfl
    all_goals
      try simp only [slN]
      conv => arg 3; simp only [mkT, putT, List.reduceReplicate, List.set]
      refine EVgl9 trivial trivial trivial trivial trivial trivial trivial trivial trivial trivial trivial trivial ?_
      refine EVgo9 (And.intro (f1) (hs')) trivial trivial trivial trivial trivial trivial trivial trivial trivial trivial trivial ?_
      refine WC.loop (T' := _) (H' := _) (n' := _) rfl ((?_ : ∀ (k t : Nat) (v : PV) (b : List Np) (c : Nat → Int), t + k = 40 → s ≤ t → (v = .nil ∧ b = []) ∨ v = slN b → b = a.filter (fun y => !doneB s t y) → (∀ j, c j = cntI (a.filter (doneB s t)) j) →
        WC cf _ (mkT 114 [(0, .sl p.length false (flat encI p)), (5, .bool true), (6, v), (10, .ptr 0 0), (11, .int .i64 (s : Nat)), (12, .int .i64 (t : Nat))]) [(0, .box (box8 c))] 0 1 _) (40 - s) s _ a (fun _ => 0) (by omega) (Nat.le_refl _) hv' (List.filter_eq_self.2 fun x _ => by unfold doneB; simp).symm (fun j => by
          rw [filter_nil' (p := doneB s s) fun x _ => by unfold doneB; simp]
          rfl))
      intro k
      induction k with
      | zero =>
        intro t v b c ht hst hv hb hc
        obtain rfl : t = 40 := by omega
        have hD : a.filter (doneB s 40) = a := List.filter_eq_self.2 fun x hx => by
          obtain ⟨i, k, hi, hk, rfl, _⟩ := hin x hx
          unfold doneB
          simp; omega
        have hb0 : b = [] := by
          rw [hb]
          refine filter_nil' fun x hx => ?_
          have := (List.filter_eq_self.1 hD) x hx
          rw [this]; rfl
        rw [hD] at hc
        have hc1 : ∀ i, i < p.length → c i = 1 := fun i hi => by
          rw [hc]
          exact if_pos (hasN_iff.2 ⟨_, (hm _).2 ⟨i, hi, rfl⟩, rfl⟩)
        have hn40 : ¬ (((40 : Nat) : Int) < 40) := by decide
        subst hb0
        rcases hv with ⟨rfl, _⟩ | rfl
        all_goals
          try simp only [slN, flat_nil, List.length]
          conv => arg 3; simp only [mkT, putT, List.reduceReplicate, List.set]
          refine EVgo9 (hn40) trivial trivial trivial trivial trivial trivial trivial trivial trivial trivial trivial ?_
          refine WC.loop (T' := _) (H' := _) (n' := _) rfl ((?_ : ∀ (r q : List Int), q ++ r = p →
            WC cf _ (mkT 114 [(0, .sl p.length false (flat encI p)), (5, .bool true), (6, _), (10, .ptr 0 0), (17, .int .i64 (q.length : Nat))]) [(0, .box (box8 c))] 0 1 _) p [] rfl)
          intro r
          induction r with
          | nil =>
            intro q hq
            rw [List.append_nil] at hq
            rw [hq]
            conv => arg 3; simp only [mkT, putT, List.reduceReplicate, List.set]
            refine EVgl9 trivial trivial trivial trivial trivial trivial trivial trivial trivial trivial trivial trivial ?_
            exact EVret trivial
          | cons z r ih =>
            intro q hq
            have hlen : p.length = q.length + (r.length + 1) := by rw [← hq]; simp
            have hlt : (q.length : Int) < (p.length : Int) := by omega
            have hw : IntKind.i64.wrap ((q.length : Int) + 1) = ((q.length + 1 : Nat) : Int) := by rw [i64_in _ (by omega)]; simp
            have hq8 : q.length < 8 := by omega
            have h1 : (c q.length != 1) = false := by rw [hc1 _ (by omega)]; rfl
            have hih := ih (q ++ [z]) (by rw [List.append_assoc]; exact hq)
            rw [snoc_lenI] at hih
            conv => arg 3; simp only [mkT, putT, List.reduceReplicate, List.set]
            refine EVgo9 (And.intro (hlt) ( And.intro (hw) (h1))) trivial trivial trivial trivial trivial trivial trivial trivial trivial (k_iaddrA hq8) (k_load8 (c := c) hq8) ?_
            exact WC.loop rfl hih
      | succ k ih =>
        intro t v b c ht hst hv hb hc
        have hfb : Fit b := by rw [hb]; exact hf.filter _
        have lb := hfb.len
        have h9 := s9 hcf b (t : Int) (by omega)
        rw [due_eq, saneL_id hfb] at h9
        have hba : ∀ x ∈ b, x ∈ a ∧ doneB s t x = false := fun x hx => by
          rw [hb] at hx
          have := List.mem_filter.1 hx
          exact ⟨this.1, by simpa using this.2⟩
        have hIb : ∀ x ∈ b.filter (fun y => decide (y.2 ≤ (t : Int))), x ∈ b ∧ x.2 ≤ (t : Int) := fun x hx => ⟨(List.mem_filter.1 hx).1, of_decide_eq_true (List.mem_filter.1 hx).2⟩
        have hIn := (hfb.filter (fun y => decide (y.2 ≤ (t : Int)))).nod
        have lI := (hfb.filter (fun y => decide (y.2 ≤ (t : Int)))).len
        have hR : b.filter (fun y => decide ((t : Int) < y.2)) = a.filter (fun y => !doneB s (t + 1) y) := by
          rw [hb, List.filter_filter]
          refine List.filter_congr fun x _ => ?_
          by_cases hx : (t : Int) < x.2
          · rw [decide_eq_true hx, done_no (by omega), done_no (by omega)]; rfl
          · rw [decide_eq_false hx, done_iff.2 (show s < t + 1 ∧ x.2 < ((t + 1 : Nat) : Int) by omega)]; rfl
        have hE : ∀ j : Nat, cntI (a.filter (doneB s t) ++ b.filter (fun y => decide (y.2 ≤ (t : Int)))) j = cntI (a.filter (doneB s (t + 1))) j := fun j => by
          unfold cntI
          have : hasN (a.filter (doneB s t) ++ b.filter (fun y => decide (y.2 ≤ (t : Int)))) j = hasN (a.filter (doneB s (t + 1))) j := by
            rw [Bool.eq_iff_iff, hasN_iff, hasN_iff]
            constructor
            · rintro ⟨y, hy, e⟩
              refine ⟨y, ?_, e⟩
              rcases List.mem_append.1 hy with hy | hy
              · have h := List.mem_filter.1 hy
                refine List.mem_filter.2 ⟨h.1, ?_⟩
                have h2 := h.2
                unfold doneB at h2 ⊢
                simp at h2 ⊢
                omega
              · have h := hIb y hy
                refine List.mem_filter.2 ⟨(hba y h.1).1, ?_⟩
                have h2 := h.2
                unfold doneB
                simp
                omega
            · rintro ⟨y, hy, e⟩
              refine ⟨y, ?_, e⟩
              have h := List.mem_filter.1 hy
              by_cases hd : doneB s t y = true
              · exact List.mem_append_left _ (List.mem_filter.2 ⟨h.1, hd⟩)
              · refine List.mem_append_right _ (List.mem_filter.2 ⟨?_, ?_⟩)
                · rw [hb]
                  exact List.mem_filter.2 ⟨h.1, by simpa using hd⟩
                · have h2 := h.2
                  unfold doneB at h2
                  simp at h2 ⊢
                  omega
          rw [this]
        have hne : ∀ x ∈ b.filter (fun y => decide (y.2 ≤ (t : Int))), hasN (a.filter (doneB s t)) x.1 = false := fun x hx => hasN_no.2 fun y hy e => by
          have h := List.mem_filter.1 hy
          have h2 := hba x (hIb x hx).1
          have := nod_inj hf.nod h.1 h2.1 e
          rw [this, h2.2] at h
          exact absurd h.2 (by simp)
        have hmx : ∀ x ∈ b.filter (fun y => decide (y.2 ≤ (t : Int))), ∀ w : Nat, x.2 = (w : Int) → t = max s w := fun x hx w hw => by
          have h1 := hIb x hx
          have h2 := (hba x h1.1).2
          unfold doneB at h2
          rw [hw] at h1 h2
          simp at h2
          omega
        have hina : ∀ x ∈ b.filter (fun y => decide (y.2 ≤ (t : Int))), _ := fun x hx => hin x (hba x (hIb x hx).1).1
        generalize hD : a.filter (doneB s t) = D at *
        generalize b.filter (fun y => decide (y.2 ≤ (t : Int))) = I at *
        generalize b.filter (fun y => decide ((t : Int) < y.2)) = R at *
        have hlt40 : ((t : Int) < 40) := by omega
        have hwt : IntKind.i64.wrap ((t : Int) + 1) = ((t + 1 : Nat) : Int) := by rw [i64_in _ (by omega)]; simp
        have hnext := fun (c' : Nat → Int) (h : ∀ j, c' j = cntI (D ++ I) j) => ih (t + 1) (slN R) R c' (by omega) (by omega) (.inr rfl) hR (fun j => (h j).trans (hE j))
        simp only [slN] at h9 hnext
        rcases hv with ⟨rfl, rfl⟩ | rfl
        all_goals
          try simp only [slN, flat_nil, List.length] at h9 ⊢
          conv => arg 3; simp only [mkT, putT, List.reduceReplicate, List.set]
          refine EVgo9 (hlt40) (h9) trivial trivial trivial trivial trivial trivial trivial trivial trivial trivial ?_
          refine WC.loop (T' := _) (H' := _) (n' := _) rfl ((?_ : ∀ (r q : List Np) (c' : Nat → Int), q ++ r = I → (∀ j, c' j = cntI (D ++ q) j) →
            WC cf _ (mkT 114 [(0, .sl p.length false (flat encI p)), (5, .bool true), (10, .ptr 0 0), (11, .int .i64 (s : Nat)), (12, .int .i64 (t : Nat)), (13, .sl R.length false (flat encN R)), (14, .sl I.length false (idsP I)), (15, .int .i64 (q.length : Nat))]) [(0, .box (box8 c'))] 0 1 _) I [] c rfl (fun j => by rw [List.append_nil]; exact hc j))
          intro r
          induction r with
          | nil =>
            intro q c' hq hc'
            rw [List.append_nil] at hq
            have hnx := hnext c' (by rw [← hq]; exact hc')
            rw [hq]
            conv => arg 3; simp only [mkT, putT, List.reduceReplicate, List.set]
            refine EVgl9 (hwt) trivial trivial trivial trivial trivial trivial trivial trivial trivial trivial trivial ?_
            exact WC.loop rfl hnx
          | cons x r ihr =>
            intro q c' hq hc'
            have hxI : x ∈ I := by rw [← hq]; simp
            obtain ⟨i, w, hi, hw31, hx, hwk⟩ := hina x hxI
            have hmw := hmx x hxI w (by rw [hx])
            have hD0 := hne x hxI
            have hq0 : hasN q x.1 = false := hasN_no.2 fun y hy e => by
              rw [← hq] at hIn
              exact (List.pairwise_append.1 hIn).2.2 y hy x List.mem_cons_self e
            have happ : hasN (D ++ q) x.1 = false := by unfold hasN at *; rw [List.any_append, hD0, hq0]; rfl
            subst hx
            have hlen : I.length = q.length + (r.length + 1) := by rw [← hq]; simp
            have hlt : (q.length : Int) < (I.length : Int) := by omega
            have hw : IntKind.i64.wrap ((q.length : Int) + 1) = ((q.length + 1 : Nat) : Int) := by rw [i64_in _ (by omega)]; simp
            have e0 := mid_ids hq
            have e1 := at_I (l := p) (i := i) hi
            have hi8 : i < 8 := by omega
            have hil : (i : Int) < (p.length : Int) := by omega
            have hc0 : c' i = 0 := by
              rw [hc']
              unfold cntI
              rw [if_neg (by rw [happ]; simp)]
            have hng : ¬ (c' i > 0) := by omega
            have hneg : ¬ ((i : Int) < 0) := by omega
            have hge : ¬ ((i : Int) ≥ (p.length : Int)) := by omega
            have hwc : IntKind.i64.wrap (c' i + 1) = 1 := by rw [hc0]; rfl
            have hmm : ((t : Int) != ((max s w : Nat) : Int)) = false := by rw [← hmw]; exact bne_self_eq_false _
            have hih := ihr (q ++ [((i : Int), (w : Int))]) (upd c' i 1) (by rw [List.append_assoc]; exact hq) (fun j => by
              unfold upd cntI
              have e : hasN (D ++ (q ++ [((i : Int), (w : Int))])) (j : Int) = (hasN (D ++ q) (j : Int) || ((j : Int) == (i : Int))) := by rw [← List.append_assoc, hasN_snoc]
              rw [e]
              by_cases hj : j = i
              · subst hj
                rw [if_pos rfl, beq_self_eq_true, Bool.or_true, if_pos rfl]
              · rw [if_neg hj, beq_eq_false_iff_ne.2 (by omega), Bool.or_false]
                exact hc' j)
            rw [snoc_len] at hih
            conv => arg 3; simp only [mkT, putT, List.reduceReplicate, List.set]
            refine EVgo9 (And.intro (hlt) ( And.intro (e0) ( And.intro (hneg) ( And.intro (hge) ( And.intro (hng) (f1)))))) trivial trivial trivial trivial trivial trivial trivial trivial trivial (k_iaddrA hi8) (k_load8 (c := c') hi8) ?_
            refine EVgo9 (And.intro (hlt) ( And.intro (e0) ( And.intro (e1) ( And.intro (hwk) ( And.intro (hmm) (f1)))))) trivial trivial trivial trivial trivial trivial trivial trivial trivial (k_iaddrA hi8) (k_load8 (c := c') hi8) ?_
            refine EVgo9 (hwc) trivial trivial trivial trivial trivial trivial trivial trivial trivial (k_iaddrA hi8) trivial ?_
            first | refine WO.step (k_store8 hi8 rfl rfl rfl) ?_ | refine WOc.step (k_store8 hi8 rfl rfl rfl) ?_
            conv => arg 2; simp only [setOpt, List.set, Nat.reduceLT, Int.reduceToNat, List.drop_drop, valT, List.getD_cons_zero, List.getD_cons_succ, Int.reduceLT, Int.reduceLE, Int.reduceAdd, Int.reduceSub, Int.reduceMul, Int.reduceNeg, Int.reduceEq, Int.reduceNe, Int.cast_ofNat_Int, Int.natCast_zero, Int.natCast_one, ge_iff_le, gt_iff_lt, decide_true, decide_false, Bool.not_true, Bool.not_false, Int.toNat_natCast, Nat.sub_zero, Nat.mul_one, Option.isSome_some, Option.isSome_none, Bool.false_eq_true, Bool.and_true, Bool.true_and, Bool.and_false, Bool.false_and, Nat.zero_add, Nat.zero_mul, List.drop_zero, reduceIte, setRange, PV.cells, fillB, List.take, List.drop, List.append_eq, List.cons_append, List.nil_append, List.length, List.map, List.zip, List.zipWith, List.replicate, List.flatten, Nat.reduceAdd, Nat.reduceMul, Nat.reduceSub, PV.mapId, mapIds, Option.map, Blk.mapId, sigN, sigS, hwc]
            try conv => arg 3; simp only [Nat.reduceLT, List.reduceReplicate, List.flatten_cons, List.flatten_nil, List.append_nil, Nat.reduceMul, Nat.mul_one, Nat.one_mul, Nat.zero_mul, Nat.zero_add, List.drop_zero, List.drop_succ_cons, List.drop_nil, List.take_succ_cons, List.take_zero, List.take_nil, List.drop_drop, setRange, PV.cells, valT, List.getD_cons_zero, List.getD_cons_succ, List.take, List.length, Nat.reduceAdd, List.nil_append, applyU, hset, hdel, Nat.reduceEqDiff, reduceIte, List.append_eq, List.cons_append, List.nil_append, frz, rowsOf, updsNew, updsAt, sigN, sigS, PV.mapId, mapIds, Option.map, Blk.mapId, List.drop, heapOf, hwc]
            conv => arg 5; simp only [stride, Nat.reduceAdd]
            refine EVgo9 (hw) trivial trivial trivial trivial trivial trivial trivial trivial trivial trivial trivial ?_
            exact WC.loop rfl hih
end
end Go.Proofs.YtppnijapeepbnaaR
