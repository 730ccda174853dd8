/- QueuePlays. -/
import Derived.Test.YtoihpjpgihhcjaaEvf16P2
open Go Go.Proofs.YtoihpjpgihhcjaaEv Go.Proofs.YtoihpjpgihhcjaaR Go.IntWalk Go.Proofs
set_option maxRecDepth 20000
set_option maxHeartbeats 16000000
set_option linter.unusedVariables false
set_option linter.unusedSimpArgs false
namespace Go.Proofs.YtoihpjpgihhcjaaR
def encI (x : Int) : List PV := [.int .i64 x]
def slI (l : List Int) : PV := .sl l.length false (flat encI l)
theorem mid_I {m p r : List Int} {x : Int} (h : p ++ x :: r = m) : (flat encI m).drop p.length = .int .i64 x :: flat encI r := by
  subst h
  have := flat_drop (enc := encI) (es := 1) (fun _ => rfl) (p ++ x :: r) p.length
  rw [Nat.mul_one] at this
  rw [this, List.drop_left]
  rfl
theorem snoc_lenI (p : List Int) (x : Int) : (p ++ [x]).length = p.length + 1 := by simp
def box8 (c : Nat → Bool) : List PV := [.bool (c 0), .bool (c 1), .bool (c 2), .bool (c 3), .bool (c 4), .bool (c 5), .bool (c 6), .bool (c 7)]
theorem lt8 {k : Nat} (h : k < 8) : k = 0 ∨ k = 1 ∨ k = 2 ∨ k = 3 ∨ k = 4 ∨ k = 5 ∨ k = 6 ∨ k = 7 := by omega
theorem k_iaddrA {cf : CF} {new : Nat} {T : List PV} {H : Heap} {es len id off k : Nat} {x i : X} (h : k < len) (hi : valT T i = .int .i64 (k : Nat)) (hx : valT T x = .ptr id off) : EK cf (.iaddrA es len x i) new T H (.ptr id (off + k * es)) [] := ⟨by
  simp only [evalK, hi, hx]
  rw [if_pos ⟨by omega, by omega⟩, Int.toNat_natCast]⟩
theorem k_load8 {cf : CF} {new : Nat} {T : List PV} {H : Heap} {id k : Nat} {a : X} {c : Nat → Bool} (h : k < 8) (ha : valT T a = .ptr id k) (hg : hget H id = some (.box (box8 c))) : EK cf (.load false 1 a) new T H (.bool (c k)) [] := ⟨by
  simp only [evalK, ha, hg]
  rcases lt8 h with rfl | rfl | rfl | rfl | rfl | rfl | rfl | rfl <;> rfl⟩
theorem k_store8 {cf : CF} {new : Nat} {T : List PV} {H : Heap} {id k : Nat} {a x : X} {c : Nat → Bool} {v : Bool} (h : k < 8) (ha : valT T a = .ptr id k) (hx : valT T x = .bool v) (hg : hget H id = some (.box (box8 c))) : EK cf (.store 1 a x) new T H .undef [(id, some (.box (box8 (updB c k v))))] := ⟨by
  simp only [evalK, ha, hx, hg]
  rcases lt8 h with rfl | rfl | rfl | rfl | rfl | rfl | rfl | rfl <;> rfl⟩
section
variable {cf : CF} (hcf : cf = ev env)
include hcf
theorem s7 (l : List Int) (hl0 : l.length ≤ 9223372036854775807) : Sp cf 7 [slI l] (.bool true) := by
  have h8 := s8 hcf
  have f1 : ∀ a b : Int, IntKind.i64.wrap ((BitVec.ofInt IntKind.i64.bits a &&& BitVec.ofInt IntKind.i64.bits b).toNat : Int) = andI a b := fun _ _ => rfl
  refine sp_of hcf env7 ?_
  by_cases hl : l.length ≤ 200
  rotate_left
  · have hl' : (l.length : Int) > 200 := by omega
    simp only [slI]
    conv => arg 2; simp only [ir7]
    conv => arg 3; simp only [ir7, Go.Proofs.YtoihpjpgihhcjaaEv.start, List.length, Nat.reduceAdd, Nat.reduceSub, List.reduceReplicate, List.append_eq, List.cons_append, List.nil_append]
    conv => arg 4; simp only [heapOf]
    try conv => arg 5; simp only [List.length, Nat.reduceAdd]
    try conv => arg 6; simp only [List.length, Nat.reduceAdd]
    refine EVgo9 (hl') (h8) trivial trivial trivial trivial trivial trivial trivial trivial trivial trivial ?_
    exact EVret trivial
  have hl' : ¬ (l.length : Int) > 200 := by omega
  simp only [slI]
  conv => arg 2; simp only [ir7]
  conv => arg 3; simp only [ir7, Go.Proofs.YtoihpjpgihhcjaaEv.start, List.length, Nat.reduceAdd, Nat.reduceSub, List.reduceReplicate, List.append_eq, List.cons_append, List.nil_append]
  conv => arg 4; simp only [heapOf]
  try conv => arg 5; simp only [List.length, Nat.reduceAdd]
  try conv => arg 6; simp only [List.length, Nat.reduceAdd]
  refine EVgo9 (hl') (h8) trivial trivial trivial trivial trivial trivial trivial trivial trivial trivial ?_
  refine WC.loop (T' := _) (H' := _) (n' := _) rfl ((?_ : ∀ (r p : List Int) (v : PV) (nx : Int) (a : List It) (c : Nat → Bool), p ++ r = l → (v = .nil ∧ a = []) ∨ v = slX a → Ply p.length nx a c →
    WC cf _ (mkT 128 [(0, .sl l.length false (flat encI l)), (3, .bool true), (4, .ptr 0 0), (5, .ptr 1 0), (6, .int .i64 (p.length : Nat))]) [(0, .box [.int .i64 nx, v]), (1, .box (box8 c))] 0 2 _) l [] .nil 0 [] (fun _ => false) rfl (.inl ⟨rfl, rfl⟩) ⟨fit0, fun j => rfl, by decide⟩)
  intro r
  induction r with
  | nil =>
    intro p v nx a c hp hv hq
    rw [List.append_nil] at hp
    subst hp
    rcases hv with ⟨rfl, _⟩ | rfl
    all_goals
      try simp only [slX]
      conv => arg 3; simp only [mkT, putT, List.reduceReplicate, List.set]
      refine EVgl9 trivial trivial trivial trivial trivial trivial trivial trivial trivial trivial trivial trivial ?_
      exact EVret trivial
  | cons z r ih =>
    intro p v nx a c hp hv hq
    have hlen : l.length = p.length + (r.length + 1) := by rw [← hp]; simp
    have hlt : (p.length : Int) < (l.length : Int) := by omega
    have hw : IntKind.i64.wrap ((p.length : Int) + 1) = ((p.length + 1 : Nat) : Int) := by rw [i64_in _ (by omega)]; simp
    have eZ := mid_I hp
    obtain ⟨k, hk0, hk⟩ := andI_le z 7 (by decide)
    have hk' : andI z 7 = (k : Int) := hk0
    obtain ⟨pr, hpr0, hpr⟩ := andI_le (z.fdiv (2 ^ min 3 IntKind.i64.bits)) 3 (by decide)
    have hpr' : andI (z.fdiv (2 ^ min 3 IntKind.i64.bits)) 3 = (pr : Int) := hpr0
    obtain ⟨sw, hsw0, hsw⟩ := andI_le (z.fdiv (2 ^ min 5 IntKind.i64.bits)) 3 (by decide)
    have hsw' : andI (z.fdiv (2 ^ min 5 IntKind.i64.bits)) 3 = (sw : Int) := hsw0
    have hk8 : k < 8 := by omega
    have ha9 : a.length ≤ 9223372036854775807 := by have := hq.fit.len; omega
    have h11 := s11 hcf (nx, a) ha9
    have h15 := s15 hcf (nx, a) (k : Int) ha9
    have h13 := s13 hcf (nx, a) (k : Int) (pr : Int) ha9
    have hih := fun (nx1 : Int) (a1 : List It) (c1 : Nat → Bool) (h : Ply (p.length + 1) nx1 a1 c1) => ih (p ++ [z]) (slX a1) nx1 a1 c1 (by rw [List.append_assoc]; exact hp) (.inr rfl) (by rw [snoc_lenI]; exact h)
    rw [snoc_lenI] at hih
    have hv' : v = .nil ∧ slX a = .sl 0 false [] ∨ v = slX a := by
      rcases hv with ⟨h1, h2⟩ | h
      · exact .inl ⟨h1, by rw [h2]; rfl⟩
      · exact .inr h
    have tk := hq.take
    obtain ⟨ad, hd1, hd2⟩ := hq.drop (k := k)
    obtain ⟨nxp, ap, bp, hp1, hp2, hp3⟩ := hq.put hk hpr (by omega)
    have g14 := fun (nx1 : Int) (a1 : List It) (c1 : Nat → Bool) (h : Ply (p.length + 1) nx1 a1 c1) => by
      have := s14 hcf (nx1, a1) (by simp only; have := h.fit.len; omega)
      rw [saneQ_id (q := (nx1, a1)) h.fit] at this
      exact this
    have g9 := fun (nx1 : Int) (a1 : List It) (c1 : Nat → Bool) (h : Ply (p.length + 1) nx1 a1 c1) => by
      have := s9 hcf (nx1, a1) (by simp only; have := h.fit.len; omega)
      rw [sane_iff.2 h.fit] at this
      exact this
    rw [hd1] at h15
    rw [hp1] at h13
    have q1 : (c k == c k) = true := beq_self_eq_true _
    have q0 : ∀ n : Nat, ((n : Int) != (n : Int)) = false := fun n => bne_self_eq_false _
    by_cases e0 : sw = 0
    · have c0 : ((sw : Int) == 0) = true := by rw [e0]; rfl
      rcases tk with ⟨a0, t1, t2⟩ | ⟨m, kx, t1, t2, t3, t4⟩
      · rw [t1] at h11
        simp only [encN, encQ, slX] at *
        rcases hv' with ⟨rfl, hV⟩ | rfl
        all_goals
          try rw [hV] at h11
          conv => arg 3; simp only [mkT, putT, List.reduceReplicate, List.set]
          refine EVgo9 (And.intro (hlt) ( And.intro (eZ) ( And.intro (f1) ( And.intro (hk') ( And.intro (hpr') ( And.intro (hsw') (c0))))))) (h11) trivial trivial trivial trivial trivial trivial trivial trivial trivial trivial ?_
          have hcn := Ply.cnt t2
          have hN := hih _ _ _ t2
          have h14 := g14 _ _ _ t2
          have h9 := g9 _ _ _ t2
          refine EVgo9 (And.intro (hlt) ( And.intro (eZ) ( And.intro (f1) ( And.intro (hk') ( And.intro (hpr') ( And.intro (hsw') (c0))))))) (h14) trivial trivial trivial trivial trivial trivial trivial trivial trivial trivial ?_
          refine WC.loop (T' := _) (H' := _) (n' := _) rfl ((?_ : ∀ (u t : Nat), t + u = 8 →
            WC cf _ (mkT 128 [(0, .sl l.length false (flat encI l)), (3, .bool true), (4, .ptr 0 0), (5, .ptr 1 0), (6, .int .i64 (p.length : Nat)), (16, .sl a0.length false (idsP a0)), (17, .int .i64 (cntC c t : Nat)), (18, .int .i64 (t : Nat))]) [(0, .box [.int .i64 nx, .sl a0.length false (flat encX a0)]), (1, .box (box8 c))] 0 2 _) 8 0 rfl)
          intro u
          induction u with
          | zero =>
            intro t ht
            rw [Nat.add_zero] at ht
            subst ht
            have hn8 : ¬ (((8 : Nat) : Int) < 8) := by decide
            rw [hcn]
            have qa := q0 a0.length
            conv => arg 3; simp only [mkT, putT, List.reduceReplicate, List.set]
            refine EVgo9 (And.intro (hn8) ( And.intro (qa) (hw))) (h9) trivial trivial trivial trivial trivial trivial trivial trivial trivial trivial ?_
            exact WC.loop rfl hN
          | succ u ih2 =>
            intro t ht
            have ht8 : t < 8 := by omega
            have htl : (t : Int) < 8 := by omega
            have hwt : IntKind.i64.wrap ((t : Int) + 1) = ((t + 1 : Nat) : Int) := by rw [i64_in _ (by omega)]; simp
            have hcl : cntC c t ≤ 8 := Nat.le_trans (Nat.le_of_eq (cntC_len _ _)) (Nat.le_trans (List.length_filter_le _ _) (by rw [List.length_range]; omega))
            have hwc : IntKind.i64.wrap ((cntC c t : Int) + 1) = ((cntC c t + 1 : Nat) : Int) := by rw [i64_in _ (by omega)]; simp
            have h2 := ih2 (t + 1) (by omega)
            cases hb : c t with
            | true =>
              rw [show cntC c (t + 1) = cntC c t + 1 by show cntC c t + (if c t = true then 1 else 0) = _; rw [hb, if_pos rfl]] at h2
              conv => arg 3; simp only [mkT, putT, List.reduceReplicate, List.set]
              refine EVgo9 (And.intro (htl) ( And.intro (hwt) ( And.intro (hb) (hwc)))) trivial trivial trivial trivial trivial trivial trivial trivial trivial (k_iaddrA ht8) (k_load8 (c := c) ht8) ?_
              exact WC.loop rfl h2
            | false =>
              rw [show cntC c (t + 1) = cntC c t by show cntC c t + (if c t = true then 1 else 0) = _; rw [hb, if_neg (by simp)]; rfl] at h2
              conv => arg 3; simp only [mkT, putT, List.reduceReplicate, List.set]
              refine EVgo9 (And.intro (htl) ( And.intro (hwt) (hb))) trivial trivial trivial trivial trivial trivial trivial trivial trivial (k_iaddrA ht8) (k_load8 (c := c) ht8) ?_
              exact WC.loop rfl h2
      · rw [t1] at h11
        have t5 : ¬ ((kx : Int) < 0) := by omega
        have t6 : ¬ ((kx : Int) > 7) := by omega
        simp only [encN, encQ, slX] at *
        rcases hv' with ⟨rfl, hV⟩ | rfl
        all_goals
          try rw [hV] at h11
          conv => arg 3; simp only [mkT, putT, List.reduceReplicate, List.set]
          refine EVgo9 (And.intro (hlt) ( And.intro (eZ) ( And.intro (f1) ( And.intro (hk') ( And.intro (hpr') ( And.intro (hsw') ( And.intro (c0) ( And.intro (t5) ( And.intro (t6) (t3)))))))))) (h11) trivial trivial trivial trivial trivial trivial trivial trivial (k_iaddrA t2) (k_load8 (c := c) t2) ?_
          refine EVgo9 (And.intro (hlt) ( And.intro (eZ) ( And.intro (f1) ( And.intro (hk') ( And.intro (hpr') ( And.intro (hsw') ( And.intro (c0) ( And.intro (t5) ( And.intro (t6) (t3)))))))))) trivial trivial trivial trivial trivial trivial trivial trivial trivial (k_iaddrA t2) (k_store8 (c := c) t2) ?_
          have hcn := Ply.cnt t4
          have hN := hih _ _ _ t4
          have h14 := g14 _ _ _ t4
          have h9 := g9 _ _ _ t4
          generalize (updB c kx false) = cc at *
          refine EVgo9 (And.intro (hlt) ( And.intro (eZ) ( And.intro (f1) ( And.intro (hk') ( And.intro (hpr') ( And.intro (hsw') ( And.intro (c0) ( And.intro (t5) ( And.intro (t6) (t3)))))))))) (h14) trivial trivial trivial trivial trivial trivial trivial trivial trivial trivial ?_
          refine WC.loop (T' := _) (H' := _) (n' := _) rfl ((?_ : ∀ (u t : Nat), t + u = 8 →
            WC cf _ (mkT 128 [(0, .sl l.length false (flat encI l)), (3, .bool true), (4, .ptr 0 0), (5, .ptr 1 0), (6, .int .i64 (p.length : Nat)), (16, .sl m.length false (idsP m)), (17, .int .i64 (cntC cc t : Nat)), (18, .int .i64 (t : Nat))]) [(0, .box [.int .i64 nx, .sl m.length false (flat encX m)]), (1, .box (box8 cc))] 0 2 _) 8 0 rfl)
          intro u
          induction u with
          | zero =>
            intro t ht
            rw [Nat.add_zero] at ht
            subst ht
            have hn8 : ¬ (((8 : Nat) : Int) < 8) := by decide
            rw [hcn]
            have qa := q0 m.length
            conv => arg 3; simp only [mkT, putT, List.reduceReplicate, List.set]
            refine EVgo9 (And.intro (hn8) ( And.intro (qa) (hw))) (h9) trivial trivial trivial trivial trivial trivial trivial trivial trivial trivial ?_
            exact WC.loop rfl hN
          | succ u ih2 =>
            intro t ht
            have ht8 : t < 8 := by omega
            have htl : (t : Int) < 8 := by omega
            have hwt : IntKind.i64.wrap ((t : Int) + 1) = ((t + 1 : Nat) : Int) := by rw [i64_in _ (by omega)]; simp
            have hcl : cntC cc t ≤ 8 := Nat.le_trans (Nat.le_of_eq (cntC_len _ _)) (Nat.le_trans (List.length_filter_le _ _) (by rw [List.length_range]; omega))
            have hwc : IntKind.i64.wrap ((cntC cc t : Int) + 1) = ((cntC cc t + 1 : Nat) : Int) := by rw [i64_in _ (by omega)]; simp
            have h2 := ih2 (t + 1) (by omega)
            cases hb : cc t with
            | true =>
              rw [show cntC cc (t + 1) = cntC cc t + 1 by show cntC cc t + (if cc t = true then 1 else 0) = _; rw [hb, if_pos rfl]] at h2
              conv => arg 3; simp only [mkT, putT, List.reduceReplicate, List.set]
              refine EVgo9 (And.intro (htl) ( And.intro (hwt) ( And.intro (hb) (hwc)))) trivial trivial trivial trivial trivial trivial trivial trivial trivial (k_iaddrA ht8) (k_load8 (c := cc) ht8) ?_
              exact WC.loop rfl h2
            | false =>
              rw [show cntC cc (t + 1) = cntC cc t by show cntC cc t + (if cc t = true then 1 else 0) = _; rw [hb, if_neg (by simp)]; rfl] at h2
              conv => arg 3; simp only [mkT, putT, List.reduceReplicate, List.set]
              refine EVgo9 (And.intro (htl) ( And.intro (hwt) (hb))) trivial trivial trivial trivial trivial trivial trivial trivial trivial (k_iaddrA ht8) (k_load8 (c := cc) ht8) ?_
              exact WC.loop rfl h2
    · have c0 : ((sw : Int) == 0) = false := beq_eq_false_iff_ne.2 (by omega)
      by_cases e1 : sw = 1
      · have c1 : ((sw : Int) == 1) = true := by rw [e1]; rfl
        simp only [encB, encQ, slX] at *
        rcases hv' with ⟨rfl, hV⟩ | rfl
        all_goals
          try rw [hV] at h15
          conv => arg 3; simp only [mkT, putT, List.reduceReplicate, List.set]
          refine EVgo9 (And.intro (hlt) ( And.intro (eZ) ( And.intro (f1) ( And.intro (hk') ( And.intro (hpr') ( And.intro (hsw') ( And.intro (c0) ( And.intro (c1) (q1))))))))) (h15) trivial trivial trivial trivial trivial trivial trivial trivial (k_iaddrA hk8) (k_load8 (c := c) hk8) ?_
          refine EVgo9 (And.intro (hlt) ( And.intro (eZ) ( And.intro (f1) ( And.intro (hk') ( And.intro (hpr') ( And.intro (hsw') ( And.intro (c0) ( And.intro (c1) (q1))))))))) trivial trivial trivial trivial trivial trivial trivial trivial trivial (k_iaddrA hk8) (k_store8 (c := c) hk8) ?_
          have hcn := Ply.cnt hd2
          have hN := hih _ _ _ hd2
          have h14 := g14 _ _ _ hd2
          have h9 := g9 _ _ _ hd2
          generalize (updB c k false) = cc at *
          refine EVgo9 (And.intro (hlt) ( And.intro (eZ) ( And.intro (f1) ( And.intro (hk') ( And.intro (hpr') ( And.intro (hsw') ( And.intro (c0) ( And.intro (c1) (q1))))))))) (h14) trivial trivial trivial trivial trivial trivial trivial trivial trivial trivial ?_
          refine WC.loop (T' := _) (H' := _) (n' := _) rfl ((?_ : ∀ (u t : Nat), t + u = 8 →
            WC cf _ (mkT 128 [(0, .sl l.length false (flat encI l)), (3, .bool true), (4, .ptr 0 0), (5, .ptr 1 0), (6, .int .i64 (p.length : Nat)), (16, .sl ad.length false (idsP ad)), (17, .int .i64 (cntC cc t : Nat)), (18, .int .i64 (t : Nat))]) [(0, .box [.int .i64 nx, .sl ad.length false (flat encX ad)]), (1, .box (box8 cc))] 0 2 _) 8 0 rfl)
          intro u
          induction u with
          | zero =>
            intro t ht
            rw [Nat.add_zero] at ht
            subst ht
            have hn8 : ¬ (((8 : Nat) : Int) < 8) := by decide
            rw [hcn]
            have qa := q0 ad.length
            conv => arg 3; simp only [mkT, putT, List.reduceReplicate, List.set]
            refine EVgo9 (And.intro (hn8) ( And.intro (qa) (hw))) (h9) trivial trivial trivial trivial trivial trivial trivial trivial trivial trivial ?_
            exact WC.loop rfl hN
          | succ u ih2 =>
            intro t ht
            have ht8 : t < 8 := by omega
            have htl : (t : Int) < 8 := by omega
            have hwt : IntKind.i64.wrap ((t : Int) + 1) = ((t + 1 : Nat) : Int) := by rw [i64_in _ (by omega)]; simp
            have hcl : cntC cc t ≤ 8 := Nat.le_trans (Nat.le_of_eq (cntC_len _ _)) (Nat.le_trans (List.length_filter_le _ _) (by rw [List.length_range]; omega))
            have hwc : IntKind.i64.wrap ((cntC cc t : Int) + 1) = ((cntC cc t + 1 : Nat) : Int) := by rw [i64_in _ (by omega)]; simp
            have h2 := ih2 (t + 1) (by omega)
            cases hb : cc t with
            | true =>
              rw [show cntC cc (t + 1) = cntC cc t + 1 by show cntC cc t + (if cc t = true then 1 else 0) = _; rw [hb, if_pos rfl]] at h2
              conv => arg 3; simp only [mkT, putT, List.reduceReplicate, List.set]
              refine EVgo9 (And.intro (htl) ( And.intro (hwt) ( And.intro (hb) (hwc)))) trivial trivial trivial trivial trivial trivial trivial trivial trivial (k_iaddrA ht8) (k_load8 (c := cc) ht8) ?_
              exact WC.loop rfl h2
            | false =>
              rw [show cntC cc (t + 1) = cntC cc t by show cntC cc t + (if cc t = true then 1 else 0) = _; rw [hb, if_neg (by simp)]; rfl] at h2
              conv => arg 3; simp only [mkT, putT, List.reduceReplicate, List.set]
              refine EVgo9 (And.intro (htl) ( And.intro (hwt) (hb))) trivial trivial trivial trivial trivial trivial trivial trivial trivial (k_iaddrA ht8) (k_load8 (c := cc) ht8) ?_
              exact WC.loop rfl h2
      · have c1 : ((sw : Int) == 1) = false := beq_eq_false_iff_ne.2 (by omega)
        simp only [encB, encQ, slX] at *
        rcases hv' with ⟨rfl, hV⟩ | rfl
        all_goals
          try rw [hV] at h13
          conv => arg 3; simp only [mkT, putT, List.reduceReplicate, List.set]
          refine EVgo9 (And.intro (hlt) ( And.intro (eZ) ( And.intro (f1) ( And.intro (hk') ( And.intro (hpr') ( And.intro (hsw') ( And.intro (c0) ( And.intro (c1) (hp2))))))))) (h13) trivial trivial trivial trivial trivial trivial trivial trivial (k_iaddrA hk8) (k_load8 (c := c) hk8) ?_
          refine EVgo9 (And.intro (hlt) ( And.intro (eZ) ( And.intro (f1) ( And.intro (hk') ( And.intro (hpr') ( And.intro (hsw') ( And.intro (c0) ( And.intro (c1) (hp2))))))))) trivial trivial trivial trivial trivial trivial trivial trivial trivial (k_iaddrA hk8) (k_store8 (c := c) hk8) ?_
          have hcn := Ply.cnt hp3
          have hN := hih _ _ _ hp3
          have h14 := g14 _ _ _ hp3
          have h9 := g9 _ _ _ hp3
          generalize (updB c k true) = cc at *
          refine EVgo9 (And.intro (hlt) ( And.intro (eZ) ( And.intro (f1) ( And.intro (hk') ( And.intro (hpr') ( And.intro (hsw') ( And.intro (c0) ( And.intro (c1) (hp2))))))))) (h14) trivial trivial trivial trivial trivial trivial trivial trivial trivial trivial ?_
          refine WC.loop (T' := _) (H' := _) (n' := _) rfl ((?_ : ∀ (u t : Nat), t + u = 8 →
            WC cf _ (mkT 128 [(0, .sl l.length false (flat encI l)), (3, .bool true), (4, .ptr 0 0), (5, .ptr 1 0), (6, .int .i64 (p.length : Nat)), (16, .sl ap.length false (idsP ap)), (17, .int .i64 (cntC cc t : Nat)), (18, .int .i64 (t : Nat))]) [(0, .box [.int .i64 nxp, .sl ap.length false (flat encX ap)]), (1, .box (box8 cc))] 0 2 _) 8 0 rfl)
          intro u
          induction u with
          | zero =>
            intro t ht
            rw [Nat.add_zero] at ht
            subst ht
            have hn8 : ¬ (((8 : Nat) : Int) < 8) := by decide
            rw [hcn]
            have qa := q0 ap.length
            conv => arg 3; simp only [mkT, putT, List.reduceReplicate, List.set]
            refine EVgo9 (And.intro (hn8) ( And.intro (qa) (hw))) (h9) trivial trivial trivial trivial trivial trivial trivial trivial trivial trivial ?_
            exact WC.loop rfl hN
          | succ u ih2 =>
            intro t ht
            have ht8 : t < 8 := by omega
            have htl : (t : Int) < 8 := by omega
            have hwt : IntKind.i64.wrap ((t : Int) + 1) = ((t + 1 : Nat) : Int) := by rw [i64_in _ (by omega)]; simp
            have hcl : cntC cc t ≤ 8 := Nat.le_trans (Nat.le_of_eq (cntC_len _ _)) (Nat.le_trans (List.length_filter_le _ _) (by rw [List.length_range]; omega))
            have hwc : IntKind.i64.wrap ((cntC cc t : Int) + 1) = ((cntC cc t + 1 : Nat) : Int) := by rw [i64_in _ (by omega)]; simp
            have h2 := ih2 (t + 1) (by omega)
            cases hb : cc t with
            | true =>
              rw [show cntC cc (t + 1) = cntC cc t + 1 by show cntC cc t + (if cc t = true then 1 else 0) = _; rw [hb, if_pos rfl]] at h2
              conv => arg 3; simp only [mkT, putT, List.reduceReplicate, List.set]
              refine EVgo9 (And.intro (htl) ( And.intro (hwt) ( And.intro (hb) (hwc)))) trivial trivial trivial trivial trivial trivial trivial trivial trivial (k_iaddrA ht8) (k_load8 (c := cc) ht8) ?_
              exact WC.loop rfl h2
            | false =>
              rw [show cntC cc (t + 1) = cntC cc t by show cntC cc t + (if cc t = true then 1 else 0) = _; rw [hb, if_neg (by simp)]; rfl] at h2
              conv => arg 3; simp only [mkT, putT, List.reduceReplicate, List.set]
              refine EVgo9 (And.intro (htl) ( And.intro (hwt) (hb))) trivial trivial trivial trivial trivial trivial trivial trivial trivial (k_iaddrA ht8) (k_load8 (c := cc) ht8) ?_
              exact WC.loop rfl h2
end
end Go.Proofs.YtoihpjpgihhcjaaR
