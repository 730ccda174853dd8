/- Evf17F3: a part of the proof. -/
import Derived.Test.YtppnijapeepbnaaEvf17F2
open Go Go.Proofs.YtppnijapeepbnaaEv Go.Proofs.YtppnijapeepbnaaR Go.IntWalk Go.Proofs
set_option maxRecDepth 20000
set_option maxHeartbeats 8000000
set_option linter.unusedVariables false
set_option linter.unusedSimpArgs false
namespace Go.Proofs.YtppnijapeepbnaaR
theorem k_eqS2 {cf : CF} {new : Nat} {T : List PV} {H : Heap} {x y : X} {a b : Int} (hx : valT T x = .agg [.int .i64 a, .int .i64 b]) (hy : valT T y = .agg [.int .i64 a, .int .i64 b]) : EK cf (.eqS true [0, 0] x y) new T H (.bool false) [] := ⟨by
  simp only [evalK, hx, hy, List.map_cons, List.map_nil, kindOf, if_true, cellsEq, cellEq, beq_self_eq_true, Bool.and_self, Bool.not_true]⟩
theorem mid_ids {m p r : List Np} {x y : Int} (h : p ++ (x, y) :: r = m) : (idsP m).drop p.length = .int .i64 x :: idsP r := by
  subst h
  unfold idsP
  rw [List.map_append, List.drop_left' (by simp)]
  rfl
def nextN (l : List Np) : PV := match l with
  | [] => .tup [.int .i64 0, .bool false]
  | x :: _ => .tup [.int .i64 x.2, .bool true]
section
variable {cf : CF} (hcf : cf = ev env)
include hcf
theorem s11 (l : List Np) (hl : l.length ≤ 1000000) : Sp cf 11 [slN l] (slN l) := by
  refine sp_of hcf env11 ?_
  simp only [slN]
  conv => arg 2; simp only [ir11]
  conv => arg 3; simp only [ir11, Go.Proofs.YtppnijapeepbnaaEv.start, List.length, Nat.reduceAdd, Nat.reduceSub, List.reduceReplicate, List.append_eq, List.cons_append, List.nil_append]
  conv => arg 4; simp only [heapOf]
  try conv => arg 5; simp only [List.length, Nat.reduceAdd]
  try conv => arg 6; simp only [List.length, Nat.reduceAdd]
  refine EVgo9 trivial trivial trivial trivial trivial trivial trivial trivial trivial trivial trivial trivial ?_
  refine WC.loop (T' := _) (H' := _) (n' := _) rfl ((?_ : ∀ (r p : List Np), p ++ r = l →
    WC cf _ (mkT 26 [(0, .sl l.length false (flat encN l)), (3, .own 0 2 0 p.length), (4, .int .i64 (p.length : Nat))]) [(0, .row (flat encN p))] 0 1 _) l [] rfl)
  intro r
  induction r with
  | nil =>
    intro p hp
    rw [List.append_nil] at hp
    subst hp
    conv => arg 3; simp only [mkT, putT, List.reduceReplicate, List.set]
    refine EVgl9 trivial trivial trivial trivial trivial trivial trivial trivial trivial trivial trivial trivial ?_
    exact EVret (allN)
  | cons x r ih =>
    intro p hp
    obtain ⟨x, y⟩ := x
    have hlen : l.length = p.length + (r.length + 1) := by rw [← hp]; simp
    have hlt : (p.length : Int) < (l.length : Int) := by omega
    have hw : IntKind.i64.wrap ((p.length : Int) + 1) = ((p.length + 1 : Nat) : Int) := by rw [i64_in _ (by omega)]; simp
    have e0 := mid_N hp
    have hih := ih (p ++ [(x, y)]) (by rw [List.append_assoc]; exact hp)
    rw [snoc_len] at hih
    conv => arg 3; simp only [mkT, putT, List.reduceReplicate, List.set]
    refine EVgo9 (And.intro (hlt) ( And.intro (hw) ( And.intro (e0) ( And.intro (lenN) ( And.intro (allN) (snocN)))))) trivial trivial trivial trivial trivial trivial trivial trivial trivial trivial trivial ?_
    exact WC.loop rfl hih
theorem s13 (l : List Np) (hl : l.length ≤ 1000000) : Sp cf 13 [slN l] (slN l) := by
  refine sp_of hcf env13 ?_
  simp only [slN]
  conv => arg 2; simp only [ir13]
  conv => arg 3; simp only [ir13, Go.Proofs.YtppnijapeepbnaaEv.start, List.length, Nat.reduceAdd, Nat.reduceSub, List.reduceReplicate, List.append_eq, List.cons_append, List.nil_append]
  conv => arg 4; simp only [heapOf]
  try conv => arg 5; simp only [List.length, Nat.reduceAdd]
  try conv => arg 6; simp only [List.length, Nat.reduceAdd]
  refine EVgo9 trivial trivial trivial trivial trivial trivial trivial trivial trivial trivial trivial trivial ?_
  refine WC.loop (T' := _) (H' := _) (n' := _) rfl ((?_ : ∀ (r p : List Np), p ++ r = l →
    WC cf _ (mkT 26 [(0, .sl l.length false (flat encN l)), (3, .own 0 2 0 p.length), (4, .int .i64 (p.length : Nat))]) [(0, .row (flat encN p))] 0 1 _) l [] rfl)
  intro r
  induction r with
  | nil =>
    intro p hp
    rw [List.append_nil] at hp
    subst hp
    conv => arg 3; simp only [mkT, putT, List.reduceReplicate, List.set]
    refine EVgl9 trivial trivial trivial trivial trivial trivial trivial trivial trivial trivial trivial trivial ?_
    exact EVret (allN)
  | cons x r ih =>
    intro p hp
    obtain ⟨x, y⟩ := x
    have hlen : l.length = p.length + (r.length + 1) := by rw [← hp]; simp
    have hlt : (p.length : Int) < (l.length : Int) := by omega
    have hw : IntKind.i64.wrap ((p.length : Int) + 1) = ((p.length + 1 : Nat) : Int) := by rw [i64_in _ (by omega)]; simp
    have e0 := mid_N hp
    have hih := ih (p ++ [(x, y)]) (by rw [List.append_assoc]; exact hp)
    rw [snoc_len] at hih
    conv => arg 3; simp only [mkT, putT, List.reduceReplicate, List.set]
    refine EVgo9 (And.intro (hlt) ( And.intro (hw) ( And.intro (e0) ( And.intro (lenN) ( And.intro (allN) (snocN)))))) trivial trivial trivial trivial trivial trivial trivial trivial trivial trivial trivial ?_
    exact WC.loop rfl hih
theorem s12 (l : List Np) (hl : l.length ≤ 1000000) : Sp cf 12 [slN l, slN l] (.bool true) := by
  refine sp_of hcf env12 ?_
  try simp only [slN]
  have hne : ((l.length : Int) != (l.length : Int)) = false := bne_self_eq_false _
  conv => arg 2; simp only [ir12]
  conv => arg 3; simp only [ir12, Go.Proofs.YtppnijapeepbnaaEv.start, List.length, Nat.reduceAdd, Nat.reduceSub, List.reduceReplicate, List.append_eq, List.cons_append, List.nil_append]
  conv => arg 4; simp only [heapOf]
  try conv => arg 5; simp only [List.length, Nat.reduceAdd]
  try conv => arg 6; simp only [List.length, Nat.reduceAdd]
  refine EVgo9 (hne) trivial trivial trivial trivial trivial trivial trivial trivial trivial trivial trivial ?_
  refine WC.loop (T' := _) (H' := _) (n' := _) rfl ((?_ : ∀ (r p : List Np), p ++ r = l →
    WC cf _ (mkT 26 [(0, .sl l.length false (flat encN l)), (1, .sl l.length false (flat encN l)), (5, .int .i64 (p.length : Nat))]) [] 0 0 _) l [] rfl)
  intro r
  induction r with
  | nil =>
    intro p hp
    rw [List.append_nil] at hp
    subst hp
    conv => arg 3; simp only [mkT, putT, List.reduceReplicate, List.set]
    refine EVgl9 trivial trivial trivial trivial trivial trivial trivial trivial trivial trivial trivial trivial ?_
    exact EVret trivial
  | cons x r ih =>
    intro p hp
    obtain ⟨x, y⟩ := x
    have hlen : l.length = p.length + (r.length + 1) := by rw [← hp]; simp
    have hlt : (p.length : Int) < (l.length : Int) := by omega
    have hw : IntKind.i64.wrap ((p.length : Int) + 1) = ((p.length + 1 : Nat) : Int) := by rw [i64_in _ (by omega)]; simp
    have e0 := mid_N hp
    have hx : (x != x) = false := bne_self_eq_false _
    have hih := ih (p ++ [(x, y)]) (by rw [List.append_assoc]; exact hp)
    rw [snoc_len] at hih
    conv => arg 3; simp only [mkT, putT, List.reduceReplicate, List.set]
    refine EVgo9 (And.intro (hlt) ( And.intro (hw) ( And.intro (e0) (hx)))) trivial trivial trivial trivial trivial trivial trivial trivial trivial (@k_eqS2 cf) trivial ?_
    exact WC.loop rfl hih
theorem s20 (l : List Np) (hl : l.length ≤ 1000000) : Sp cf 20 [.sl l.length false (idsP l), .sl l.length false (idsP l)] (.bool true) := by
  refine sp_of hcf env20 ?_
  try simp only [slN]
  have hne : ((l.length : Int) != (l.length : Int)) = false := bne_self_eq_false _
  conv => arg 2; simp only [ir20]
  conv => arg 3; simp only [ir20, Go.Proofs.YtppnijapeepbnaaEv.start, List.length, Nat.reduceAdd, Nat.reduceSub, List.reduceReplicate, List.append_eq, List.cons_append, List.nil_append]
  conv => arg 4; simp only [heapOf]
  try conv => arg 5; simp only [List.length, Nat.reduceAdd]
  try conv => arg 6; simp only [List.length, Nat.reduceAdd]
  refine EVgo9 (hne) trivial trivial trivial trivial trivial trivial trivial trivial trivial trivial trivial ?_
  refine WC.loop (T' := _) (H' := _) (n' := _) rfl ((?_ : ∀ (r p : List Np), p ++ r = l →
    WC cf _ (mkT 26 [(0, .sl l.length false (idsP l)), (1, .sl l.length false (idsP l)), (5, .int .i64 (p.length : Nat))]) [] 0 0 _) l [] rfl)
  intro r
  induction r with
  | nil =>
    intro p hp
    rw [List.append_nil] at hp
    subst hp
    conv => arg 3; simp only [mkT, putT, List.reduceReplicate, List.set]
    refine EVgl9 trivial trivial trivial trivial trivial trivial trivial trivial trivial trivial trivial trivial ?_
    exact EVret trivial
  | cons x r ih =>
    intro p hp
    obtain ⟨x, y⟩ := x
    have hlen : l.length = p.length + (r.length + 1) := by rw [← hp]; simp
    have hlt : (p.length : Int) < (l.length : Int) := by omega
    have hw : IntKind.i64.wrap ((p.length : Int) + 1) = ((p.length + 1 : Nat) : Int) := by rw [i64_in _ (by omega)]; simp
    have e0 := mid_ids hp
    have hx : (x != x) = false := bne_self_eq_false _
    have hih := ih (p ++ [(x, y)]) (by rw [List.append_assoc]; exact hp)
    rw [snoc_len] at hih
    conv => arg 3; simp only [mkT, putT, List.reduceReplicate, List.set]
    refine EVgo9 (And.intro (hlt) ( And.intro (hw) ( And.intro (e0) (hx)))) trivial trivial trivial trivial trivial trivial trivial trivial trivial trivial trivial ?_
    exact WC.loop rfl hih
theorem s16 (l : List Np) (i : Int) (hl : l.length ≤ 1000000) : Sp cf 16 [slN l, .int .i64 i] (.tup [slN (keepN i (saneL l)), .bool (decide (((keepN i (saneL l)).length : Int) < ((saneL l).length : Int)))]) := by
  have hs := (saneL_fit l).len
  have h22 := s22 hcf env_but l hl
  have h25 := s25 hcf i
  have h26 := s26v hcf (saneL l) (by omega)
  have h33 := s33 hcf (saneL l) i (by omega)
  have hr := prefN (keepN i (saneL l)) (List.replicate ((saneL l).length - (keepN i (saneL l)).length) (0, 0))
  generalize saneL l = m at *
  generalize keepN i m ++ List.replicate (m.length - (keepN i m).length) (0, 0) = row at *
  generalize keepN i m = k at *
  refine sp_of hcf env16 ?_
  simp only [slN] at *
  conv => arg 2; simp only [ir16]
  conv => arg 3; simp only [ir16, Go.Proofs.YtppnijapeepbnaaEv.start, List.length, Nat.reduceAdd, Nat.reduceSub, List.reduceReplicate, List.append_eq, List.cons_append, List.nil_append]
  conv => arg 4; simp only [heapOf]
  try conv => arg 5; simp only [List.length, Nat.reduceAdd]
  try conv => arg 6; simp only [List.length, Nat.reduceAdd]
  refine EVgo9 trivial (h22) (h26) (h25) (h33) trivial trivial trivial trivial trivial trivial trivial ?_
  exact EVret (hr)
theorem s18 (l : List Np) (hl : l.length ≤ 1000000) : Sp cf 18 [slN l] (nextN (saneL l)) := by
  have hs := (saneL_fit l).len
  have h22 := s22 hcf env_but l hl
  generalize saneL l = m at *
  refine sp_of hcf env18 ?_
  cases m with
  | nil =>
    unfold nextN
    simp only [slN] at *
    simp only [List.length, flat_nil, Int.cast_ofNat_Int] at h22
    conv => arg 2; simp only [ir18]
    conv => arg 3; simp only [ir18, Go.Proofs.YtppnijapeepbnaaEv.start, List.length, Nat.reduceAdd, Nat.reduceSub, List.reduceReplicate, List.append_eq, List.cons_append, List.nil_append]
    conv => arg 4; simp only [heapOf]
    try conv => arg 5; simp only [List.length, Nat.reduceAdd]
    try conv => arg 6; simp only [List.length, Nat.reduceAdd]
    refine EVgo9 trivial (h22) trivial trivial trivial trivial trivial trivial trivial trivial trivial trivial ?_
    exact EVret trivial
  | cons x m =>
    obtain ⟨x, y⟩ := x
    unfold nextN
    have hgt : (((m.length + 1 : Nat) : Int) > 0) := by omega
    have hfc : flat encN ((x, y) :: m) = .int .i64 x :: .int .i64 y :: flat encN m := rfl
    simp only [slN, List.length, hfc] at *
    conv => arg 2; simp only [ir18]
    conv => arg 3; simp only [ir18, Go.Proofs.YtppnijapeepbnaaEv.start, List.length, Nat.reduceAdd, Nat.reduceSub, List.reduceReplicate, List.append_eq, List.cons_append, List.nil_append]
    conv => arg 4; simp only [heapOf]
    try conv => arg 5; simp only [List.length, Nat.reduceAdd]
    try conv => arg 6; simp only [List.length, Nat.reduceAdd]
    refine EVgo9 (hgt) (h22) trivial trivial trivial trivial trivial trivial trivial trivial trivial trivial ?_
    exact EVret trivial
end
end Go.Proofs.YtppnijapeepbnaaR
