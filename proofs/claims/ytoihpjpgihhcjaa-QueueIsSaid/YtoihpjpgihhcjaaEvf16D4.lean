/- Evf16D4: a part of the proof. -/
import Derived.Test.YtoihpjpgihhcjaaEvf16P1
open Go Go.Proofs.YtoihpjpgihhcjaaEv Go.Proofs.YtoihpjpgihhcjaaR Go.IntWalk Go.Proofs
set_option maxRecDepth 20000
set_option maxHeartbeats 8000000
set_option linter.unusedVariables false
set_option linter.unusedSimpArgs false
namespace Go.Proofs.YtoihpjpgihhcjaaR
def okP (s : Qu) (id prio : Int) : Bool := mayB (s.1 + 1) (id, prio, s.1) && (decide (ixX id s.2 0 < 0) && !(s.1 == 1099511627776))
def putQ (q : Qu) (id prio : Int) : Qu × Bool := if okP (saneQ q) id prio = true then (((saneQ q).1 + 1, insX (saneQ q).2 (id, prio, (saneQ q).1)), true) else (saneQ q, false)
def encB (x : Qu × Bool) : PV := .tup [encQ x.1, .bool x.2]
def delK (l : List It) (k : Nat) : List It := l.take k ++ l.drop (k + 1)
def nthQ (q : Qu) (n : Int) : Qu × Int × Bool := if (saneQ q).2 = [] then (saneQ q, 0, false) else (((saneQ q).1, delK (saneQ q).2 (n.toNat % (saneQ q).2.length)), ((saneQ q).2.getD (n.toNat % (saneQ q).2.length) nilX).1, true)
def encN (x : Qu × Int × Bool) : PV := .tup [encQ x.1, .int .i64 x.2.1, .bool x.2.2]
def dropQ (q : Qu) (id : Int) : Qu × Bool := if ixX id (saneQ q).2 0 < 0 then (saneQ q, false) else (((saneQ q).1, delK (saneQ q).2 (ixX id (saneQ q).2 0).toNat), true)
theorem delK_len {l : List It} {k : Nat} (h : k < l.length) : (delK l k).length = l.length - 1 := by
  unfold delK
  rw [List.length_append, List.length_take, List.length_drop]
  omega
theorem delK_sub (l : List It) (k : Nat) : (delK l k).Sublist l := by
  unfold delK
  rw [← List.eraseIdx_eq_take_drop_succ]
  exact List.eraseIdx_sublist _ _
def idsP (es : List It) : List PV := es.map fun x => PV.int .i64 x.1
theorem lenIds (l : List It) : (idsP l).length = l.length := by unfold idsP; simp
theorem allIds (l : List It) : (idsP l).take l.length = idsP l := List.take_of_length_le (by rw [lenIds]; exact Nat.le_refl _)
theorem snocIds (l : List It) (x y z : Int) : idsP l ++ [PV.int .i64 x] = idsP (l ++ [(x, y, z)]) := by unfold idsP; simp
theorem mid_ids {m p r : List It} {x y z : Int} (h : p ++ (x, y, z) :: r = m) : (idsP m).drop p.length = .int .i64 x :: idsP r := by
  subst h
  unfold idsP
  rw [List.map_append, List.drop_left' (by simp)]
  rfl
theorem k_max0 {cf : CF} {new : Nat} {T : List PV} {H : Heap} {a b : X} {n z : Int} (hz : (if n > 0 then n else 0) = z) (ha : valT T a = .int .i64 0) (hb : valT T b = .int .i64 n) : EK cf (.minmax true [a, b]) new T H (.int .i64 z) [] := k_mm ha hb (by rw [if_pos rfl]; exact hz)
section
variable {cf : CF} (hcf : cf = ev env)
include hcf
theorem s13 (q : Qu) (id prio : Int) (hl : q.2.length ≤ 9223372036854775807) : Sp cf 13 [encQ q, .int .i64 id, .int .i64 prio] (encB (putQ q id prio)) := by
  have h28 := s28 hcf q hl
  have hf := saneQ_fit q
  refine sp_of hcf env13 ?_
  unfold putQ okP
  generalize saneQ q = s at *
  obtain ⟨nx, l⟩ := s
  obtain ⟨qn, ql⟩ := q
  simp only at *
  have hn0 := hf.n0
  have hn1 := hf.n1
  have hlen := hf.len
  have w1 : IntKind.i64.wrap (nx + 1) = nx + 1 := i64_in _ (by omega)
  have h26 := s26 hcf (id, prio, nx) (nx + 1) (by omega) (by omega)
  have h29 := s29 hcf (nx, l) id (by simp only; omega)
  cases hm : mayB (nx + 1) (id, prio, nx) with
  | false =>
    rw [hm] at h26
    rw [if_neg (by simp)]
    simp only [encB, encQ, encX, slX] at *
    conv => arg 2; simp only [ir13]
    conv => arg 3; simp only [ir13, Go.Proofs.YtoihpjpgihhcjaaEv.start, List.length, Nat.reduceAdd, Nat.reduceSub, List.reduceReplicate, List.append_eq, List.cons_append, List.nil_append]
    conv => arg 4; simp only [heapOf]
    try conv => arg 5; simp only [List.length, Nat.reduceAdd]
    try conv => arg 6; simp only [List.length, Nat.reduceAdd]
    refine EVgo9 (w1) (h28) (h26) trivial trivial trivial trivial trivial trivial trivial trivial trivial ?_
    exact EVret trivial
  | true =>
    rw [hm] at h26
    have hsx := may_sml hm (by omega)
    by_cases hi : ixX id l 0 < 0
    · have hi' : ¬ (ixX id l 0 ≥ 0) := by omega
      by_cases ht : nx = 1099511627776
      · have ht' : (nx == 1099511627776) = true := beq_iff_eq.2 ht
        rw [if_neg (by rw [ht']; simp)]
        simp only [encB, encQ, encX, slX] at *
        conv => arg 2; simp only [ir13]
        conv => arg 3; simp only [ir13, Go.Proofs.YtoihpjpgihhcjaaEv.start, List.length, Nat.reduceAdd, Nat.reduceSub, List.reduceReplicate, List.append_eq, List.cons_append, List.nil_append]
        conv => arg 4; simp only [heapOf]
        try conv => arg 5; simp only [List.length, Nat.reduceAdd]
        try conv => arg 6; simp only [List.length, Nat.reduceAdd]
        refine EVgo9 (And.intro (w1) ( And.intro (hi') (ht'))) (h28) (h26) (h29) trivial trivial trivial trivial trivial trivial trivial trivial ?_
        exact EVret trivial
      · have ht' : (nx == 1099511627776) = false := beq_eq_false_iff_ne.2 ht
        rw [if_pos (by rw [ht', decide_eq_true hi]; rfl)]
        have hk := posK_le l (id, prio, nx)
        obtain ⟨f, h30⟩ := s30 hcf l (id, prio, nx) (posK l (id, prio, nx)) hlen hsx hf.sml hk (posK_ord _ hf.srt)
        have h32 := s32 hcf l (by omega)
        have h31 := s31 hcf l (id, prio, nx) (posK l (id, prio, nx)) hk (by omega)
        have hlI := insX_len l (id, prio, nx)
        have hall := allX (insX l (id, prio, nx))
        rw [hlI] at hall
        have e : l.take (posK l (id, prio, nx)) ++ (id, prio, nx) :: l.drop (posK l (id, prio, nx)) = insX l (id, prio, nx) := rfl
        rw [e] at h31
        clear e
        simp only [encB, encQ, encX, slX] at *
        rw [hlI]
        generalize insX l (id, prio, nx) = m at *
        generalize posK l (id, prio, nx) = k at *
        conv => arg 2; simp only [ir13]
        conv => arg 3; simp only [ir13, Go.Proofs.YtoihpjpgihhcjaaEv.start, List.length, Nat.reduceAdd, Nat.reduceSub, List.reduceReplicate, List.append_eq, List.cons_append, List.nil_append]
        conv => arg 4; simp only [heapOf]
        try conv => arg 5; simp only [List.length, Nat.reduceAdd]
        try conv => arg 6; simp only [List.length, Nat.reduceAdd]
        refine EVgo9 (And.intro (w1) ( And.intro (hi') (ht'))) (h28) (h26) (h29) (h30) trivial trivial trivial trivial trivial trivial trivial ?_
        refine EVgo9 (And.intro (w1) ( And.intro (lenX) (allX))) (h32) (h31) trivial trivial trivial trivial trivial trivial trivial trivial trivial ?_
        exact EVret (hall)
    · have hi' : ixX id l 0 ≥ 0 := by omega
      rw [if_neg (by rw [decide_eq_false hi]; simp)]
      simp only [encB, encQ, encX, slX] at *
      conv => arg 2; simp only [ir13]
      conv => arg 3; simp only [ir13, Go.Proofs.YtoihpjpgihhcjaaEv.start, List.length, Nat.reduceAdd, Nat.reduceSub, List.reduceReplicate, List.append_eq, List.cons_append, List.nil_append]
      conv => arg 4; simp only [heapOf]
      try conv => arg 5; simp only [List.length, Nat.reduceAdd]
      try conv => arg 6; simp only [List.length, Nat.reduceAdd]
      refine EVgo9 (And.intro (w1) (hi')) (h28) (h26) (h29) trivial trivial trivial trivial trivial trivial trivial trivial ?_
      exact EVret trivial
theorem s33 (nx : Int) (l : List It) (k : Nat) (hk : k < l.length) (hl : l.length ≤ 1000000) : Sp cf 33 [encQ (nx, l), .int .i64 (k : Nat)] (encQ (nx, delK l k)) := by
  have h32 := s32 hcf l hl
  have h44 := s44 hcf l k hk hl
  have e : l.take k ++ l.drop (k + 1) = delK l k := rfl
  rw [e] at h44
  clear e
  have hlI := delK_len hk
  have hall := allX (delK l k)
  rw [hlI] at hall
  have w1 : IntKind.i64.wrap ((k : Int) + 1) = ((k + 1 : Nat) : Int) := by rw [i64_in _ (by omega)]; simp
  refine sp_of hcf env33 ?_
  simp only [encQ, slX] at *
  rw [hlI]
  generalize delK l k = m at *
  conv => arg 2; simp only [ir33]
  conv => arg 3; simp only [ir33, Go.Proofs.YtoihpjpgihhcjaaEv.start, List.length, Nat.reduceAdd, Nat.reduceSub, List.reduceReplicate, List.append_eq, List.cons_append, List.nil_append]
  conv => arg 4; simp only [heapOf]
  try conv => arg 5; simp only [List.length, Nat.reduceAdd]
  try conv => arg 6; simp only [List.length, Nat.reduceAdd]
  refine EVgo9 (w1) (h32) (h44) trivial trivial trivial trivial trivial trivial trivial trivial trivial ?_
  exact EVret (hall)
theorem s17 (q : Qu) (n : Int) (hl : q.2.length ≤ 9223372036854775807) : Sp cf 17 [encQ q, .int .i64 n] (encN (nthQ q n)) := by
  have h28 := s28 hcf q hl
  have hf := saneQ_fit q
  refine sp_of hcf env17 ?_
  unfold nthQ
  generalize saneQ q = s at *
  obtain ⟨nx, l⟩ := s
  obtain ⟨qn, ql⟩ := q
  simp only at *
  have hlen := hf.len
  by_cases h0 : l = []
  · subst h0
    rw [if_pos rfl]
    have hz : (((([] : List It).length : Nat) : Int) == 0) = true := rfl
    simp only [encN, encQ, slX] at *
    conv => arg 2; simp only [ir17]
    conv => arg 3; simp only [ir17, Go.Proofs.YtoihpjpgihhcjaaEv.start, List.length, Nat.reduceAdd, Nat.reduceSub, List.reduceReplicate, List.append_eq, List.cons_append, List.nil_append]
    conv => arg 4; simp only [heapOf]
    try conv => arg 5; simp only [List.length, Nat.reduceAdd]
    try conv => arg 6; simp only [List.length, Nat.reduceAdd]
    refine EVgo9 (hz) (h28) trivial trivial trivial trivial trivial trivial trivial trivial trivial trivial ?_
    exact EVret trivial
  · have hpos : 0 < l.length := List.length_pos_iff.2 h0
    have hz : (((l.length : Nat) : Int) == 0) = false := beq_eq_false_iff_ne.2 (by omega)
    have hne : ((l.length : Nat) : Int) ≠ 0 := by omega
    rw [if_neg h0]
    have hmx : (if n > 0 then n else 0) = ((n.toNat : Nat) : Int) := by split <;> omega
    have hrem : ((n.toNat : Nat) : Int).tmod ((l.length : Nat) : Int) = ((n.toNat % l.length : Nat) : Int) := (Int.ofNat_tmod _ _).symm
    have hk : n.toNat % l.length < l.length := Nat.mod_lt _ hpos
    generalize n.toNat % l.length = k at *
    have hlt : (k : Int) < (l.length : Int) := by omega
    have h33 := s33 hcf nx l k hk (by omega)
    have eK := at_X hk
    simp only [encN, encQ, slX] at *
    generalize delK l k = m at *
    generalize l.getD k nilX = x at *
    conv => arg 2; simp only [ir17]
    conv => arg 3; simp only [ir17, Go.Proofs.YtoihpjpgihhcjaaEv.start, List.length, Nat.reduceAdd, Nat.reduceSub, List.reduceReplicate, List.append_eq, List.cons_append, List.nil_append]
    conv => arg 4; simp only [heapOf]
    try conv => arg 5; simp only [List.length, Nat.reduceAdd]
    try conv => arg 6; simp only [List.length, Nat.reduceAdd]
    refine EVgo9 (hz) (h28) trivial trivial trivial trivial trivial trivial trivial trivial (k_max0 hmx) (k_rem hne) ?_
    refine EVgo9 (And.intro (hrem) ( And.intro (hlt) (eK))) (h33) trivial trivial trivial trivial trivial trivial trivial trivial trivial trivial ?_
    exact EVret trivial
theorem s11 (q : Qu) (hl : q.2.length ≤ 9223372036854775807) : Sp cf 11 [encQ q] (encN (nthQ q 0)) := by
  have h17 := s17 hcf q 0 hl
  refine sp_of hcf env11 ?_
  generalize nthQ q 0 = x at *
  simp only [encN, encQ, slX] at *
  conv => arg 2; simp only [ir11]
  conv => arg 3; simp only [ir11, Go.Proofs.YtoihpjpgihhcjaaEv.start, List.length, Nat.reduceAdd, Nat.reduceSub, List.reduceReplicate, List.append_eq, List.cons_append, List.nil_append]
  conv => arg 4; simp only [heapOf]
  try conv => arg 5; simp only [List.length, Nat.reduceAdd]
  try conv => arg 6; simp only [List.length, Nat.reduceAdd]
  refine EVgo9 trivial (h17) trivial trivial trivial trivial trivial trivial trivial trivial trivial trivial ?_
  exact EVret trivial
theorem s15 (q : Qu) (id : Int) (hl : q.2.length ≤ 9223372036854775807) : Sp cf 15 [encQ q, .int .i64 id] (encB (dropQ q id)) := by
  have h28 := s28 hcf q hl
  have hf := saneQ_fit q
  refine sp_of hcf env15 ?_
  unfold dropQ
  generalize saneQ q = s at *
  obtain ⟨nx, l⟩ := s
  obtain ⟨qn, ql⟩ := q
  simp only at *
  have hlen := hf.len
  have h29 := s29 hcf (nx, l) id (by simp only; omega)
  rcases ix_first id l 0 with ⟨h1, _⟩ | ⟨k, hk, _, _, h1⟩
  · rw [h1] at h29 ⊢
    rw [if_pos (by decide)]
    simp only [encB, encQ, slX] at *
    conv => arg 2; simp only [ir15]
    conv => arg 3; simp only [ir15, Go.Proofs.YtoihpjpgihhcjaaEv.start, List.length, Nat.reduceAdd, Nat.reduceSub, List.reduceReplicate, List.append_eq, List.cons_append, List.nil_append]
    conv => arg 4; simp only [heapOf]
    try conv => arg 5; simp only [List.length, Nat.reduceAdd]
    try conv => arg 6; simp only [List.length, Nat.reduceAdd]
    refine EVgo9 trivial (h28) (h29) trivial trivial trivial trivial trivial trivial trivial trivial trivial ?_
    exact EVret trivial
  · rw [h1, Nat.zero_add] at h29 ⊢
    have hn : ¬ ((k : Int) < 0) := by omega
    rw [if_neg hn, Int.toNat_natCast]
    have h33 := s33 hcf nx l k hk (by omega)
    simp only [encB, encQ, slX] at *
    generalize delK l k = m at *
    conv => arg 2; simp only [ir15]
    conv => arg 3; simp only [ir15, Go.Proofs.YtoihpjpgihhcjaaEv.start, List.length, Nat.reduceAdd, Nat.reduceSub, List.reduceReplicate, List.append_eq, List.cons_append, List.nil_append]
    conv => arg 4; simp only [heapOf]
    try conv => arg 5; simp only [List.length, Nat.reduceAdd]
    try conv => arg 6; simp only [List.length, Nat.reduceAdd]
    refine EVgo9 (hn) (h28) (h29) (h33) trivial trivial trivial trivial trivial trivial trivial trivial ?_
    exact EVret trivial
theorem s14 (q : Qu) (hl : q.2.length ≤ 9223372036854775807) : Sp cf 14 [encQ q] (.sl (saneQ q).2.length false (idsP (saneQ q).2)) := by
  have h28 := s28 hcf q hl
  have hf := saneQ_fit q
  refine sp_of hcf env14 ?_
  generalize saneQ q = s at *
  obtain ⟨nx, l⟩ := s
  obtain ⟨qn, ql⟩ := q
  simp only [encQ, slX] at *
  have hlen := hf.len
  conv => arg 2; simp only [ir14]
  conv => arg 3; simp only [ir14, Go.Proofs.YtoihpjpgihhcjaaEv.start, List.length, Nat.reduceAdd, Nat.reduceSub, List.reduceReplicate, List.append_eq, List.cons_append, List.nil_append]
  conv => arg 4; simp only [heapOf]
  try conv => arg 5; simp only [List.length, Nat.reduceAdd]
  try conv => arg 6; simp only [List.length, Nat.reduceAdd]
  refine EVgo9 trivial (h28) trivial trivial trivial trivial trivial trivial trivial trivial trivial trivial ?_
  refine WC.loop (T' := _) (H' := _) (n' := _) rfl ((?_ : ∀ (r p : List It), p ++ r = l →
    WC cf _ (mkT 21 [(3, .own 0 1 0 p.length), (8, .sl l.length false (flat encX l)), (9, .int .i64 (l.length : Nat)), (10, .int .i64 (p.length : Nat))]) [(0, .row (idsP p))] 0 1 _) l [] rfl)
  intro r
  induction r with
  | nil =>
    intro p hp
    rw [List.append_nil] at hp
    subst hp
    conv => arg 3; simp only [mkT, putT, List.reduceReplicate, List.set]
    refine EVgl9 trivial trivial trivial trivial trivial trivial trivial trivial trivial trivial trivial trivial ?_
    exact EVret (allIds)
  | cons x r ih =>
    intro p hp
    have hih := ih (p ++ [x]) (by rw [List.append_assoc]; exact hp)
    rw [snoc_len] at hih
    obtain ⟨a, b, c⟩ := x
    have hln : l.length = p.length + (r.length + 1) := by rw [← hp]; simp
    have hlt : (p.length : Int) < (l.length : Int) := by omega
    have hw : IntKind.i64.wrap ((p.length : Int) + 1) = ((p.length + 1 : Nat) : Int) := by rw [i64_in _ (by omega)]; simp
    have eK := mid_X hp
    have hsn := snocIds p a b c
    conv => arg 3; simp only [mkT, putT, List.reduceReplicate, List.set]
    refine EVgo9 (And.intro (hlt) ( And.intro (hw) ( And.intro (eK) ( And.intro (lenIds) ( And.intro (allIds) (hsn)))))) trivial trivial trivial trivial trivial trivial trivial trivial trivial trivial trivial ?_
    exact WC.loop rfl hih
theorem s10 (q : Qu) (hl : q.2.length ≤ 1000000) : Sp cf 10 [encQ q] (encQ q) := by
  refine sp_of hcf env10 ?_
  obtain ⟨nx, l⟩ := q
  simp only [encQ, slX] at *
  conv => arg 2; simp only [ir10]
  conv => arg 3; simp only [ir10, Go.Proofs.YtoihpjpgihhcjaaEv.start, List.length, Nat.reduceAdd, Nat.reduceSub, List.reduceReplicate, List.append_eq, List.cons_append, List.nil_append]
  conv => arg 4; simp only [heapOf]
  try conv => arg 5; simp only [List.length, Nat.reduceAdd]
  try conv => arg 6; simp only [List.length, Nat.reduceAdd]
  refine EVgo9 trivial trivial trivial trivial trivial trivial trivial trivial trivial trivial trivial trivial ?_
  refine WC.loop (T' := _) (H' := _) (n' := _) rfl ((?_ : ∀ (r p : List It), p ++ r = l →
    WC cf _ (mkT 34 [(1, .ptr 0 0), (2, .ptr 1 0), (3, .ptr 2 0), (4, .int .i64 (p.length : Nat))]) [(0, .box [.int .i64 nx, .sl l.length false (flat encX l)]), (1, .box [.int .i64 0, .nil]), (2, .box [.int .i64 nx, .own 3 3 0 p.length]), (3, .row (flat encX p))] 0 4 _) l [] rfl)
  intro r
  induction r with
  | nil =>
    intro p hp
    rw [List.append_nil] at hp
    subst hp
    conv => arg 3; simp only [mkT, putT, List.reduceReplicate, List.set]
    refine EVgl9 trivial trivial trivial trivial trivial trivial trivial trivial trivial trivial trivial trivial ?_
    exact EVret (allX)
  | cons x r ih =>
    intro p hp
    have hih := ih (p ++ [x]) (by rw [List.append_assoc]; exact hp)
    rw [snoc_len] at hih
    obtain ⟨a, b, c⟩ := x
    have hln : l.length = p.length + (r.length + 1) := by rw [← hp]; simp
    have hlt : (p.length : Int) < (l.length : Int) := by omega
    have hw : IntKind.i64.wrap ((p.length : Int) + 1) = ((p.length + 1 : Nat) : Int) := by rw [i64_in _ (by omega)]; simp
    have eK := mid_X hp
    conv => arg 3; simp only [mkT, putT, List.reduceReplicate, List.set]
    refine EVgo9 (And.intro (hlt) ( And.intro (hw) ( And.intro (eK) ( And.intro (lenX) ( And.intro (allX) (snocX)))))) trivial trivial trivial trivial trivial trivial trivial trivial trivial trivial trivial ?_
    exact WC.loop rfl hih
theorem s12 (q : Qu) (hl : q.2.length ≤ 1000000) : Sp cf 12 [encQ q] (encQ q) := by
  refine sp_of hcf env12 ?_
  obtain ⟨nx, l⟩ := q
  simp only [encQ, slX] at *
  conv => arg 2; simp only [ir12]
  conv => arg 3; simp only [ir12, Go.Proofs.YtoihpjpgihhcjaaEv.start, List.length, Nat.reduceAdd, Nat.reduceSub, List.reduceReplicate, List.append_eq, List.cons_append, List.nil_append]
  conv => arg 4; simp only [heapOf]
  try conv => arg 5; simp only [List.length, Nat.reduceAdd]
  try conv => arg 6; simp only [List.length, Nat.reduceAdd]
  refine EVgo9 trivial trivial trivial trivial trivial trivial trivial trivial trivial trivial trivial trivial ?_
  refine WC.loop (T' := _) (H' := _) (n' := _) rfl ((?_ : ∀ (r p : List It), p ++ r = l →
    WC cf _ (mkT 34 [(1, .ptr 0 0), (2, .ptr 1 0), (3, .ptr 2 0), (4, .int .i64 (p.length : Nat))]) [(0, .box [.int .i64 nx, .sl l.length false (flat encX l)]), (1, .box [.int .i64 0, .nil]), (2, .box [.int .i64 nx, .own 3 3 0 p.length]), (3, .row (flat encX p))] 0 4 _) l [] rfl)
  intro r
  induction r with
  | nil =>
    intro p hp
    rw [List.append_nil] at hp
    subst hp
    conv => arg 3; simp only [mkT, putT, List.reduceReplicate, List.set]
    refine EVgl9 trivial trivial trivial trivial trivial trivial trivial trivial trivial trivial trivial trivial ?_
    exact EVret (allX)
  | cons x r ih =>
    intro p hp
    have hih := ih (p ++ [x]) (by rw [List.append_assoc]; exact hp)
    rw [snoc_len] at hih
    obtain ⟨a, b, c⟩ := x
    have hln : l.length = p.length + (r.length + 1) := by rw [← hp]; simp
    have hlt : (p.length : Int) < (l.length : Int) := by omega
    have hw : IntKind.i64.wrap ((p.length : Int) + 1) = ((p.length + 1 : Nat) : Int) := by rw [i64_in _ (by omega)]; simp
    have eK := mid_X hp
    conv => arg 3; simp only [mkT, putT, List.reduceReplicate, List.set]
    refine EVgo9 (And.intro (hlt) ( And.intro (hw) ( And.intro (eK) ( And.intro (lenX) ( And.intro (allX) (snocX)))))) trivial trivial trivial trivial trivial trivial trivial trivial trivial trivial trivial ?_
    exact WC.loop rfl hih
end
end Go.Proofs.YtoihpjpgihhcjaaR
