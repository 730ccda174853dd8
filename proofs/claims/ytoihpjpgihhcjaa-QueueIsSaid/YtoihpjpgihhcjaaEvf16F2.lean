/- QueueBack. -/
import Derived.Test.YtoihpjpgihhcjaaEvf16F1
open Go Go.Proofs.YtoihpjpgihhcjaaEv Go.Proofs.YtoihpjpgihhcjaaR Go.IntWalk Go.Proofs
set_option maxRecDepth 20000
set_option maxHeartbeats 8000000
set_option linter.unusedVariables false
set_option linter.unusedSimpArgs false
namespace Go.Proofs.YtoihpjpgihhcjaaR
theorem Fit.up {nx : Int} {l : List It} (h : Fit nx l) (hn : nx < 1099511627776) : Fit (nx + 1) l :=
  ⟨by have := h.n0; omega, by omega, h.len, fun y hy => by
    have := may_iff.1 (h.may y hy)
    exact may_iff.2 ⟨this.1, this.2.1, this.2.2.1, by omega⟩, h.idn, h.tnn, h.srt⟩
theorem no_ix {i : Int} {l : List It} (h : ixX i l 0 < 0) : ∀ y ∈ l, y.1 ≠ i := by
  rcases ix_first i l 0 with ⟨_, h2⟩ | ⟨j, _, _, _, h2⟩
  · exact h2
  · omega
theorem insX_at {l : List It} {x : It} {j : Nat} : (insX l x).getD j nilX = if j < posK l x then l.getD j nilX else if j = posK l x then x else l.getD (j - 1) nilX := by
  have hk := posK_le l x
  have hlt : (l.take (posK l x)).length = posK l x := by rw [List.length_take]; omega
  unfold insX
  simp only [List.getD_eq_getElem?_getD]
  split
  · next h => rw [List.getElem?_append_left (by omega), List.getElem?_take_of_lt h]
  · next h =>
    rw [List.getElem?_append_right (by omega), hlt]
    split
    · next e => rw [e, Nat.sub_self]; rfl
    · next e =>
      rw [show j - posK l x = (j - 1 - posK l x) + 1 by omega, List.getElem?_cons_succ, List.getElem?_drop, show posK l x + (j - 1 - posK l x) = j - 1 by omega]
theorem ix_ins {i : Int} {l : List It} {x : It} (hx : x.1 = i) (h : ∀ y ∈ l, y.1 ≠ i) : ixX i (insX l x) 0 = ((posK l x : Nat) : Int) := by
  rcases ix_first i (insX l x) 0 with ⟨_, h2⟩ | ⟨j, h1, h2, h3, h4⟩
  · exact absurd hx (h2 x (mem_insX.2 (.inl rfl)))
  · have hk := posK_le l x
    rw [insX_len] at h1
    rw [insX_at] at h2
    have : j = posK l x := by
      split at h2
      · exact absurd h2 (h _ (getD_mem (by omega)))
      · split at h2
        · assumption
        · exact absurd h2 (h _ (getD_mem (by omega)))
    rw [h4, this, Nat.zero_add]
theorem del_ins (l : List It) (x : It) : delK (insX l x) (posK l x) = l := by
  have hk := posK_le l x
  have hlt : (l.take (posK l x)).length = posK l x := by rw [List.length_take]; omega
  unfold delK insX
  rw [List.take_left' hlt, List.drop_append, hlt, List.drop_of_length_le (by omega), List.nil_append, show posK l x + 1 - posK l x = 1 by omega]
  show l.take (posK l x) ++ l.drop (posK l x) = l
  exact List.take_append_drop _ _
structure PutOk (nx : Int) (l : List It) (id prio : Int) : Prop where
  may : mayB (nx + 1) (id, prio, nx) = true
  no : ∀ y ∈ l, y.1 ≠ id
  lt : nx < 1099511627776
theorem okP_to {nx : Int} {l : List It} {id prio : Int} (hf : Fit nx l) (h : okP (nx, l) id prio = true) : PutOk nx l id prio := by
  unfold okP at h
  rw [Bool.and_eq_true, Bool.and_eq_true, decide_eq_true_eq, Bool.not_eq_true', beq_eq_false_iff_ne] at h
  exact ⟨h.1, no_ix h.2.1, by have := hf.n1; have := h.2.2; simp only at this; omega⟩
theorem okP_of {nx : Int} {l : List It} {id prio : Int} (hf : Fit nx l) (h : PutOk nx l id prio) : okP (nx, l) id prio = true := by
  unfold okP
  rw [Bool.and_eq_true, Bool.and_eq_true, decide_eq_true_eq, Bool.not_eq_true', beq_eq_false_iff_ne]
  have hlt := h.lt
  refine ⟨h.may, ?_, by simp only; omega⟩
  rcases ix_first id l 0 with ⟨h1, _⟩ | ⟨j, h1, h2, _, _⟩
  · simp only; omega
  · exact absurd h2 (h.no _ (getD_mem h1))
theorem put_ok {nx : Int} {l : List It} {id prio : Int} (hf : Fit nx l) (h : PutOk nx l id prio) : putQ (nx, l) id prio = ((nx + 1, insX l (id, prio, nx)), true) ∧ Fit (nx + 1) (insX l (id, prio, nx)) := by
  refine ⟨?_, hf.put h.may rfl h.lt h.no⟩
  unfold putQ
  rw [saneQ_id (q := (nx, l)) hf, if_pos (okP_of hf h)]
theorem put_no {nx : Int} {l : List It} {id prio : Int} (hf : Fit nx l) (h : ¬ PutOk nx l id prio) : putQ (nx, l) id prio = ((nx, l), false) := by
  unfold putQ
  rw [saneQ_id (q := (nx, l)) hf, if_neg (fun e => h (okP_to hf e))]
theorem drop_put {nx : Int} {l : List It} {id prio : Int} (hf : Fit nx l) (h : PutOk nx l id prio) : dropQ (nx + 1, insX l (id, prio, nx)) id = ((nx + 1, l), true) := by
  unfold dropQ
  rw [saneQ_id (q := (nx + 1, insX l (id, prio, nx))) (put_ok hf h).2]
  simp only
  rw [ix_ins (x := (id, prio, nx)) rfl h.no, if_neg (by omega), Int.toNat_natCast, del_ins]
theorem dropQ_len (q : Qu) (i : Int) : (dropQ q i).1.2.length ≤ 8 := by
  have hf := (saneQ_fit q).len
  unfold dropQ
  split
  · exact hf
  · exact Nat.le_trans (delK_sub _ _).length_le hf
theorem at_ids {l : List It} {i : Nat} (hi : i < l.length) : (idsP l).drop i = PV.int .i64 (l.getD i nilX).1 :: idsP (l.drop (i + 1)) := by
  have e := List.drop_eq_getElem_cons hi
  unfold idsP
  rw [← List.map_drop, e, List.map_cons, List.getD_eq_getElem?_getD, List.getElem?_eq_getElem hi]
  rfl
theorem takeIds (l : List It) (k : Nat) : (idsP l).take k = idsP (l.take k) := by unfold idsP; rw [List.map_take]
theorem dropIds (l : List It) (k : Nat) : (idsP l).drop k = idsP (l.drop k) := by unfold idsP; rw [List.map_drop]
theorem appIds (a b : List It) : idsP a ++ idsP b = idsP (a ++ b) := by unfold idsP; rw [List.map_append]
section
variable {cf : CF} (hcf : cf = ev env)
include hcf
theorem s5 (q : Qu) (id prio n : Int) : Sp cf 5 [encQ q, .int .i64 id, .int .i64 prio, .int .i64 n] (.bool true) := by
  have h8 := s8 hcf
  refine sp_of hcf env5 ?_
  obtain ⟨nx, l⟩ := q
  by_cases hl : l.length ≤ 30
  rotate_left
  · have hl' : (l.length : Int) > 30 := by omega
    simp only [encQ, slX]
    conv => arg 2; simp only [ir5]
    conv => arg 3; simp only [ir5, Go.Proofs.YtoihpjpgihhcjaaEv.start, List.length, Nat.reduceAdd, Nat.reduceSub, List.reduceReplicate, List.append_eq, List.cons_append, List.nil_append]
    conv => arg 4; simp only [heapOf]
    try conv => arg 5; simp only [List.length, Nat.reduceAdd]
    try conv => arg 6; simp only [List.length, Nat.reduceAdd]
    refine EVgo9 (hl') (h8) trivial trivial trivial trivial trivial trivial trivial trivial trivial trivial ?_
    exact EVret trivial
  have hl' : ¬ (l.length : Int) > 30 := by omega
  have h10 := s10 hcf (nx, l) (by simp only; omega)
  have h9 := s9 hcf (nx, l) (by simp only; omega)
  cases hs : saneB nx l with
  | false =>
    simp only [hs, encQ, slX] at *
    conv => arg 2; simp only [ir5]
    conv => arg 3; simp only [ir5, Go.Proofs.YtoihpjpgihhcjaaEv.start, List.length, Nat.reduceAdd, Nat.reduceSub, List.reduceReplicate, List.append_eq, List.cons_append, List.nil_append]
    conv => arg 4; simp only [heapOf]
    try conv => arg 5; simp only [List.length, Nat.reduceAdd]
    try conv => arg 6; simp only [List.length, Nat.reduceAdd]
    refine EVgo9 (hl') (h8) (h10) (h9) trivial trivial trivial trivial trivial trivial trivial trivial ?_
    exact EVret trivial
  | true =>
    have hf := sane_iff.1 hs
    have hn0 := hf.n0
    have hn1 := hf.n1
    have h14 := s14 hcf (nx, l) (by simp only; omega)
    have h13 := s13 hcf (nx, l) id prio (by simp only; omega)
    have h17 := s17 hcf (nx, l) n (by simp only; omega)
    have h16 := s16 hcf l (by omega)
    have w1 : IntKind.i64.wrap (nx + 1) = nx + 1 := i64_in _ (by omega)
    have hN : nthQ (nx, l) n = if l = [] then ((nx, l), 0, false) else ((nx, delK l (n.toNat % l.length)), (l.getD (n.toNat % l.length) nilX).1, true) := by
      unfold nthQ
      rw [saneQ_id (q := (nx, l)) hf]
    rw [hN] at h17
    rw [saneQ_id (q := (nx, l)) hf] at h14
    obtain ⟨p, ok, d, b, hP, hlp, hD, h14d, hend⟩ : ∃ (p : Qu) (ok : Bool) (d : Qu) (b : Bool), putQ (nx, l) id prio = (p, ok) ∧ p.2.length ≤ 9 ∧ dropQ p id = (d, b) ∧ Sp cf 14 [encQ d] (.sl (saneQ d).2.length false (idsP (saneQ d).2)) ∧ (ok = true → b = true ∧ (saneQ d).2 = l ∧ d.1 = nx + 1) := by
      by_cases hok : PutOk nx l id prio
      · have hpo := put_ok hf hok
        refine ⟨_, _, _, _, hpo.1, ?_, drop_put hf hok, s14 hcf _ (by simp only; omega), fun _ => ⟨rfl, ?_, rfl⟩⟩
        · have := hf.len; rw [insX_len]; omega
        · rw [saneQ_id (q := (nx + 1, l)) (hf.up hok.lt)]
      · refine ⟨_, _, (dropQ (nx, l) id).1, (dropQ (nx, l) id).2, put_no hf hok, ?_, rfl, s14 hcf _ (by have := dropQ_len (nx, l) id; omega), fun h => by cases h⟩
        have := hf.len; simp only; omega
    have h15 := s15 hcf p id (by omega)
    rw [hD] at h15
    rw [hP] at h13
    generalize saneQ d = D at *
    obtain ⟨dn, dl⟩ := D
    obtain ⟨pn, pl⟩ := p
    obtain ⟨d1, d2⟩ := d
    by_cases h0 : l = []
    · rw [if_pos h0] at h17
      have hz : ((l.length : Int) == 0) = true := by rw [h0]; rfl
      simp only [hs, encQ, encB, encN, slX] at *
      cases ok with
      | true =>
        obtain ⟨rfl, rfl, rfl⟩ := hend rfl
        have q1 : (nx + 1 != nx + 1) = false := bne_self_eq_false _
        conv => arg 2; simp only [ir5]
        conv => arg 3; simp only [ir5, Go.Proofs.YtoihpjpgihhcjaaEv.start, List.length, Nat.reduceAdd, Nat.reduceSub, List.reduceReplicate, List.append_eq, List.cons_append, List.nil_append]
        conv => arg 4; simp only [heapOf]
        try conv => arg 5; simp only [List.length, Nat.reduceAdd]
        try conv => arg 6; simp only [List.length, Nat.reduceAdd]
        refine EVgo9 (hl') (h8) (h10) (h9) (h14) (h13) (h15) trivial trivial trivial trivial trivial ?_
        refine EVgo9 (And.intro (w1) ( And.intro (q1) (hz))) (h14d) (h16) (h10) (h17) trivial trivial trivial trivial trivial trivial trivial ?_
        exact EVret trivial
      | false =>
        conv => arg 2; simp only [ir5]
        conv => arg 3; simp only [ir5, Go.Proofs.YtoihpjpgihhcjaaEv.start, List.length, Nat.reduceAdd, Nat.reduceSub, List.reduceReplicate, List.append_eq, List.cons_append, List.nil_append]
        conv => arg 4; simp only [heapOf]
        try conv => arg 5; simp only [List.length, Nat.reduceAdd]
        try conv => arg 6; simp only [List.length, Nat.reduceAdd]
        refine EVgo9 (hl') (h8) (h10) (h9) (h14) (h13) (h15) trivial trivial trivial trivial trivial ?_
        refine EVgo9 (hz) (h10) (h17) trivial trivial trivial trivial trivial trivial trivial trivial trivial ?_
        exact EVret trivial
    · rw [if_neg h0] at h17
      have hpos : 0 < l.length := List.length_pos_iff.2 h0
      have hne : ((l.length : Nat) : Int) ≠ 0 := by omega
      have hmx : (if n > 0 then n else 0) = ((n.toNat : Nat) : Int) := by split <;> omega
      have hrem : ((n.toNat : Nat) : Int).tmod ((l.length : Nat) : Int) = ((n.toNat % l.length : Nat) : Int) := (Int.ofNat_tmod _ _).symm
      have hk : n.toNat % l.length < l.length := Nat.mod_lt _ hpos
      generalize n.toNat % l.length = k at *
      have hlt : (k : Int) < (l.length : Int) := by omega
      have hDl := delK_len hk
      have hfD : Fit nx (delK l k) := hf.sub (delK_sub l k)
      have h14r := s14 hcf (nx, delK l k) (by simp only; have := hf.len; omega)
      rw [saneQ_id (q := (nx, delK l k)) hfD] at h14r
      have h16r := s16 hcf (delK l k) (by omega)
      have w2 : IntKind.i64.wrap ((k : Int) + 1) = ((k + 1 : Nat) : Int) := by rw [i64_in _ (by omega)]; simp
      have fA : (idsP l).take k = idsP (l.take k) := takeIds l k
      have lA : (idsP (l.take k)).length = k := by rw [lenIds, List.length_take]; omega
      have fA2 : (idsP (l.take k)).take k = idsP (l.take k) := List.take_of_length_le (by omega)
      have fB : (idsP l).drop (k + 1) = idsP (l.drop (k + 1)) := dropIds l (k + 1)
      obtain ⟨n2, hn2⟩ : ∃ n2, l.length - (k + 1) = n2 := ⟨_, rfl⟩
      have lB : (idsP (l.drop (k + 1))).length = n2 := by rw [lenIds, List.length_drop]; omega
      have fB2 : (idsP (l.drop (k + 1))).take n2 = idsP (l.drop (k + 1)) := List.take_of_length_le (by omega)
      have fAB : idsP (l.take k) ++ idsP (l.drop (k + 1)) = idsP (delK l k) := appIds _ _
      have fN : k + n2 = (delK l k).length := by omega
      have eI := at_ids hk
      have eT : ((k : Nat) : Int).toNat = k := Int.toNat_natCast k
      generalize l.take k = A at *
      generalize l.drop (k + 1) = B at *
      generalize delK l k = E at *
      generalize l.getD k nilX = x at *
      have q3 : (x.1 == x.1) = true := beq_self_eq_true _
      have hE := allIds E
      simp only [hs, encQ, encB, encN, slX] at *
      cases ok with
      | true =>
        obtain ⟨rfl, rfl, rfl⟩ := hend rfl
        have q1 : (nx + 1 != nx + 1) = false := bne_self_eq_false _
        conv => arg 2; simp only [ir5]
        conv => arg 3; simp only [ir5, Go.Proofs.YtoihpjpgihhcjaaEv.start, List.length, Nat.reduceAdd, Nat.reduceSub, List.reduceReplicate, List.append_eq, List.cons_append, List.nil_append]
        conv => arg 4; simp only [heapOf]
        try conv => arg 5; simp only [List.length, Nat.reduceAdd]
        try conv => arg 6; simp only [List.length, Nat.reduceAdd]
        refine EVgo9 (hl') (h8) (h10) (h9) (h14) (h13) (h15) trivial trivial trivial trivial trivial ?_
        refine EVgo9 (And.intro (w1) (q1)) (h14d) (h16) (h10) (h17) trivial trivial trivial trivial trivial (k_max0 hmx) (k_rem hne) ?_
        refine EVgo9 (And.intro (w2) ( And.intro (hrem) ( And.intro (hlt) ( And.intro (eI) ( And.intro (q3) ( And.intro (fA) ( And.intro (lA) ( And.intro (fA2) ( And.intro (fB) ( And.intro (hn2) ( And.intro (lB) ( And.intro (fB2) ( And.intro (fAB) ( And.intro (fN) ( And.intro (hE) (eT)))))))))))))))) (h14r) (h16r) trivial trivial trivial trivial trivial trivial trivial trivial trivial ?_
        exact EVret trivial
      | false =>
        conv => arg 2; simp only [ir5]
        conv => arg 3; simp only [ir5, Go.Proofs.YtoihpjpgihhcjaaEv.start, List.length, Nat.reduceAdd, Nat.reduceSub, List.reduceReplicate, List.append_eq, List.cons_append, List.nil_append]
        conv => arg 4; simp only [heapOf]
        try conv => arg 5; simp only [List.length, Nat.reduceAdd]
        try conv => arg 6; simp only [List.length, Nat.reduceAdd]
        refine EVgo9 (hl') (h8) (h10) (h9) (h14) (h13) (h15) trivial trivial trivial trivial trivial ?_
        refine EVgo9 (w1) (h10) (h17) trivial trivial trivial trivial trivial trivial trivial (k_max0 hmx) (k_rem hne) ?_
        refine EVgo9 (And.intro (w2) ( And.intro (hrem) ( And.intro (hlt) ( And.intro (eI) ( And.intro (q3) ( And.intro (fA) ( And.intro (lA) ( And.intro (fA2) ( And.intro (fB) ( And.intro (hn2) ( And.intro (lB) ( And.intro (fB2) ( And.intro (fAB) ( And.intro (fN) ( And.intro (hE) (eT)))))))))))))))) (h14r) (h16r) trivial trivial trivial trivial trivial trivial trivial trivial trivial ?_
        exact EVret trivial
end
end Go.Proofs.YtoihpjpgihhcjaaR
