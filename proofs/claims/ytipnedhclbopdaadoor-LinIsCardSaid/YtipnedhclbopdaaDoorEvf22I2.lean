/- The document's search. -/
import Derived.Test.YtipnedhclbopdaaDoorEvf22I1
import Derived.Test.YtipnedhclbopdaaDoorEvf22P3
open Go Go.Proofs.YtipnedhclbopdaaDoorEv Go.Proofs.YtipnedhclbopdaaDoorR Go.IntWalk Go.Proofs
set_option maxRecDepth 20000
set_option maxHeartbeats 8000000
set_option linter.unusedVariables false
set_option linter.unusedSimpArgs false
namespace Go.Proofs.YtipnedhclbopdaaDoorR
abbrev Rec2 := List Bool → List Int → Bool
def exL (rec : Rec2) (l : List Ot) (n : Int) (d : List Bool) (h : List Int) : Nat → List Ot → Bool
  | _, [] => false
  | k, o :: r =>
    if afterN l d k = true then
      if (applyT h o n).2 = true then
        if rec (d.set k true) (applyT h o n).1 = true then true
        else exL rec l n d h (k + 1) r
      else exL rec l n d h (k + 1) r
    else exL rec l n d h (k + 1) r
def ex (l : List Ot) (n : Int) : Nat → Rec2
  | 0 => fun _ _ => false
  | m + 1 => fun d h => if leftL d 0 l = true then exL (ex l n m) l n d h 0 l else true
theorem ex_spec (l : List Ot) (n : Int) : ∀ (m : Nat) (d : List Bool) (h : List Int), d.length = l.length → cntF d < m → (ex l n m d h = true ↔ Ord l n d h) := by
  intro m
  induction m with
  | zero => intro d h _ hm; omega
  | succ m ih =>
  intro d h hd hm
  rw [ex]
  dsimp only
  by_cases hl : ¬ (leftL d 0 l = true)
  · rw [if_neg hl]
    exact ⟨fun _ => .stop (by simpa using hl), fun _ => rfl⟩
  have hl := Decidable.not_not.1 hl
  rw [if_pos hl]
  have loop : ∀ (r p : List Ot), p ++ r = l →
      (exL (ex l n m) l n d h p.length r = true ↔ ∃ k, p.length ≤ k ∧ k < l.length ∧ afterN l d k = true ∧ (applyT h (l.getD k nilT) n).2 = true ∧ Ord l n (d.set k true) (applyT h (l.getD k nilT) n).1) := by
    intro r
    induction r with
    | nil =>
      intro p hp
      rw [List.append_nil] at hp
      subst hp
      rw [exL]
      exact ⟨fun q => (by cases q), fun ⟨k, h1, h2, _⟩ => by omega⟩
    | cons o r ih2 =>
      intro p hp
      have hpl : p.length < l.length := by rw [← hp]; simp
      have hgd := getD_suffix hp
      have q1 := ih2 (p ++ [o]) (by rw [List.append_assoc]; exact hp)
      rw [snoc_len] at q1
      rw [exL]
      by_cases hA : ¬ (afterN l d p.length = true)
      · rw [if_neg hA]
        refine q1.trans ⟨fun ⟨k, h1, h2⟩ => ⟨k, by omega, h2⟩, fun ⟨k, h1, h2, h3, h4⟩ => ⟨k, ?_, h2, h3, h4⟩⟩
        rcases Nat.lt_or_ge p.length k with h5 | h5
        · omega
        · have : k = p.length := by omega
          subst this; exact absurd h3 hA
      have hA := Decidable.not_not.1 hA
      rw [if_pos hA]
      by_cases hB : ¬ ((applyT h o n).2 = true)
      · rw [if_neg hB]
        refine q1.trans ⟨fun ⟨k, h1, h2⟩ => ⟨k, by omega, h2⟩, fun ⟨k, h1, h2, h3, h4, h5⟩ => ⟨k, ?_, h2, h3, h4, h5⟩⟩
        rcases Nat.lt_or_ge p.length k with h6 | h6
        · omega
        · have : k = p.length := by omega
          subst this; rw [hgd] at h4; exact absurd h4 hB
      have hB := Decidable.not_not.1 hB
      rw [if_pos hB]
      have hcnt := cntF_set d p.length (by rw [hd]; exact hpl) (after_not hA)
      have r1 := ih (d.set p.length true) (applyT h o n).1 (by rw [List.length_set]; exact hd) (by omega)
      by_cases hz : ex l n m (d.set p.length true) (applyT h o n).1 = true
      · rw [if_pos hz]
        exact ⟨fun _ => ⟨p.length, Nat.le_refl _, hpl, hA, by rw [hgd]; exact hB, by rw [hgd]; exact r1.1 hz⟩, fun _ => rfl⟩
      · rw [if_neg hz]
        refine q1.trans ⟨fun ⟨k, h1, h2⟩ => ⟨k, by omega, h2⟩, fun ⟨k, h1, h2, h3, h4, h5⟩ => ⟨k, ?_, h2, h3, h4, h5⟩⟩
        rcases Nat.lt_or_ge p.length k with h6 | h6
        · omega
        · have : k = p.length := by omega
          subst this; rw [hgd] at h5; exact absurd (r1.2 h5) hz
  refine (loop l [] rfl).trans ⟨fun ⟨k, _, h2, h3, h4, h5⟩ => .step k h2 h3 h4 h5, fun q => ?_⟩
  cases q with
  | stop e => rw [hl] at e; cases e
  | step k h2 h3 h4 h5 => exact ⟨k, Nat.zero_le _, h2, h3, h4, h5⟩
theorem ex_search (l : List Ot) (n : Int) : ex l n (l.length + 1) (fresh l) [] = searchT l n := by
  have h1 := ex_spec l n (l.length + 1) (fresh l) [] (by simp [fresh]) (by rw [fresh_cnt]; omega)
  exact Bool.eq_iff_iff.2 (h1.trans (search_iff l n).symm)
section
variable {cf : CF} (hcf : cf = ev env)
include hcf
theorem s30 (d : List Bool) (k : Nat) (hk : k < d.length) (hd : d.length ≤ 1000) : Sp cf 30 [slB d, .int .i64 (k : Nat)] (slB (d.set k true)) := by
  have e1 := lenB d
  have e2 := allB d
  have hs := setB d k hk
  have hk' : (k : Int) < (d.length : Int) := by omega
  have hall := allB (d.set k true)
  rw [List.length_set] at hall
  refine sp_of hcf env30 ?_
  simp only [slB, List.length_set]
  conv => arg 2; simp only [ir30]
  conv => arg 3; simp only [ir30, Go.Proofs.YtipnedhclbopdaaDoorEv.start, List.length, Nat.reduceAdd, Nat.reduceSub, List.reduceReplicate, List.append_eq, List.cons_append, List.nil_append]
  conv => arg 4; simp only [heapOf]
  try conv => arg 5; simp only [List.length, Nat.reduceAdd]
  try conv => arg 6; simp only [List.length, Nat.reduceAdd]
  refine EVgo9 (And.intro (e1) ( And.intro (e2) (hk'))) trivial trivial trivial trivial trivial trivial trivial trivial trivial trivial trivial ?_
  first | refine WO.step (k_store_row rfl rfl rfl rfl (by rw [lenB]; omega) rfl) ?_ | refine WOc.step (k_store_row rfl rfl rfl rfl (by rw [lenB]; omega) rfl) ?_
  conv => arg 2; simp only [setOpt, List.set, Nat.reduceLT, Int.reduceToNat, List.drop_drop, valT, List.getD_cons_zero, List.getD_cons_succ, Int.reduceLT, Int.reduceLE, Int.reduceAdd, Int.reduceSub, Int.reduceMul, Int.reduceNeg, Int.reduceEq, Int.reduceNe, Int.cast_ofNat_Int, Int.natCast_zero, Int.natCast_one, ge_iff_le, gt_iff_lt, decide_true, decide_false, Bool.not_true, Bool.not_false, Int.toNat_natCast, Nat.sub_zero, Nat.mul_one, Option.isSome_some, Option.isSome_none, Bool.false_eq_true, Bool.and_true, Bool.true_and, Bool.and_false, Bool.false_and, Nat.zero_add, Nat.zero_mul, List.drop_zero, reduceIte, setRange, PV.cells, fillB, List.take, List.drop, List.append_eq, List.cons_append, List.nil_append, List.length, List.map, List.zip, List.zipWith, List.replicate, List.flatten, Nat.reduceAdd, Nat.reduceMul, Nat.reduceSub, PV.mapId, mapIds, Option.map, Blk.mapId, sigN, sigS, hs]
  try conv => arg 3; simp only [Nat.reduceLT, List.reduceReplicate, List.flatten_cons, List.flatten_nil, List.append_nil, Nat.reduceMul, Nat.mul_one, Nat.one_mul, Nat.zero_mul, Nat.zero_add, List.drop_zero, List.drop_succ_cons, List.drop_nil, List.take_succ_cons, List.take_zero, List.take_nil, List.drop_drop, setRange, PV.cells, valT, List.getD_cons_zero, List.getD_cons_succ, List.take, List.length, Nat.reduceAdd, List.nil_append, applyU, hset, hdel, Nat.reduceEqDiff, reduceIte, List.append_eq, List.cons_append, List.nil_append, frz, rowsOf, updsNew, updsAt, sigN, sigS, PV.mapId, mapIds, Option.map, Blk.mapId, List.drop, heapOf, hs]
  conv => arg 5; simp only [stride, Nat.reduceAdd]
  refine EVgo9 trivial trivial trivial trivial trivial trivial trivial trivial trivial trivial trivial trivial ?_
  exact EVret (hall)
theorem s22 (l : List Ot) (n : Int) (hl8 : l.length ≤ 8) (hl : ∀ x ∈ l, inI (argT x) = true) : ∀ (m : Nat) (d : List Bool) (h : List Int), In l d h → cntF d < m →
    Sp cf 22 [slT l, slB d, slI h, .int .i64 n] (.bool (ex l n m d h)) := by
  intro m
  induction m with
  | zero => intro d h hin hm; omega
  | succ m ih =>
  intro d h hin hm
  have dlen : d.length ≤ 1000 := by rw [hin.len]; omega
  refine sp_of hcf env22 ?_
  rw [ex]
  dsimp only
  simp only [slB, slT, slI]
  generalize hR : (if leftL d 0 l = true then exL (ex l n m) l n d h 0 l else true) = R
  generalize hL : leftL d 0 l = L at hR
  conv => arg 2; simp only [ir22]
  conv => arg 3; simp only [ir22, Go.Proofs.YtipnedhclbopdaaDoorEv.start, List.length, Nat.reduceAdd, Nat.reduceSub, List.reduceReplicate, List.append_eq, List.cons_append, List.nil_append]
  conv => arg 4; simp only [heapOf]
  try conv => arg 5; simp only [List.length, Nat.reduceAdd]
  try conv => arg 6; simp only [List.length, Nat.reduceAdd]
  refine EVgo9 trivial trivial trivial trivial trivial trivial trivial trivial trivial trivial trivial trivial ?_
  refine WC.loop (T' := _) (H' := _) (n' := _) rfl ((?_ : ∀ (r p : List Ot) (b : Bool), p ++ r = l → (!b || leftL d p.length r) = L →
    WC cf _ (mkT 67 [(0, .sl l.length false (flat encT l)), (1, .sl d.length false (flat encB d)), (2, .sl h.length false (flat encI h)), (3, .int .i64 n), (9, .bool b), (10, .int .i64 (p.length : Nat))]) [] 0 0 _) l [] true rfl (by simpa using hL))
  intro r
  induction r with
  | nil =>
    intro p b hp hb
    rw [List.append_nil] at hp
    have hpl : p.length = l.length := by rw [hp]
    rw [hpl]
    clear hpl hp
    have hb' : L = !b := by rw [← hb]; simp [leftL]
    subst hb'
    clear hb
    cases b with
    | true =>
      rw [if_neg (by simp)] at hR
      subst hR
      conv => arg 3; simp only [mkT, putT, List.reduceReplicate, List.set]
      refine EVgl9 trivial trivial trivial trivial trivial trivial trivial trivial trivial trivial trivial trivial ?_
      exact EVret trivial
    | false =>
      rw [if_pos (by simp)] at hR
      conv => arg 3; simp only [mkT, putT, List.reduceReplicate, List.set]
      refine EVgl9 trivial trivial trivial trivial trivial trivial trivial trivial trivial trivial trivial trivial ?_
      refine WC.loop (T' := _) (H' := _) (n' := _) rfl ((?_ : ∀ (r p : List Ot), p ++ r = l → exL (ex l n m) l n d h p.length r = R →
        WC cf _ (mkT 67 [(0, .sl l.length false (flat encT l)), (1, .sl d.length false (flat encB d)), (2, .sl h.length false (flat encI h)), (3, .int .i64 n), (11, .int .i64 (p.length : Nat))]) [] 0 0 _) l [] rfl hR)
      clear hR
      intro r
      induction r with
      | nil =>
        intro p hp hR
        rw [List.append_nil] at hp
        have hpl : p.length = l.length := by rw [hp]
        rw [hpl]
        clear hpl hp
        rw [exL] at hR
        subst hR
        conv => arg 3; simp only [mkT, putT, List.reduceReplicate, List.set]
        refine EVgl9 trivial trivial trivial trivial trivial trivial trivial trivial trivial trivial trivial trivial ?_
        exact EVret trivial
      | cons x r ih2 =>
        intro p hp hR
        have hx : x ∈ l := by rw [← hp]; simp
        have hlen : l.length = p.length + (r.length + 1) := by rw [← hp]; simp
        have hpl : p.length < l.length := by omega
        have hlt : (p.length : Int) < (l.length : Int) := by omega
        have hw : IntKind.i64.wrap ((p.length : Int) + 1) = ((p.length + 1 : Nat) : Int) := by rw [i64_in _ (by omega)]; simp
        have h18 := s18 hcf l d (p.length : Nat) (by omega) dlen
        have e17 : afterI l d ((p.length : Nat) : Int) = afterN l d p.length := by unfold afterI; rw [if_pos ⟨by omega, hlt⟩, Int.toNat_natCast]
        rw [e17] at h18
        have h12 := s12 hcf h x n (by have := hin.few; omega)
        have h30 := s30 hcf d p.length (by rw [hin.len]; exact hpl) dlen
        have hih := ih2 (p ++ [x]) (by rw [List.append_assoc]; exact hp)
        rw [snoc_len] at hih
        obtain ⟨a, b, c, e, f, g, t⟩ := x
        have eK := mid_T hp
        rw [exL] at hR
        simp only [slB, slT, slI, encT, List.length_set] at h18 h12 h30
        cases hA : afterN l d p.length with
        | false =>
          rw [hA] at h18 hR
          rw [if_neg (by simp)] at hR
          have hih' := hih hR
          conv => arg 3; simp only [mkT, putT, List.reduceReplicate, List.set]
          refine EVgo9 (And.intro (hlt) (hw)) (h18) trivial trivial trivial trivial trivial trivial trivial trivial trivial trivial ?_
          exact WC.loop rfl hih'
        | true =>
          rw [hA] at h18 hR
          rw [if_pos rfl] at hR
          have hnb := after_not hA
          have hin2 := hin.step (o := (a, b, c, e, f, g, t)) n hpl hnb (hl _ hx)
          have hcnt := cntF_set d p.length (by rw [hin.len]; exact hpl) hnb
          have hrec := ih (d.set p.length true) (applyT h (a, b, c, e, f, g, t) n).1 hin2 (by omega)
          simp only [slB, slT, slI, List.length_set] at hrec
          generalize applyT h (a, b, c, e, f, g, t) n = q at h12 hR hrec
          obtain ⟨q1, q2⟩ := q
          simp only at h12 hR hrec
          cases q2 with
          | false =>
            rw [if_neg (by simp)] at hR
            have hih' := hih hR
            conv => arg 3; simp only [mkT, putT, List.reduceReplicate, List.set]
            refine EVgo9 (And.intro (hlt) ( And.intro (hw) (eK))) (h18) (h12) (h30) trivial trivial trivial trivial trivial trivial trivial trivial ?_
            exact WC.loop rfl hih'
          | true =>
            rw [if_pos rfl] at hR
            cases hz : ex l n m (d.set p.length true) q1 with
            | false =>
              rw [hz] at hR hrec
              rw [if_neg (by simp)] at hR
              have hih' := hih hR
              conv => arg 3; simp only [mkT, putT, List.reduceReplicate, List.set]
              refine EVgo9 (And.intro (hlt) ( And.intro (hw) (eK))) (h18) (h12) (h30) (hrec) trivial trivial trivial trivial trivial trivial trivial ?_
              exact WC.loop rfl hih'
            | true =>
              rw [hz] at hR hrec
              rw [if_pos rfl] at hR
              subst hR
              conv => arg 3; simp only [mkT, putT, List.reduceReplicate, List.set]
              refine EVgo9 (And.intro (hlt) ( And.intro (hw) (eK))) (h18) (h12) (h30) (hrec) trivial trivial trivial trivial trivial trivial trivial ?_
              exact EVret trivial
  | cons x r ih2 =>
    intro p b hp hb
    obtain ⟨a, b1, c, e, f, g, t⟩ := x
    have hlen : l.length = p.length + (r.length + 1) := by rw [← hp]; simp
    have hpl : p.length < l.length := by omega
    have hlt : (p.length : Int) < (l.length : Int) := by omega
    have hpd : (p.length : Int) < (d.length : Int) := by rw [hin.len]; exact hlt
    have hw : IntKind.i64.wrap ((p.length : Int) + 1) = ((p.length + 1 : Nat) : Int) := by rw [i64_in _ (by omega)]; simp
    have eK := mid_T hp
    have eB := at_B (l := d) (i := p.length) (by rw [hin.len]; exact hpl)
    have hih := fun b => ih2 (p ++ [(a, b1, c, e, f, g, t)]) b (by rw [List.append_assoc]; exact hp)
    rw [snoc_len] at hih
    have hq0 : d.getD p.length false = isB d p.length := rfl
    rw [hq0] at eB
    rw [leftL] at hb
    cases b with
    | false =>
      have hih' := hih false (by rw [← hb]; rfl)
      conv => arg 3; simp only [mkT, putT, List.reduceReplicate, List.set]
      refine EVgo9 (And.intro (hlt) ( And.intro (hw) ( And.intro (eK) ( And.intro (hpd) (eB))))) trivial trivial trivial trivial trivial trivial trivial trivial trivial trivial trivial ?_
      exact WC.loop rfl hih'
    | true =>
      cases hq : isB d p.length with
      | true =>
        rw [hq] at eB hb
        have hih' := hih true (by rw [← hb]; rfl)
        conv => arg 3; simp only [mkT, putT, List.reduceReplicate, List.set]
        refine EVgo9 (And.intro (hlt) ( And.intro (hw) ( And.intro (eK) ( And.intro (hpd) (eB))))) trivial trivial trivial trivial trivial trivial trivial trivial trivial trivial trivial ?_
        exact WC.loop rfl hih'
      | false =>
        rw [hq] at eB hb
        by_cases ht : t < 0
        · have hE : endT (a, b1, c, e, f, g, t) = false := decide_eq_false (by show ¬ 0 ≤ t; omega)
          rw [hE] at hb
          have hih' := hih true (by rw [← hb]; rfl)
          conv => arg 3; simp only [mkT, putT, List.reduceReplicate, List.set]
          refine EVgo9 (And.intro (hlt) ( And.intro (hw) ( And.intro (eK) ( And.intro (hpd) ( And.intro (eB) (ht)))))) trivial trivial trivial trivial trivial trivial trivial trivial trivial trivial trivial ?_
          exact WC.loop rfl hih'
        · have hE : endT (a, b1, c, e, f, g, t) = true := decide_eq_true (by show 0 ≤ t; omega)
          rw [hE] at hb
          have hih' := hih false (by rw [← hb]; rfl)
          conv => arg 3; simp only [mkT, putT, List.reduceReplicate, List.set]
          refine EVgo9 (And.intro (hlt) ( And.intro (hw) ( And.intro (eK) ( And.intro (hpd) ( And.intro (eB) (ht)))))) trivial trivial trivial trivial trivial trivial trivial trivial trivial trivial trivial ?_
          exact WC.loop rfl hih'
end
end Go.Proofs.YtipnedhclbopdaaDoorR
