/- Evf08YD: a part of the proof. -/
import Derived.Test.YtcphpiboamlanaaEvf08YC
open Go Go.Proofs.YtcphpiboamlanaaEv Go.Proofs.YtcphpiboamlanaaR Go.IntWalk
set_option maxRecDepth 20000
set_option maxHeartbeats 16000000
set_option linter.unusedVariables false
set_option linter.unusedSimpArgs false
namespace Go.Proofs.YtcphpiboamlanaaR
def encS (x : ByteArray) : List PV := [.str x]
theorem mid_S {m p r : List ByteArray} {x : ByteArray} (h : p ++ x :: r = m) : (flat encS m).drop p.length = .str x :: flat encS r := by
  subst h
  have := flat_drop (enc := encS) (es := 1) (fun _ => rfl) (p ++ x :: r) p.length
  rw [Nat.mul_one] at this
  rw [this, List.drop_left]
  rfl
theorem at_I {l : List Int} {i : Nat} (hi : i < l.length) : (flat encI l).drop i = .int .i64 (l.getD i 0) :: flat encI (l.drop (i + 1)) := by
  have e := mid_I (m := l) (p := l.take i) (r := l.drop (i + 1)) (x := l[i]) (by rw [← List.drop_eq_getElem_cons hi, List.take_append_drop])
  rw [List.length_take_of_le (by omega)] at e
  rw [e, List.getD_eq_getElem?_getD, List.getElem?_eq_getElem hi]
  rfl
theorem snoc_lenS (p : List ByteArray) (x : ByteArray) : (p ++ [x]).length = p.length + 1 := by simp
theorem kinds_nil {b : Bd} (h : b.m = []) : kindsB b = [] := by unfold kindsB; rw [h]; rfl
theorem outs_nil {b : Bd} (h : Ok b) (hm : b.m = []) : b.o.length = 0 := by
  cases ho : b.o with
  | nil => rfl
  | cons p r =>
    have := h.o p (by rw [ho]; simp)
    unfold OOk at this
    rw [hm] at this
    have d0 : deep [] = 0 := rfl
    rw [d0] at this
    omega
theorem inv_lit {b : Bd} {n : Nat} {K : List Int} (h : InvB b n K) (hn : n + 1 ≤ 4096) (a : Int) : InvB ⟨b.c ++ [(0, a)], b.m, b.o⟩ (n + 2) K := by
  have hl := h.ln
  have lc : (b.c ++ [((0 : Int), a)]).length = b.c.length + 1 := snoc_len _ _
  refine ⟨⟨by show (b.c ++ _).length ≤ _; omega, fun p hp => ?_, fun p hp => ?_⟩, ?_, by show (b.c ++ _).length ≤ _; omega, h.k, by have := h.m; show b.m.length ≤ _; omega, by have := h.o; show b.o.length ≤ _; omega⟩
  · show MOk (b.c ++ _).length p
    rw [lc]
    exact (h.ok.m p hp).mono (by omega)
  · show OOk (deep b.m) (b.c ++ _).length p
    rw [lc]
    exact (h.ok.o p hp).mono (by omega) (by omega)
  · show Jn (b.c ++ _).length (b.c ++ _)
    rw [lc]
    exact (h.j.mono (Nat.le_succ _)).snoc fun q => by cases q
section
variable {cf : CF} (hcf : cf = ev env)
include hcf
theorem s7 (l : List ByteArray) (at_ : List Int) : Sp cf 7 [.sl l.length false (flat encS l), slI at_] (.bool true) := by
  have h9 := s9 hcf
  refine sp_of hcf env7 ?_
  by_cases hl : l.length ≤ 60
  · have hl' : ¬ (l.length : Int) > 60 := by omega
    by_cases ha : at_.length ≤ 60
    · have ha' : ¬ (at_.length : Int) > 60 := by omega
      simp only [slI]
      conv => arg 2; simp only [ir7]
      conv => arg 3; simp only [ir7, Go.Proofs.YtcphpiboamlanaaEv.start, List.length, Nat.reduceAdd, Nat.reduceSub, List.reduceReplicate, List.append_eq, List.cons_append, List.nil_append]
      conv => arg 4; simp only [heapOf]
      try conv => arg 5; simp only [List.length, Nat.reduceAdd]
      try conv => arg 6; simp only [List.length, Nat.reduceAdd]
      refine EVgo9 (And.intro (hl') (ha')) (h9) trivial trivial trivial trivial trivial trivial trivial trivial trivial trivial ?_
      refine WC.loop (T' := _) (H' := _) (n' := _) rfl ((?_ : ∀ (r p : List ByteArray) (b : Bd) (v1 v2 v3 : PV), p ++ r = l → InvB b (2 * p.length) (kindsB b) → Box3 p b v1 v2 v3 →
        WC cf _ (mkT 134 [(0, .sl l.length false (flat encS l)), (1, .sl at_.length false (flat encI at_)), (5, .bool true), (6, .ptr 0 0), (7, .int .i64 (p.length : Nat))]) [(0, .box [v1, v2, v3])] 0 1 _) l [] emp .nil .nil .nil rfl inv_emp (.inr ⟨rfl, rfl, rfl, rfl, rfl⟩))
      intro r
      induction r with
      | nil =>
        intro p b v1 v2 v3 hp hb hv
        rw [List.append_nil] at hp
        subst hp
        have hfew := hb.few (by omega)
        have h11 := s11 hcf b hfew
        by_cases hm : b.m = []
        · have hbn : InvB b (2 * p.length) [] := by rw [kinds_nil hm] at hb; exact hb
          obtain ⟨he, hwh⟩ := end_ok hbn (by omega)
          have hlen : (b.c ++ [((4 : Int), (0 : Int))]).length ≤ 1000000 := by have := hb.ln; rw [snoc_len]; omega
          have h12 := s12 hcf (b.c ++ [(4, 0)]) hlen
          rw [he] at h11
          rw [hwh] at h12
          have lz : (b.c ++ [((4 : Int), (0 : Int))]).length = b.c.length + 1 := snoc_len _ _
          have w1 : IntKind.i64.wrap ((b.c.length : Int) + 1) = ((b.c.length + 1 : Nat) : Int) := by rw [i64_in _ (by have := hb.ln; omega)]; simp
          have g1 : (((b.c.length + 1 : Nat) : Int) == ((b.c.length + 1 : Nat) : Int)) = true := beq_self_eq_true _
          have ho0 := outs_nil hb.ok hm
          have g2 : ((b.o.length : Int) == 0) = true := by rw [ho0]; rfl
          have hv' := hv
          generalize hz : b.c ++ [((4 : Int), (0 : Int))] = z at *
          simp only [encEnd, bE, slP, lz] at h11 h12
          rcases hv with ⟨rfl, rfl, rfl⟩ | ⟨rfl, rfl, rfl, rfl, rfl⟩
          · conv => arg 3; simp only [mkT, putT, List.reduceReplicate, List.set]
            refine EVgl9 trivial trivial trivial trivial trivial trivial trivial trivial trivial trivial trivial trivial ?_
            refine EVgo9 (And.intro (w1) ( And.intro (g1) (g2))) (h11) (h12) trivial trivial trivial trivial trivial trivial trivial trivial trivial ?_
            exact EVret trivial
          · simp only [emp] at h11 h12 hz
            subst hz
            conv => arg 3; simp only [mkT, putT, List.reduceReplicate, List.set]
            refine EVgl9 trivial trivial trivial trivial trivial trivial trivial trivial trivial trivial trivial trivial ?_
            refine EVgl9 trivial (h11) (h12) trivial trivial trivial trivial trivial trivial trivial trivial trivial ?_
            exact EVret trivial
        · have he : endB b = ([], -22) := by
            unfold endB
            rw [ownB_ok hb.ok, if_neg hm]
          rw [he, show encEnd ([], -22) = .tup [.sl 0 false [], .int .i64 (-22)] from rfl] at h11
          have n0 : (b.m.length : Int) > 0 := by
            have : b.m.length ≠ 0 := fun q => hm (List.length_eq_zero_iff.1 q)
            omega
          rcases hv with ⟨rfl, rfl, rfl⟩ | ⟨rfl, rfl, rfl, rfl, rfl⟩
          · simp only [bE, slP] at h11
            conv => arg 3; simp only [mkT, putT, List.reduceReplicate, List.set]
            refine EVgl9 trivial trivial trivial trivial trivial trivial trivial trivial trivial trivial trivial trivial ?_
            refine EVgo9 (n0) (h11) trivial trivial trivial trivial trivial trivial trivial trivial trivial trivial ?_
            exact EVret trivial
          · exact absurd rfl hm
      | cons x r ih =>
        intro p b v1 v2 v3 hp hb hv
        have hlen : l.length = p.length + (r.length + 1) := by rw [← hp]; simp
        have hlt : (p.length : Int) < (l.length : Int) := by omega
        have hw : IntKind.i64.wrap ((p.length : Int) + 1) = ((p.length + 1 : Nat) : Int) := by rw [i64_in _ (by omega)]; simp
        have e0 := mid_S hp
        have hfew := hb.few (by omega)
        rcases hv with ⟨rfl, rfl, rfl⟩ | ⟨rfl, rfl, rfl, rfl, rfl⟩
        · by_cases hx : x.size ≤ 100
          · have hx' : ¬ (x.size : Int) > 100 := by omega
            have h10 := s10 hcf b x hfew (by omega)
            have h18 := s18 hcf b (by have := hfew.m; omega) (by have := hfew.o; omega)
            have h17 := s17 hcf b hfew
            have h14 := s14 hcf (fun _ _ => rfl) b (by have := hfew.m; omega) (by have := hfew.o; omega)
            rw [(saneB_iff b).2 hb.ok] at h14
            have wc := wordB_cases b x
            rw [ownB_ok hb.ok] at wc
            have hn0 : ¬ ((b.c.length : Int) < (b.c.length : Int)) := Int.lt_irrefl _
            rcases wc with e | ⟨k, hk, hwk, h0, e, st⟩ | ⟨k, hk, hwk, h0, e⟩
            · rw [e] at h10
              by_cases hat : p.length < at_.length
              · have hat' : (p.length : Int) < (at_.length : Int) := by omega
                have ea := at_I hat
                generalize at_.getD p.length 0 = av at *
                have h19 := s19 hcf b [(0, av)] hfew (by simp)
                rw [emit_y hb.ok (by show b.c.length + 1 ≤ _; have := hb.ln; omega)] at h19
                have hc := inv_lit hb (by omega) av
                have h14c := s14 hcf (fun _ _ => rfl) ⟨b.c ++ [(0, av)], b.m, b.o⟩ (by have := hfew.m; show b.m.length ≤ _; omega) (by have := hfew.o; show b.o.length ≤ _; omega)
                rw [(saneB_iff _).2 hc.ok] at h14c
                have hih := ih (p ++ [x]) _ _ _ _ (by rw [List.append_assoc]; exact hp) ((hc.up (by rw [snoc_lenS]; omega))) (.inl ⟨rfl, rfl, rfl⟩)
                rw [snoc_lenS] at hih
                have lc : (b.c ++ [((0 : Int), av)]).length = b.c.length + 1 := snoc_len _ _
                have hn1 : ¬ (((b.c.length + 1 : Nat) : Int) < (b.c.length : Int)) := by omega
                simp only [encWord, encEmit, bE, slP, lc] at h10 h19 h14c hih hn1
                conv => arg 3; simp only [mkT, putT, List.reduceReplicate, List.set]
                refine EVgo9 (And.intro (hlt) ( And.intro (e0) (hx'))) trivial trivial trivial trivial trivial trivial trivial trivial trivial trivial trivial ?_
                refine EVgo9 (hx') (h10) trivial trivial trivial trivial trivial trivial trivial trivial trivial trivial ?_
                refine EVgo9 (And.intro (hat') (ea)) (h19) trivial trivial trivial trivial trivial trivial trivial trivial trivial trivial ?_
                refine EVgo9 (And.intro (hn1) (hw)) (h14c) trivial trivial trivial trivial trivial trivial trivial trivial trivial trivial ?_
                exact WC.loop rfl hih
              · have hat' : ¬ (p.length : Int) < (at_.length : Int) := by omega
                have hih := ih (p ++ [x]) _ _ _ _ (by rw [List.append_assoc]; exact hp) ((hb.up (by rw [snoc_lenS]; omega))) (.inl ⟨rfl, rfl, rfl⟩)
                rw [snoc_lenS] at hih
                simp only [encWord, bE, slP] at h10 h14 hih
                conv => arg 3; simp only [mkT, putT, List.reduceReplicate, List.set]
                refine EVgo9 (And.intro (hlt) ( And.intro (e0) (hx'))) trivial trivial trivial trivial trivial trivial trivial trivial trivial trivial trivial ?_
                refine EVgo9 (hx') (h10) trivial trivial trivial trivial trivial trivial trivial trivial trivial trivial ?_
                refine EVgo9 (And.intro (hat') ( And.intro (hw) (hn0))) (h14) trivial trivial trivial trivial trivial trivial trivial trivial trivial trivial ?_
                exact WC.loop rfl hih
            · rw [e] at h10
              have hc := inv_of hb st rfl
              have hl := st.len
              have h14c := s14 hcf (fun _ _ => rfl) (wordF k b).2 (by have := st.m1; have := hfew.m; omega) (by have := st.o1; have := hfew.o; omega)
              rw [(saneB_iff _).2 st.ok] at h14c
              generalize (wordF k b).2 = c at *
              have hn1 : ¬ ((c.c.length : Int) < (b.c.length : Int)) := by omega
              have hih := ih (p ++ [x]) _ _ _ _ (by rw [List.append_assoc]; exact hp) ((hc.up (by rw [snoc_lenS]; omega))) (.inl ⟨rfl, rfl, rfl⟩)
              rw [snoc_lenS] at hih
              simp only [encWord, bE, slP] at h10 h14c hn1
              conv => arg 3; simp only [mkT, putT, List.reduceReplicate, List.set]
              refine EVgo9 (And.intro (hlt) ( And.intro (e0) (hx'))) trivial trivial trivial trivial trivial trivial trivial trivial trivial trivial trivial ?_
              refine EVgo9 (And.intro (hx') ( And.intro (hn1) (hw))) (h10) (h14c) trivial trivial trivial trivial trivial trivial trivial trivial trivial ?_
              exact WC.loop rfl hih
            · rw [e] at h10
              have e9 : ((wordF k b).1 != 0) = true := bne_iff_ne.2 (by omega)
              generalize (wordF k b).1 = er at *
              have hih := ih (p ++ [x]) _ _ _ _ (by rw [List.append_assoc]; exact hp) ((hb.up (by rw [snoc_lenS]; omega))) (.inl ⟨rfl, rfl, rfl⟩)
              rw [snoc_lenS] at hih
              simp only [encWord, bE, slP] at h10 h14 h17 h18 hih
              conv => arg 3; simp only [mkT, putT, List.reduceReplicate, List.set]
              refine EVgo9 (And.intro (hlt) ( And.intro (e0) (hx'))) trivial trivial trivial trivial trivial trivial trivial trivial trivial trivial trivial ?_
              refine EVgo9 (And.intro (hx') (e9)) (h10) (h18) trivial trivial trivial trivial trivial trivial trivial trivial trivial ?_
              refine EVgo9 (And.intro (hn0) (hw)) (h18) (h17) (h14) trivial trivial trivial trivial trivial trivial trivial trivial ?_
              exact WC.loop rfl hih
          · have hx' : (x.size : Int) > 100 := by omega
            conv => arg 3; simp only [mkT, putT, List.reduceReplicate, List.set]
            refine EVgo9 (And.intro (hlt) ( And.intro (e0) (hx'))) trivial trivial trivial trivial trivial trivial trivial trivial trivial trivial trivial ?_
            exact EVret trivial
        · have e0' : flat encS l = .str x :: flat encS r := by simpa using e0
          have hw0 : IntKind.i64.wrap (1 : Int) = 1 := by decide
          have hlt0 : (0 : Int) < (l.length : Int) := by omega
          by_cases hx : x.size ≤ 100
          · have hx' : ¬ (x.size : Int) > 100 := by omega
            have h10 := s10 hcf emp x hfew (by omega)
            have h18 := s18 hcf emp (by have := hfew.m; omega) (by have := hfew.o; omega)
            have h17 := s17 hcf emp hfew
            have h14 := s14 hcf (fun _ _ => rfl) emp (by have := hfew.m; omega) (by have := hfew.o; omega)
            rw [(saneB_iff emp).2 hb.ok] at h14
            have wc := wordB_cases emp x
            rw [ownB_ok hb.ok] at wc
            have hn0 : ¬ ((emp.c.length : Int) < (emp.c.length : Int)) := Int.lt_irrefl _
            rcases wc with e | ⟨k, hk, hwk, h0, e, st⟩ | ⟨k, hk, hwk, h0, e⟩
            · rw [e] at h10
              by_cases hat : ([] : List ByteArray).length < at_.length
              · have hat' : (([] : List ByteArray).length : Int) < (at_.length : Int) := by omega
                have ea := at_I hat
                generalize at_.getD ([] : List ByteArray).length 0 = av at *
                have h19 := s19 hcf emp [(0, av)] hfew (by simp)
                rw [emit_y hb.ok (by show emp.c.length + 1 ≤ _; have := hb.ln; omega)] at h19
                have hc := inv_lit hb (by omega) av
                have h14c := s14 hcf (fun _ _ => rfl) ⟨emp.c ++ [(0, av)], emp.m, emp.o⟩ (by have := hfew.m; show emp.m.length ≤ _; omega) (by have := hfew.o; show emp.o.length ≤ _; omega)
                rw [(saneB_iff _).2 hc.ok] at h14c
                have hih := ih (([] : List ByteArray) ++ [x]) _ _ _ _ (by rw [List.append_assoc]; exact hp) ((hc.up (by rw [snoc_lenS]; omega))) (.inl ⟨rfl, rfl, rfl⟩)
                rw [snoc_lenS] at hih
                have lc : (emp.c ++ [((0 : Int), av)]).length = emp.c.length + 1 := snoc_len _ _
                have hn1 : ¬ (((emp.c.length + 1 : Nat) : Int) < (emp.c.length : Int)) := by omega
                simp only [encWord, encEmit, bE, slP, lc, emp, List.nil_append] at h10 h19 h14c hih hn1
                have hat0 : (0 : Int) < (at_.length : Int) := by rw [List.length_nil] at hat; omega
                have ea' : flat encI at_ = .int .i64 av :: flat encI (at_.drop 1) := by simpa using ea
                conv => arg 3; simp only [mkT, putT, List.reduceReplicate, List.set]
                refine EVgo9 (And.intro (hlt0) ( And.intro (e0') (hx'))) trivial trivial trivial trivial trivial trivial trivial trivial trivial trivial trivial ?_
                refine EVgo9 (hx') (h10) trivial trivial trivial trivial trivial trivial trivial trivial trivial trivial ?_
                refine EVgo9 (And.intro (hat0) (ea')) (h19) trivial trivial trivial trivial trivial trivial trivial trivial trivial trivial ?_
                refine EVgo9 (And.intro (hn1) (hw0)) (h14c) trivial trivial trivial trivial trivial trivial trivial trivial trivial trivial ?_
                first | rw [← e0'] | skip
                first | rw [← ea'] | skip
                exact WC.loop rfl hih
              · have hat' : ¬ (([] : List ByteArray).length : Int) < (at_.length : Int) := by omega
                have hih := ih (([] : List ByteArray) ++ [x]) _ _ _ _ (by rw [List.append_assoc]; exact hp) ((hb.up (by rw [snoc_lenS]; omega))) (.inl ⟨rfl, rfl, rfl⟩)
                rw [snoc_lenS] at hih
                simp only [encWord, bE, slP, emp] at h10 h14 hih
                have hat0 : ¬ (0 : Int) < (at_.length : Int) := by rw [List.length_nil] at hat; omega
                conv => arg 3; simp only [mkT, putT, List.reduceReplicate, List.set]
                refine EVgo9 (And.intro (hlt0) ( And.intro (e0') (hx'))) trivial trivial trivial trivial trivial trivial trivial trivial trivial trivial trivial ?_
                refine EVgo9 (hx') (h10) trivial trivial trivial trivial trivial trivial trivial trivial trivial trivial ?_
                refine EVgo9 (And.intro (hat0) ( And.intro (hw0) (hn0))) (h14) trivial trivial trivial trivial trivial trivial trivial trivial trivial trivial ?_
                first | rw [← e0'] | skip
                exact WC.loop rfl hih
            · rw [e] at h10
              have hc := inv_of hb st rfl
              have hl := st.len
              have h14c := s14 hcf (fun _ _ => rfl) (wordF k emp).2 (by have := st.m1; have := hfew.m; omega) (by have := st.o1; have := hfew.o; omega)
              rw [(saneB_iff _).2 st.ok] at h14c
              generalize (wordF k emp).2 = c at *
              have hn1 : ¬ ((c.c.length : Int) < (emp.c.length : Int)) := by omega
              have hih := ih (([] : List ByteArray) ++ [x]) _ _ _ _ (by rw [List.append_assoc]; exact hp) ((hc.up (by rw [snoc_lenS]; omega))) (.inl ⟨rfl, rfl, rfl⟩)
              rw [snoc_lenS] at hih
              simp only [encWord, bE, slP, emp] at h10 h14c hn1
              conv => arg 3; simp only [mkT, putT, List.reduceReplicate, List.set]
              refine EVgo9 (And.intro (hlt0) ( And.intro (e0') (hx'))) trivial trivial trivial trivial trivial trivial trivial trivial trivial trivial trivial ?_
              refine EVgo9 (And.intro (hx') ( And.intro (hn1) (hw0))) (h10) (h14c) trivial trivial trivial trivial trivial trivial trivial trivial trivial ?_
              first | rw [← e0'] | skip
              exact WC.loop rfl hih
            · rw [e] at h10
              have e9 : ((wordF k emp).1 != 0) = true := bne_iff_ne.2 (by omega)
              generalize (wordF k emp).1 = er at *
              have hih := ih (([] : List ByteArray) ++ [x]) _ _ _ _ (by rw [List.append_assoc]; exact hp) ((hb.up (by rw [snoc_lenS]; omega))) (.inl ⟨rfl, rfl, rfl⟩)
              rw [snoc_lenS] at hih
              simp only [encWord, bE, slP, emp] at h10 h14 h17 h18 hih
              conv => arg 3; simp only [mkT, putT, List.reduceReplicate, List.set]
              refine EVgo9 (And.intro (hlt0) ( And.intro (e0') (hx'))) trivial trivial trivial trivial trivial trivial trivial trivial trivial trivial trivial ?_
              refine EVgo9 (And.intro (hx') (e9)) (h10) (h18) trivial trivial trivial trivial trivial trivial trivial trivial trivial ?_
              refine EVgo9 (And.intro (hn0) (hw0)) (h18) (h17) (h14) trivial trivial trivial trivial trivial trivial trivial trivial ?_
              first | rw [← e0'] | skip
              exact WC.loop rfl hih
          · have hx' : (x.size : Int) > 100 := by omega
            conv => arg 3; simp only [mkT, putT, List.reduceReplicate, List.set]
            refine EVgo9 (And.intro (hlt0) ( And.intro (e0') (hx'))) trivial trivial trivial trivial trivial trivial trivial trivial trivial trivial trivial ?_
            exact EVret trivial
    · have ha' : (at_.length : Int) > 60 := by omega
      simp only [slI]
      conv => arg 2; simp only [ir7]
      conv => arg 3; simp only [ir7, Go.Proofs.YtcphpiboamlanaaEv.start, List.length, Nat.reduceAdd, Nat.reduceSub, List.reduceReplicate, List.append_eq, List.cons_append, List.nil_append]
      conv => arg 4; simp only [heapOf]
      try conv => arg 5; simp only [List.length, Nat.reduceAdd]
      try conv => arg 6; simp only [List.length, Nat.reduceAdd]
      refine EVgo9 (And.intro (hl') (ha')) (h9) trivial trivial trivial trivial trivial trivial trivial trivial trivial trivial ?_
      exact EVret trivial
  · have hl' : (l.length : Int) > 60 := by omega
    simp only [slI]
    conv => arg 2; simp only [ir7]
    conv => arg 3; simp only [ir7, Go.Proofs.YtcphpiboamlanaaEv.start, List.length, Nat.reduceAdd, Nat.reduceSub, List.reduceReplicate, List.append_eq, List.cons_append, List.nil_append]
    conv => arg 4; simp only [heapOf]
    try conv => arg 5; simp only [List.length, Nat.reduceAdd]
    try conv => arg 6; simp only [List.length, Nat.reduceAdd]
    refine EVgo9 (hl') (h9) trivial trivial trivial trivial trivial trivial trivial trivial trivial trivial ?_
    exact EVret trivial
end
end Go.Proofs.YtcphpiboamlanaaR
