/- Evf17F5: a part of the proof. -/
import Derived.Test.YtppnijapeepbnaaEvf17F4
open Go Go.Proofs.YtppnijapeepbnaaEv Go.Proofs.YtppnijapeepbnaaR Go.IntWalk Go.Proofs
set_option maxRecDepth 20000
set_option maxHeartbeats 16000000
set_option linter.unusedVariables false
set_option linter.unusedSimpArgs false
namespace Go.Proofs.YtppnijapeepbnaaR
theorem putL_len (l : List Np) (x : Np) : (putL l x).length ≤ 9 := by
  have h := saneL_fit l
  have hs := h.len
  rw [putL_eq]
  split
  · rw [putF_len _ _ h.srt]; omega
  · omega
theorem next_tup (m : List Np) : ∃ n b, nextN m = .tup [.int .i64 n, .bool b] := by
  cases m with
  | nil => exact ⟨_, _, rfl⟩
  | cons x m => exact ⟨_, _, rfl⟩
theorem norm_int {v : PV} {k : IntKind} {n : Int} (h : v.norm = .int k n) : v = .int k n := by
  cases v <;> simp [PV.norm] at h ⊢ <;> exact h
section
variable {cf : CF} (hcf : cf = ev env)
include hcf
theorem s9 (l : List Np) (t : Int) (hl : l.length ≤ 1000000) : Sp cf 9 [slN l, .int .i64 t] (dueP t l) := ⟨fun xs hi hn => by
  subst hcf
  cases xs with
  | nil => simp [norms] at hn
  | cons v xs =>
    cases xs with
    | nil => simp [norms] at hn
    | cons w xs =>
      cases xs with
      | cons u xs => simp [norms] at hn
      | nil =>
        simp only [norms, List.cons.injEq, and_true] at hn
        obtain ⟨h1, h2⟩ := hn
        obtain rfl := norm_int h2
        refine ev_prim env9 _ _ ?_
        unfold dueG
        simp only [h1, slN, decN_enc]
        rw [if_pos ⟨trivial, hl⟩]⟩
theorem s7 : Sp cf 7 [] (.bool true) := by
  have h1 := s8 hcf [] (1, 5) (by decide) (by decide)
  have h2 := s8 hcf [(1, 5)] (2, 3) (by decide) (by decide)
  have h3 := s9 hcf [(2, 3), (1, 5)] 4 (by decide)
  have h4 := s18 hcf [(2, 3), (1, 5)] (by decide)
  have h5 := s10 hcf env_but [(2, 3), (1, 5)] (by decide)
  rw [show putL [] (1, 5) = [(1, 5)] by decide, show putOk [] (1, 5) = true by decide] at h1
  rw [show putL [(1, 5)] (2, 3) = [(2, 3), (1, 5)] by decide, show putOk [(1, 5)] (2, 3) = true by decide] at h2
  rw [show dueP 4 [(2, 3), (1, 5)] = .tup [slN [(1, 5)], .sl 1 false [.int .i64 2]] from by
    unfold dueP
    rw [show restL 4 [(2, 3), (1, 5)] = [(1, 5)] by decide, show dueL 4 (saneL [(2, 3), (1, 5)]) = [(2, 3)] by decide]
    rfl] at h3
  rw [show saneL [(2, 3), (1, 5)] = [(2, 3), (1, 5)] by decide] at h4
  rw [show saneB [(2, 3), (1, 5)] = true by decide] at h5
  refine sp_of hcf env7 ?_
  simp only [nextN, slN, List.length, flat, encN, List.map, List.flatten, List.append, Nat.reduceAdd, List.cons_append, List.nil_append, List.append_eq] at h1 h2 h3 h4 h5
  conv => arg 2; simp only [ir7]
  conv => arg 3; simp only [ir7, Go.Proofs.YtppnijapeepbnaaEv.start, List.length, Nat.reduceAdd, Nat.reduceSub, List.reduceReplicate, List.append_eq, List.cons_append, List.nil_append]
  conv => arg 4; simp only [heapOf]
  try conv => arg 5; simp only [List.length, Nat.reduceAdd]
  try conv => arg 6; simp only [List.length, Nat.reduceAdd]
  refine EVgo9 trivial (h1) (h2) (h3) (h4) (h5) trivial trivial trivial trivial trivial trivial ?_
  exact EVret trivial
theorem s5 (l : List Np) (id wake : Int) : Sp cf 5 [slN l, .int .i64 id, .int .i64 wake] (.bool true) := by
  have h7 := s7 hcf
  refine sp_of hcf env5 ?_
  by_cases hl : l.length ≤ 30
  · have hl' : ¬ (l.length : Int) > 30 := by omega
    have hs := (saneL_fit l).len
    have h11 := s11 hcf l (by omega)
    have h8 := s8 hcf l (id, wake) (by omega) (by omega)
    have h14 := s14 hcf l (id, wake) (by omega)
    have h9 := s9 hcf l wake (by omega)
    have h15 := s15 hcf l wake (by omega)
    rw [due_eq] at h9 h15
    have h16 := s16 hcf l id (by omega)
    have h17 := s17 hcf l id (by omega)
    have h18 := s18 hcf l (by omega)
    have h19 := s19 hcf l (by omega)
    have h10 := s10 hcf env_but l (by omega)
    have h21 := s21 hcf l (by omega)
    have hp := putL_len l (id, wake)
    obtain ⟨n, b, hn⟩ := next_tup (saneL l)
    rw [hn] at h18 h19
    generalize putL l (id, wake) = A at *
    generalize putOk l (id, wake) = a at *
    generalize saneB l = c at *
    have e1 := List.length_filter_le (fun y : Np => decide (wake < y.2)) (saneL l)
    have e2 := List.length_filter_le (fun y : Np => decide (y.2 ≤ wake)) (saneL l)
    have e3 : (keepN id (saneL l)).length ≤ (saneL l).length := List.length_filter_le _ _
    generalize saneL l = m at *
    generalize List.filter (fun y : Np => decide (wake < y.2)) m = B at *
    generalize List.filter (fun y : Np => decide (y.2 ≤ wake)) m = C at *
    generalize keepN id m = D at *
    generalize decide ((D.length : Int) < (m.length : Int)) = d at *
    have h13a := s13 hcf A (by omega)
    have h12a := s12 hcf A (by omega)
    have h13b := s13 hcf B (by omega)
    have h12b := s12 hcf B (by omega)
    have h20 := s20 hcf C (by omega)
    have h13d := s13 hcf D (by omega)
    have h12d := s12 hcf D (by omega)
    have q1 : (a == a) = true := beq_self_eq_true _
    have q2 : (d == d) = true := beq_self_eq_true _
    have q3 : (n == n) = true := beq_self_eq_true _
    have q4 : (b == b) = true := beq_self_eq_true _
    have q5 : (c == c) = true := beq_self_eq_true _
    simp only [slN] at *
    conv => arg 2; simp only [ir5]
    conv => arg 3; simp only [ir5, Go.Proofs.YtppnijapeepbnaaEv.start, List.length, Nat.reduceAdd, Nat.reduceSub, List.reduceReplicate, List.append_eq, List.cons_append, List.nil_append]
    conv => arg 4; simp only [heapOf]
    try conv => arg 5; simp only [List.length, Nat.reduceAdd]
    try conv => arg 6; simp only [List.length, Nat.reduceAdd]
    refine EVgo9 (hl') (h7) (h11) (h8) (h14) (h9) (h15) (h16) (h17) (h18) trivial trivial ?_
    refine EVgo9 (And.intro (q1) ( And.intro (q2) ( And.intro (q3) ( And.intro (q4) (q5))))) (h18) (h19) (h13a) (h12a) (h13b) (h12b) (h20) (h13d) (h12d) trivial trivial ?_
    refine EVgo9 (And.intro (q1) ( And.intro (q2) ( And.intro (q3) ( And.intro (q4) (q5))))) (h11) (h10) (h21) trivial trivial trivial trivial trivial trivial trivial trivial ?_
    exact EVret trivial
  · have hl' : (l.length : Int) > 30 := by omega
    simp only [slN]
    conv => arg 2; simp only [ir5]
    conv => arg 3; simp only [ir5, Go.Proofs.YtppnijapeepbnaaEv.start, List.length, Nat.reduceAdd, Nat.reduceSub, List.reduceReplicate, List.append_eq, List.cons_append, List.nil_append]
    conv => arg 4; simp only [heapOf]
    try conv => arg 5; simp only [List.length, Nat.reduceAdd]
    try conv => arg 6; simp only [List.length, Nat.reduceAdd]
    refine EVgo9 (hl') (h7) trivial trivial trivial trivial trivial trivial trivial trivial trivial trivial ?_
    exact EVret trivial
end
end Go.Proofs.YtppnijapeepbnaaR
