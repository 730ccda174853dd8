/- Evs13M: a part of the proof. -/
import Derived.Test.YtklanpanmndakaaEvs13L
open Go Go.Proofs.YtklanpanmndakaaEv Go.Proofs.YtklanpanmndakaaR Go.IntWalk
set_option maxRecDepth 20000
set_option maxHeartbeats 8000000
set_option linter.unusedVariables false
set_option linter.unusedSimpArgs false
namespace Go.Proofs.YtklanpanmndakaaR
theorem frame {r : List Int} {h : Int} (h3 : 3 ≤ h) (hl : h ≤ r.length) : ∃ low f0 f1 f2 tl, r = low ++ f0 :: f1 :: f2 :: tl ∧ h = (low.length : Int) + 3 := by
  have h4 : (r.drop (h.toNat - 3)).length ≥ 3 := by rw [List.length_drop]; omega
  match hr : r.drop (h.toNat - 3), h4 with
  | f0 :: f1 :: f2 :: tl, _ =>
    refine ⟨r.take (h.toNat - 3), f0, f1, f2, tl, ?_, ?_⟩
    · rw [← hr, List.take_append_drop]
    · rw [List.length_take]; omega
section
variable {cf : CF} (hcf : cf = ev env)
include hcf
theorem s26n (a b : Bool) (d low : List Int) (f0 f1 f2 : Int) (tl : List Int) (th pl h n : Int) (hs : saneB ⟨d, low ++ f0 :: f1 :: f2 :: tl, th, pl, h⟩ = true) (h3 : h = (low.length : Int) + 3) (hr2 : -9223372036854775808 ≤ f2 ∧ f2 ≤ 9223372036854775807) (hf2 : ¬ (0 ≤ f2 ∧ f2 ≤ 4096004095)) :
    cf 26 [tk a b ⟨d, low ++ f0 :: f1 :: f2 :: tl, th, pl, h⟩, .int .i64 n] [] = some (.tup [.agg [.sl d.length a (flat encI d), .nil, .int .i64 th, .int .i64 pl, .int .i64 0], .bool false], []) := by
  have h38 := s38 hcf a b _ hs
  have hS := (sane_iff _).1 hs
  have hr := hS.r
  simp only [List.length_append, List.length_cons] at hr
  have h15 := s15n hcf f2 hr2 hf2
  have hlen : ((low ++ f0 :: f1 :: f2 :: tl).length) = low.length + 3 + tl.length := by simp; omega
  have hh0 : (h == 0) = false := by simp; omega
  have hw3 : IntKind.i64.wrap (h - 3) = (low.length : Int) := by rw [i64_in _ (by omega)]; omega
  have e1 : List.drop low.length (flat encI (low ++ f0 :: f1 :: f2 :: tl)) = .int .i64 f0 :: .int .i64 f1 :: .int .i64 f2 :: flat encI tl := by
    have := flat_drop (enc := encI) (es := 1) (fun _ => rfl) (low ++ f0 :: f1 :: f2 :: tl) low.length
    rw [Nat.mul_one, List.drop_left] at this
    rw [this]
    rfl
  have hhn : h.toNat - low.length = 3 := by omega
  generalize hR : low ++ f0 :: f1 :: f2 :: tl = R at *
  refine ev_ofC' hcf env26 ?_
  simp only [tk] at h38 ⊢
  conv => arg 2; simp only [ir26]
  conv => arg 3; simp only [ir26, Go.Proofs.YtklanpanmndakaaEv.start, List.length, Nat.reduceAdd, Nat.reduceSub, List.reduceReplicate, List.append_eq, List.cons_append, List.nil_append]
  conv => arg 4; simp only [heapOf]
  try conv => arg 5; simp only [List.length, Nat.reduceAdd]
  try conv => arg 6; simp only [List.length, Nat.reduceAdd]
  refine EVgo2 (And.intro (hh0) ( And.intro (hw3) ( And.intro (hhn) (e1)))) (h38) (h15) trivial trivial ?_
  refine WQ.ret ?_
  rfl
theorem s12v (a : Bool) (d : List Int) (th pl : Int) (hd : d.length ≤ 64) (h1 : 0 ≤ th ∧ th ≤ 1000000) (h2 : 0 ≤ pl ∧ pl ≤ 4095) : cf 12 [.agg [.sl d.length a (flat encI d), .nil, .int .i64 th, .int .i64 pl, .int .i64 0]] [] = some (.bool true, []) := by
  refine ev_ofC' hcf env12 ?_
  conv => arg 2; simp only [ir12]
  conv => arg 3; simp only [ir12, Go.Proofs.YtklanpanmndakaaEv.start, List.length, Nat.reduceAdd, Nat.reduceSub, List.reduceReplicate, List.append_eq, List.cons_append, List.nil_append]
  conv => arg 4; simp only [heapOf]
  try conv => arg 5; simp only [List.length, Nat.reduceAdd]
  try conv => arg 6; simp only [List.length, Nat.reduceAdd]
  have q1 : (d.length : Int) ≤ 64 := by omega
  have q3 : 0 ≤ addr th pl := (addr_iff _ _).2 ⟨h1, h2⟩
  have q4 : stands 0 0 = true := rfl
  refine EVgo2 (And.intro (q1) ( And.intro (q3) (q4))) (s20 hcf th pl) (s37 hcf 0 0) trivial trivial ?_
  exact WQ.ret rfl
theorem s5 (m : Tk) (n : Int) (hw : ∀ x ∈ m.r, -9223372036854775808 ≤ x ∧ x ≤ 9223372036854775807) : cf 5 [tk false false m, .int .i64 n] [] = some (.bool true, []) := by
  have h11 := s11 hcf false false m
  have h13 := s13 hcf false false m
  have h12 := s12 hcf false false m
  refine ev_ofC' hcf env5 ?_
  cases hf : (decide ((m.d.length : Int) ≤ 100) && decide ((m.r.length : Int) ≤ 100)) with
  | false =>
    rw [hf] at h11
    simp only [tk] at h11 ⊢
    conv => arg 2; simp only [ir5]
    conv => arg 3; simp only [ir5, Go.Proofs.YtklanpanmndakaaEv.start, List.length, Nat.reduceAdd, Nat.reduceSub, List.reduceReplicate, List.append_eq, List.cons_append, List.nil_append]
    conv => arg 4; simp only [heapOf]
    try conv => arg 5; simp only [List.length, Nat.reduceAdd]
    try conv => arg 6; simp only [List.length, Nat.reduceAdd]
    refine EVgo2 trivial (s10 hcf) (h11) trivial trivial ?_
    exact WQ.ret rfl
  | true =>
    rw [hf] at h11
    cases hs : saneB m with
    | false =>
      rw [hs] at h12
      simp only [tk] at h11 h12 h13 ⊢
      conv => arg 2; simp only [ir5]
      conv => arg 3; simp only [ir5, Go.Proofs.YtklanpanmndakaaEv.start, List.length, Nat.reduceAdd, Nat.reduceSub, List.reduceReplicate, List.append_eq, List.cons_append, List.nil_append]
      conv => arg 4; simp only [heapOf]
      try conv => arg 5; simp only [List.length, Nat.reduceAdd]
      try conv => arg 6; simp only [List.length, Nat.reduceAdd]
      refine EVgo9 trivial (s10 hcf) (h11) (h13) (h12) trivial trivial trivial trivial trivial trivial trivial ?_
      exact WQ.ret rfl
    | true =>
      rw [hs] at h12
      have hS := (sane_iff m).1 hs
      obtain ⟨hd, hr, hth, hpl, hh⟩ := id hS
      by_cases h0 : m.h = 0
      · have h26 := s26a hcf false false m n hs h0
        have h19 := s19 hcf false false m
        have h18 := s18 hcf false false false false m (by omega) (by omega)
        obtain ⟨d, r, th, pl, h⟩ := m
        simp only at h0
        subst h0
        simp only [tk] at h11 h12 h13 h26 h19 h18 ⊢
        conv => arg 2; simp only [ir5]
        conv => arg 3; simp only [ir5, Go.Proofs.YtklanpanmndakaaEv.start, List.length, Nat.reduceAdd, Nat.reduceSub, List.reduceReplicate, List.append_eq, List.cons_append, List.nil_append]
        conv => arg 4; simp only [heapOf]
        try conv => arg 5; simp only [List.length, Nat.reduceAdd]
        try conv => arg 6; simp only [List.length, Nat.reduceAdd]
        refine EVgo9 trivial (s10 hcf) (h11) (h13) (h12) (h26) (h19) (h18) trivial trivial trivial trivial ?_
        refine WQ.ret ?_
        rfl
      · obtain ⟨low, f0, f1, f2, tl, hr0, hh3⟩ := frame (r := m.r) (h := m.h) (by omega) (by omega)
        obtain ⟨d, r, th, pl, h⟩ := m
        simp only at hd hr hth hpl hh h0 hr0 hh3 hw
        subst hr0
        have hh0 : (h == 0) = false := by simp; omega
        have hb : ∀ x : Int, (x == x) = true := fun x => by simp
        have hf2w := hw f2 (by simp)
        by_cases hf2 : 0 ≤ f2 ∧ f2 ≤ 4096004095
        · obtain ⟨c, h26⟩ := s26 hcf false false d low f0 f1 f2 tl th pl h n hs hh3 hf2
          have hc63 := cnt_le f1
          have hul : (deepL d (cnt f1) ++ [n]).length = cnt f1 + 1 := by rw [List.length_append, deepL_len]; rfl
          have hus : saneB ⟨deepL d (cnt f1) ++ [n], low, f2 / 4096, f2 % 4096, cut f0 low.length⟩ = true := by
            refine (sane_iff _).2 ⟨by simp only [hul]; omega, by simp only [List.length_append] at hr; simp only; omega, by simp only; omega, by simp only; omega, ?_⟩
            simp only [cut]
            split
            · next q => exact (stands_iff _ _).1 q
            · exact .inl rfl
          have h12u := s12 hcf false c ⟨deepL d (cnt f1) ++ [n], low, f2 / 4096, f2 % 4096, cut f0 low.length⟩
          rw [hus] at h12u
          have hlast : List.drop (cnt f1) (flat encI (deepL d (cnt f1) ++ [n])) = [.int .i64 n] := by
            rw [flat_append, List.drop_append, List.drop_of_length_le (by rw [lenI, deepL_len]; omega), lenI, deepL_len, Nat.sub_self]
            rfl
          generalize hD : deepL d (cnt f1) ++ [n] = D at *
          have hpos : (0 : Int) < (D.length : Int) := by omega
          have hw1 : IntKind.i64.wrap ((D.length : Int) - 1) = ((cnt f1 : Nat) : Int) := by rw [i64_in _ (by omega)]; omega
          have hlt : ((cnt f1 : Nat) : Int) < (D.length : Int) := by omega
          have hw3 : IntKind.i64.wrap (h - 3) = (low.length : Int) := by rw [i64_in _ (by omega)]; omega
          simp only [tk] at h11 h12 h13 h26 h12u ⊢
          conv => arg 2; simp only [ir5]
          conv => arg 3; simp only [ir5, Go.Proofs.YtklanpanmndakaaEv.start, List.length, Nat.reduceAdd, Nat.reduceSub, List.reduceReplicate, List.append_eq, List.cons_append, List.nil_append]
          conv => arg 4; simp only [heapOf]
          try conv => arg 5; simp only [List.length, Nat.reduceAdd]
          try conv => arg 6; simp only [List.length, Nat.reduceAdd]
          refine EVgo9 (And.intro (hh0) ( And.intro (hb) ( And.intro (hpos) ( And.intro (hw1) ( And.intro (hlt) ( And.intro (hw3) (hlast))))))) (s10 hcf) (h11) (h13) (h12) (h26) (h12u) trivial trivial trivial trivial trivial ?_
          refine WQ.ret ?_
          rfl
        · have h26 := s26n hcf false false d low f0 f1 f2 tl th pl h n hs hh3 hf2w hf2
          have h12u := s12v hcf false d th pl hd hth hpl
          simp only [tk] at h11 h12 h13 h26 ⊢
          conv => arg 2; simp only [ir5]
          conv => arg 3; simp only [ir5, Go.Proofs.YtklanpanmndakaaEv.start, List.length, Nat.reduceAdd, Nat.reduceSub, List.reduceReplicate, List.append_eq, List.cons_append, List.nil_append]
          conv => arg 4; simp only [heapOf]
          try conv => arg 5; simp only [List.length, Nat.reduceAdd]
          try conv => arg 6; simp only [List.length, Nat.reduceAdd]
          refine EVgo9 (And.intro (hh0) (hb)) (s10 hcf) (h11) (h13) (h12) (h26) (h12u) trivial trivial trivial trivial trivial ?_
          refine WQ.ret ?_
          rfl
end
end Go.Proofs.YtklanpanmndakaaR
