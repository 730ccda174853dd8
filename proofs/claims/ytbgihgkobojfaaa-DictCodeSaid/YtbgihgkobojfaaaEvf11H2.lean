/- Evf11H2: a part of the proof. -/
import Derived.Test.YtbgihgkobojfaaaEvf11H1
open Go Go.Proofs.YtbgihgkobojfaaaEv Go.Proofs.YtbgihgkobojfaaaR Go.IntWalk Go.Proofs
set_option maxRecDepth 20000
set_option maxHeartbeats 8000000
set_option linter.unusedVariables false
set_option linter.unusedSimpArgs false
namespace Go.Proofs.YtbgihgkobojfaaaR
theorem clone0_40 (l : List En) (h : l.length ≤ 1000000) (hp : 0 < l.length) : ev env0 40 [slE l] [] = some (.own 0 6 0 l.length, [some (.row (flat encE l))]) := by
  refine ev_ofC envZ40 ?_
  have hne : l.length ≠ 0 := by omega
  simp only [slE]
  conv => arg 2; simp only [ir40]
  conv => arg 3; simp only [ir40, Go.Proofs.YtbgihgkobojfaaaEv.start, List.length, Nat.reduceAdd, Nat.reduceSub, List.reduceReplicate, List.append_eq, List.cons_append, List.nil_append]
  conv => arg 4; simp only [heapOf]
  try conv => arg 5; simp only [List.length, Nat.reduceAdd]
  try conv => arg 6; simp only [List.length, Nat.reduceAdd]
  refine EVgo9 trivial trivial trivial trivial trivial trivial trivial trivial trivial trivial (k_eqNil_sl rfl hne) trivial ?_
  refine EVgo9 (lenE) trivial trivial trivial trivial trivial trivial trivial trivial trivial trivial trivial ?_
  exact WQ.ret rfl
/-- capitals -/
def upS (s : ByteArray) : ByteArray := ⟨(upL s.toList).toArray⟩
def upE (e : En) : En := (upS e.1, e.2)
def addP (l : List En) (e : En) : List En × Int :=
  if sizedB (upL e.1.toList) = false then (l, -16) else if saneE (upE e) = false then (l, -21) else if 512 ≤ l.length then (l, -8) else (l ++ [upE e], 0)
def encAdd (x : List En × Int) : PV := .tup [slE x.1, .int .i64 x.2]
theorem upL_len (l : Bs) : (upL l).length = l.length := by unfold upL; simp
theorem upS_size (s : ByteArray) : (upS s).size = s.size := by
  show (upL s.toList).length = _
  rw [upL_len, ByteArray.toList_eq]; rfl
theorem sized_iff {l : Bs} : sizedB l = true ↔ 1 ≤ l.length ∧ l.length ≤ 31 := by
  unfold sizedB
  cases l with
  | nil => simp
  | cons b r => simp
section
variable {cf : CF} (hcf : cf = ev env)
include hcf
theorem s40 (l : List En) (h : l.length ≤ 1000000) : cf 40 [slE l] [] = some (.own 0 6 0 l.length, [some (.row (flat encE l))]) := by
  subst hcf
  cases l with
  | nil => exact ev_prim ((env_but 40 (by decide)).trans envhP40) _ _ rfl
  | cons x l => exact ev_prim ((env_but 40 (by decide)).trans envhP40) _ _ (clone0_40 (x :: l) h (by simp))
theorem s17 (l : List En) (e : En) (hl : l.length ≤ 1000000) (he : e.1.size ≤ 1000000) : Sp cf 17 [slE l, .agg (encE e)] (encAdd (addP l e)) := by
  have h22 := s22 hcf env_but e.1 he
  have h39 := s39 hcf (upL e.1.toList)
  have h15 := s15 hcf (upE e) (by show (upS e.1).size ≤ _; rw [upS_size]; exact he)
  have h40 := s40 hcf l hl
  refine sp_of hcf env17 ?_
  unfold addP
  generalize saneE (upE e) = y at *
  generalize sizedB (upL e.1.toList) = z at *
  obtain ⟨n, im, k, v, t, a⟩ := e
  simp only [upE] at *
  have hu : PV.str ⟨(upL n.toList).toArray⟩ = .str (upS n) := rfl
  have hu2 : sB (upL n.toList) = .str (upS n) := rfl
  rw [hu2] at h39
  rw [hu] at h22
  clear hu hu2
  generalize upS n = u at *
  simp only [encE] at h15 ⊢
  cases z with
  | false =>
    rw [if_pos rfl]
    simp only [encAdd, slE] at *
    conv => arg 2; simp only [ir17]
    conv => arg 3; simp only [ir17, Go.Proofs.YtbgihgkobojfaaaEv.start, List.length, Nat.reduceAdd, Nat.reduceSub, List.reduceReplicate, List.append_eq, List.cons_append, List.nil_append]
    conv => arg 4; simp only [heapOf]
    try conv => arg 5; simp only [List.length, Nat.reduceAdd]
    try conv => arg 6; simp only [List.length, Nat.reduceAdd]
    refine EVgo9 trivial (h22) (h39) trivial trivial trivial trivial trivial trivial trivial trivial trivial ?_
    exact EVret trivial
  | true =>
    rw [if_neg (by simp)]
    cases y with
    | false =>
      rw [if_pos rfl]
      simp only [encAdd, slE] at *
      conv => arg 2; simp only [ir17]
      conv => arg 3; simp only [ir17, Go.Proofs.YtbgihgkobojfaaaEv.start, List.length, Nat.reduceAdd, Nat.reduceSub, List.reduceReplicate, List.append_eq, List.cons_append, List.nil_append]
      conv => arg 4; simp only [heapOf]
      try conv => arg 5; simp only [List.length, Nat.reduceAdd]
      try conv => arg 6; simp only [List.length, Nat.reduceAdd]
      refine EVgo9 trivial (h22) (h39) (h15) trivial trivial trivial trivial trivial trivial trivial trivial ?_
      exact EVret trivial
    | true =>
      rw [if_neg (by simp)]
      by_cases h5 : 512 ≤ l.length
      · have h5' : (l.length : Int) ≥ 512 := by omega
        rw [if_pos h5]
        simp only [encAdd, slE] at *
        conv => arg 2; simp only [ir17]
        conv => arg 3; simp only [ir17, Go.Proofs.YtbgihgkobojfaaaEv.start, List.length, Nat.reduceAdd, Nat.reduceSub, List.reduceReplicate, List.append_eq, List.cons_append, List.nil_append]
        conv => arg 4; simp only [heapOf]
        try conv => arg 5; simp only [List.length, Nat.reduceAdd]
        try conv => arg 6; simp only [List.length, Nat.reduceAdd]
        refine EVgo9 (h5') (h22) (h39) (h15) trivial trivial trivial trivial trivial trivial trivial trivial ?_
        exact EVret trivial
      · have h5' : ¬ (l.length : Int) ≥ 512 := by omega
        rw [if_neg h5]
        have hz := snoc_len l ((u, im, k, v, t, a) : En)
        have hall := allE (l ++ [(u, im, k, v, t, a)])
        rw [hz] at hall
        simp only [encAdd, slE] at *
        rw [hz]
        conv => arg 2; simp only [ir17]
        conv => arg 3; simp only [ir17, Go.Proofs.YtbgihgkobojfaaaEv.start, List.length, Nat.reduceAdd, Nat.reduceSub, List.reduceReplicate, List.append_eq, List.cons_append, List.nil_append]
        conv => arg 4; simp only [heapOf]
        try conv => arg 5; simp only [List.length, Nat.reduceAdd]
        try conv => arg 6; simp only [List.length, Nat.reduceAdd]
        refine EVgo9 (h5') (h22) (h39) (h15) trivial trivial trivial trivial trivial trivial trivial trivial ?_
        refine EVgo9 (And.intro (lenE) ( And.intro (allE) (snocE))) (h40) trivial trivial trivial trivial trivial trivial trivial trivial trivial trivial ?_
        exact EVret (hall)
theorem s24 (l : List En) (e : En) (hl : l.length ≤ 1000000) (he : e.1.size ≤ 1000000) : Sp cf 24 [slE l, .agg (encE e)] (encAdd (addP l e)) := by
  have h42 := s42 hcf e.1 he
  have h31 := s31 hcf (upE e) (by show (upS e.1).size ≤ _; rw [upS_size]; exact he)
  refine sp_of hcf env24 ?_
  unfold addP
  have hsi := @sized_iff (upL e.1.toList)
  generalize saneE (upE e) = y at *
  generalize sizedB (upL e.1.toList) = z at *
  obtain ⟨n, im, k, v, t, a⟩ := e
  simp only [upE] at *
  have hu : PV.str ⟨(upL n.toList).toArray⟩ = .str (upS n) := rfl
  have hsz := upS_size n
  have hsl : (upL n.toList).length = (upS n).size := rfl
  rw [hsl] at hsi
  rw [hu] at h42
  clear hu hsl
  generalize upS n = u at *
  simp only [encE] at h31 ⊢
  cases z with
  | false =>
    rw [if_pos rfl]
    simp only [encAdd, slE] at *
    by_cases h1 : u.size < 1
    · have h1' : (u.size : Int) < 1 := by omega
      conv => arg 2; simp only [ir24]
      conv => arg 3; simp only [ir24, Go.Proofs.YtbgihgkobojfaaaEv.start, List.length, Nat.reduceAdd, Nat.reduceSub, List.reduceReplicate, List.append_eq, List.cons_append, List.nil_append]
      conv => arg 4; simp only [heapOf]
      try conv => arg 5; simp only [List.length, Nat.reduceAdd]
      try conv => arg 6; simp only [List.length, Nat.reduceAdd]
      refine EVgo9 (h1') (h42) trivial trivial trivial trivial trivial trivial trivial trivial trivial trivial ?_
      exact EVret trivial
    · have h1' : ¬ (u.size : Int) < 1 := by omega
      have h2' : (u.size : Int) > 31 := by
        have : ¬ (1 ≤ u.size ∧ u.size ≤ 31) := fun q => by have := hsi.2 q; simp at this
        omega
      conv => arg 2; simp only [ir24]
      conv => arg 3; simp only [ir24, Go.Proofs.YtbgihgkobojfaaaEv.start, List.length, Nat.reduceAdd, Nat.reduceSub, List.reduceReplicate, List.append_eq, List.cons_append, List.nil_append]
      conv => arg 4; simp only [heapOf]
      try conv => arg 5; simp only [List.length, Nat.reduceAdd]
      try conv => arg 6; simp only [List.length, Nat.reduceAdd]
      refine EVgo9 (And.intro (h1') (h2')) (h42) trivial trivial trivial trivial trivial trivial trivial trivial trivial trivial ?_
      exact EVret trivial
  | true =>
    rw [if_neg (by simp)]
    have h12 := hsi.1 rfl
    have h1' : ¬ (u.size : Int) < 1 := by omega
    have h2' : ¬ (u.size : Int) > 31 := by omega
    cases y with
    | false =>
      rw [if_pos rfl]
      simp only [encAdd, slE] at *
      conv => arg 2; simp only [ir24]
      conv => arg 3; simp only [ir24, Go.Proofs.YtbgihgkobojfaaaEv.start, List.length, Nat.reduceAdd, Nat.reduceSub, List.reduceReplicate, List.append_eq, List.cons_append, List.nil_append]
      conv => arg 4; simp only [heapOf]
      try conv => arg 5; simp only [List.length, Nat.reduceAdd]
      try conv => arg 6; simp only [List.length, Nat.reduceAdd]
      refine EVgo9 (And.intro (h1') (h2')) (h42) (h31) trivial trivial trivial trivial trivial trivial trivial trivial trivial ?_
      exact EVret trivial
    | true =>
      rw [if_neg (by simp)]
      by_cases h5 : 512 ≤ l.length
      · have h5' : (l.length : Int) ≥ 512 := by omega
        rw [if_pos h5]
        simp only [encAdd, slE] at *
        conv => arg 2; simp only [ir24]
        conv => arg 3; simp only [ir24, Go.Proofs.YtbgihgkobojfaaaEv.start, List.length, Nat.reduceAdd, Nat.reduceSub, List.reduceReplicate, List.append_eq, List.cons_append, List.nil_append]
        conv => arg 4; simp only [heapOf]
        try conv => arg 5; simp only [List.length, Nat.reduceAdd]
        try conv => arg 6; simp only [List.length, Nat.reduceAdd]
        refine EVgo9 (And.intro (h1') ( And.intro (h2') (h5'))) (h42) (h31) trivial trivial trivial trivial trivial trivial trivial trivial trivial ?_
        exact EVret trivial
      · have h5' : ¬ (l.length : Int) ≥ 512 := by omega
        rw [if_neg h5]
        have hz := snoc_len l ((u, im, k, v, t, a) : En)
        have hall := allE (l ++ [(u, im, k, v, t, a)])
        rw [hz] at hall
        simp only [encAdd, slE] at *
        rw [hz]
        conv => arg 2; simp only [ir24]
        conv => arg 3; simp only [ir24, Go.Proofs.YtbgihgkobojfaaaEv.start, List.length, Nat.reduceAdd, Nat.reduceSub, List.reduceReplicate, List.append_eq, List.cons_append, List.nil_append]
        conv => arg 4; simp only [heapOf]
        try conv => arg 5; simp only [List.length, Nat.reduceAdd]
        try conv => arg 6; simp only [List.length, Nat.reduceAdd]
        refine EVgo9 (And.intro (h1') ( And.intro (h2') (h5'))) (h42) (h31) trivial trivial trivial trivial trivial trivial trivial trivial trivial ?_
        refine EVgo9 (And.intro (lenE) ( And.intro (allE) (snocE))) trivial trivial trivial trivial trivial trivial trivial trivial trivial trivial trivial ?_
        exact EVret (hall)
end
/-- what is laid of one -/
def codeP (l : List En) (i : Int) : List Pr × Bool :=
  if withinB i ((l.length : Int) - 1) = true ∧ saneE (l.getD i.toNat nilE) = true then
    (if (l.getD i.toNat nilE).2.2.1 = 0 then [((l.getD i.toNat nilE).2.2.2.1, 0)]
     else if (l.getD i.toNat nilE).2.2.1 = 1 then [(3, addrV (l.getD i.toNat nilE).2.2.2.2.1 (l.getD i.toNat nilE).2.2.2.2.2)]
     else if (l.getD i.toNat nilE).2.2.1 = 4 then [(0, (l.getD i.toNat nilE).2.2.2.1), (3, addrV (l.getD i.toNat nilE).2.2.2.2.1 (l.getD i.toNat nilE).2.2.2.2.2)]
     else [(0, (l.getD i.toNat nilE).2.2.2.1)], true)
  else ([], false)
def encCode (x : List Pr × Bool) : PV := .tup [slP x.1, .bool x.2]
theorem at_E {l : List En} {i : Nat} (hi : i < l.length) : (flat encE l).drop (i * 6) = PV.str (l.getD i nilE).1 :: .bool (l.getD i nilE).2.1 :: .int .i64 (l.getD i nilE).2.2.1 :: .int .i64 (l.getD i nilE).2.2.2.1 :: .int .i64 (l.getD i nilE).2.2.2.2.1 :: .int .i64 (l.getD i nilE).2.2.2.2.2 :: flat encE (l.drop (i + 1)) := by
  have := flat_at (enc := encE) (es := 6) (fun _ => rfl) hi
  rw [this, List.getD_eq_getElem?_getD, List.getElem?_eq_getElem hi]
  rfl
section
variable {cf : CF} (hcf : cf = ev env)
include hcf
theorem s14 (l : List En) (i : Int) (hl : l.length ≤ 1000000) (hs : ∀ e ∈ l, e.1.size ≤ 1000000) : Sp cf 14 [slE l, .int .i64 i] (encCode (codeP l i)) := by
  have h36 := s36 hcf i ((l.length : Int) - 1)
  have w0 : IntKind.i64.wrap ((l.length : Int) - 1) = (l.length : Int) - 1 := i64_in _ (by omega)
  refine sp_of hcf env14 ?_
  unfold codeP
  cases hw : withinB i ((l.length : Int) - 1) with
  | false =>
    rw [hw] at h36
    rw [if_neg (by simp)]
    simp only [encCode, slE, slP, flat_nil, List.length] at *
    conv => arg 2; simp only [ir14]
    conv => arg 3; simp only [ir14, Go.Proofs.YtbgihgkobojfaaaEv.start, List.length, Nat.reduceAdd, Nat.reduceSub, List.reduceReplicate, List.append_eq, List.cons_append, List.nil_append]
    conv => arg 4; simp only [heapOf]
    try conv => arg 5; simp only [List.length, Nat.reduceAdd]
    try conv => arg 6; simp only [List.length, Nat.reduceAdd]
    refine EVgo9 (w0) (h36) trivial trivial trivial trivial trivial trivial trivial trivial trivial trivial ?_
    exact EVret trivial
  | true =>
    rw [hw] at h36
    have hb := within_iff.1 hw
    obtain ⟨k, rfl⟩ : ∃ k : Nat, i = k := ⟨i.toNat, by omega⟩
    have hk : k < l.length := by omega
    have hlt : (k : Int) < (l.length : Int) := by omega
    have eK := at_E hk
    have hmem : l.getD k nilE ∈ l := by rw [List.getD_eq_getElem?_getD, List.getElem?_eq_getElem hk]; exact List.getElem_mem hk
    have h15 := s15 hcf (l.getD k nilE) (hs _ hmem)
    have h29 := s29 hcf (l.getD k nilE).2.2.2.2.1 (l.getD k nilE).2.2.2.2.2
    rw [Int.toNat_natCast]
    generalize l.getD k nilE = e at *
    obtain ⟨n, im, c, v, t, a⟩ := e
    simp only [encE] at *
    cases hsn : saneE (n, im, c, v, t, a) with
    | false =>
      rw [hsn] at h15
      rw [if_neg (by simp)]
      simp only [encCode, slE, slP, flat_nil, List.length] at *
      conv => arg 2; simp only [ir14]
      conv => arg 3; simp only [ir14, Go.Proofs.YtbgihgkobojfaaaEv.start, List.length, Nat.reduceAdd, Nat.reduceSub, List.reduceReplicate, List.append_eq, List.cons_append, List.nil_append]
      conv => arg 4; simp only [heapOf]
      try conv => arg 5; simp only [List.length, Nat.reduceAdd]
      try conv => arg 6; simp only [List.length, Nat.reduceAdd]
      refine EVgo9 (And.intro (w0) ( And.intro (hlt) (eK))) (h36) (h15) trivial trivial trivial trivial trivial trivial trivial trivial trivial ?_
      exact EVret trivial
    | true =>
      rw [hsn] at h15
      rw [if_pos (by simp)]
      by_cases c0 : c = 0
      · have c0' : (c == 0) = true := beq_iff_eq.2 c0
        rw [if_pos c0]
        simp only [encCode, slE, slP, flat_cons, flat_nil, encP, List.length, List.cons_append, List.nil_append] at *
        conv => arg 2; simp only [ir14]
        conv => arg 3; simp only [ir14, Go.Proofs.YtbgihgkobojfaaaEv.start, List.length, Nat.reduceAdd, Nat.reduceSub, List.reduceReplicate, List.append_eq, List.cons_append, List.nil_append]
        conv => arg 4; simp only [heapOf]
        try conv => arg 5; simp only [List.length, Nat.reduceAdd]
        try conv => arg 6; simp only [List.length, Nat.reduceAdd]
        refine EVgo9 (And.intro (w0) ( And.intro (hlt) (eK))) (h36) (h15) trivial trivial trivial trivial trivial trivial trivial trivial trivial ?_
        refine EVgo9 (c0') (h29) trivial trivial trivial trivial trivial trivial trivial trivial trivial trivial ?_
        exact EVret trivial
      · have c0' : (c == 0) = false := beq_eq_false_iff_ne.2 c0
        rw [if_neg c0]
        by_cases c1 : c = 1
        · have c1' : (c == 1) = true := beq_iff_eq.2 c1
          rw [if_pos c1]
          simp only [encCode, slE, slP, flat_cons, flat_nil, encP, List.length, List.cons_append, List.nil_append] at *
          conv => arg 2; simp only [ir14]
          conv => arg 3; simp only [ir14, Go.Proofs.YtbgihgkobojfaaaEv.start, List.length, Nat.reduceAdd, Nat.reduceSub, List.reduceReplicate, List.append_eq, List.cons_append, List.nil_append]
          conv => arg 4; simp only [heapOf]
          try conv => arg 5; simp only [List.length, Nat.reduceAdd]
          try conv => arg 6; simp only [List.length, Nat.reduceAdd]
          refine EVgo9 (And.intro (w0) ( And.intro (hlt) (eK))) (h36) (h15) trivial trivial trivial trivial trivial trivial trivial trivial trivial ?_
          refine EVgo9 (And.intro (c0') (c1')) (h29) trivial trivial trivial trivial trivial trivial trivial trivial trivial trivial ?_
          exact EVret trivial
        · have c1' : (c == 1) = false := beq_eq_false_iff_ne.2 c1
          rw [if_neg c1]
          by_cases c4 : c = 4
          · have c4' : (c == 4) = true := beq_iff_eq.2 c4
            rw [if_pos c4]
            simp only [encCode, slE, slP, flat_cons, flat_nil, encP, List.length, List.cons_append, List.nil_append] at *
            conv => arg 2; simp only [ir14]
            conv => arg 3; simp only [ir14, Go.Proofs.YtbgihgkobojfaaaEv.start, List.length, Nat.reduceAdd, Nat.reduceSub, List.reduceReplicate, List.append_eq, List.cons_append, List.nil_append]
            conv => arg 4; simp only [heapOf]
            try conv => arg 5; simp only [List.length, Nat.reduceAdd]
            try conv => arg 6; simp only [List.length, Nat.reduceAdd]
            refine EVgo9 (And.intro (w0) ( And.intro (hlt) (eK))) (h36) (h15) trivial trivial trivial trivial trivial trivial trivial trivial trivial ?_
            refine EVgo9 (And.intro (c0') ( And.intro (c1') (c4'))) (h29) trivial trivial trivial trivial trivial trivial trivial trivial trivial trivial ?_
            exact EVret trivial
          · have c4' : (c == 4) = false := beq_eq_false_iff_ne.2 c4
            rw [if_neg c4]
            simp only [encCode, slE, slP, flat_cons, flat_nil, encP, List.length, List.cons_append, List.nil_append] at *
            conv => arg 2; simp only [ir14]
            conv => arg 3; simp only [ir14, Go.Proofs.YtbgihgkobojfaaaEv.start, List.length, Nat.reduceAdd, Nat.reduceSub, List.reduceReplicate, List.append_eq, List.cons_append, List.nil_append]
            conv => arg 4; simp only [heapOf]
            try conv => arg 5; simp only [List.length, Nat.reduceAdd]
            try conv => arg 6; simp only [List.length, Nat.reduceAdd]
            refine EVgo9 (And.intro (w0) ( And.intro (hlt) (eK))) (h36) (h15) trivial trivial trivial trivial trivial trivial trivial trivial trivial ?_
            refine EVgo9 (And.intro (c0') ( And.intro (c1') (c4'))) (h29) trivial trivial trivial trivial trivial trivial trivial trivial trivial trivial ?_
            exact EVret trivial
theorem s25 (l : List En) (i : Int) (hl : l.length ≤ 1000000) (hs : ∀ e ∈ l, e.1.size ≤ 1000000) : Sp cf 25 [slE l, .int .i64 i] (encCode (codeP l i)) := by
  refine sp_of hcf env25 ?_
  unfold codeP
  by_cases h0 : i < 0
  · rw [if_neg (by rw [within_iff]; omega)]
    simp only [encCode, slE, slP, flat_nil, List.length] at *
    conv => arg 2; simp only [ir25]
    conv => arg 3; simp only [ir25, Go.Proofs.YtbgihgkobojfaaaEv.start, List.length, Nat.reduceAdd, Nat.reduceSub, List.reduceReplicate, List.append_eq, List.cons_append, List.nil_append]
    conv => arg 4; simp only [heapOf]
    try conv => arg 5; simp only [List.length, Nat.reduceAdd]
    try conv => arg 6; simp only [List.length, Nat.reduceAdd]
    refine EVgo9 (h0) trivial trivial trivial trivial trivial trivial trivial trivial trivial trivial trivial ?_
    exact EVret trivial
  by_cases h1 : i ≥ (l.length : Int)
  · rw [if_neg (by rw [within_iff]; omega)]
    simp only [encCode, slE, slP, flat_nil, List.length] at *
    conv => arg 2; simp only [ir25]
    conv => arg 3; simp only [ir25, Go.Proofs.YtbgihgkobojfaaaEv.start, List.length, Nat.reduceAdd, Nat.reduceSub, List.reduceReplicate, List.append_eq, List.cons_append, List.nil_append]
    conv => arg 4; simp only [heapOf]
    try conv => arg 5; simp only [List.length, Nat.reduceAdd]
    try conv => arg 6; simp only [List.length, Nat.reduceAdd]
    refine EVgo9 (And.intro (h0) (h1)) trivial trivial trivial trivial trivial trivial trivial trivial trivial trivial trivial ?_
    exact EVret trivial
  obtain ⟨k, rfl⟩ : ∃ k : Nat, i = k := ⟨i.toNat, by omega⟩
  have hk : k < l.length := by omega
  have hlt : (k : Int) < (l.length : Int) := by omega
  have hw : withinB (k : Int) ((l.length : Int) - 1) = true := within_iff.2 (by omega)
  have eK := at_E hk
  have hmem : l.getD k nilE ∈ l := by rw [List.getD_eq_getElem?_getD, List.getElem?_eq_getElem hk]; exact List.getElem_mem hk
  have h31 := s31 hcf (l.getD k nilE) (hs _ hmem)
  have h30 := s30 hcf (l.getD k nilE).2.2.2.2.1 (l.getD k nilE).2.2.2.2.2
  rw [Int.toNat_natCast, hw]
  generalize l.getD k nilE = e at *
  obtain ⟨n, im, c, v, t, a⟩ := e
  simp only [encE] at *
  cases hsn : saneE (n, im, c, v, t, a) with
  | false =>
    rw [hsn] at h31
    rw [if_neg (by simp)]
    simp only [encCode, slE, slP, flat_nil, List.length] at *
    conv => arg 2; simp only [ir25]
    conv => arg 3; simp only [ir25, Go.Proofs.YtbgihgkobojfaaaEv.start, List.length, Nat.reduceAdd, Nat.reduceSub, List.reduceReplicate, List.append_eq, List.cons_append, List.nil_append]
    conv => arg 4; simp only [heapOf]
    try conv => arg 5; simp only [List.length, Nat.reduceAdd]
    try conv => arg 6; simp only [List.length, Nat.reduceAdd]
    refine EVgo9 (And.intro (h0) ( And.intro (h1) ( And.intro (hlt) (eK)))) (h31) trivial trivial trivial trivial trivial trivial trivial trivial trivial trivial ?_
    exact EVret trivial
  | true =>
    rw [hsn] at h31
    rw [if_pos (by simp)]
    by_cases c0 : c = 0
    · have c0' : (c == 0) = true := beq_iff_eq.2 c0
      rw [if_pos c0]
      simp only [encCode, slE, slP, flat_cons, flat_nil, encP, List.length, List.cons_append, List.nil_append] at *
      conv => arg 2; simp only [ir25]
      conv => arg 3; simp only [ir25, Go.Proofs.YtbgihgkobojfaaaEv.start, List.length, Nat.reduceAdd, Nat.reduceSub, List.reduceReplicate, List.append_eq, List.cons_append, List.nil_append]
      conv => arg 4; simp only [heapOf]
      try conv => arg 5; simp only [List.length, Nat.reduceAdd]
      try conv => arg 6; simp only [List.length, Nat.reduceAdd]
      refine EVgo9 (And.intro (h0) ( And.intro (h1) ( And.intro (hlt) (eK)))) (h31) trivial trivial trivial trivial trivial trivial trivial trivial trivial trivial ?_
      refine EVgo9 (c0') (h30) trivial trivial trivial trivial trivial trivial trivial trivial trivial trivial ?_
      exact EVret trivial
    · have c0' : (c == 0) = false := beq_eq_false_iff_ne.2 c0
      rw [if_neg c0]
      by_cases c1 : c = 1
      · have c1' : (c == 1) = true := beq_iff_eq.2 c1
        rw [if_pos c1]
        simp only [encCode, slE, slP, flat_cons, flat_nil, encP, List.length, List.cons_append, List.nil_append] at *
        conv => arg 2; simp only [ir25]
        conv => arg 3; simp only [ir25, Go.Proofs.YtbgihgkobojfaaaEv.start, List.length, Nat.reduceAdd, Nat.reduceSub, List.reduceReplicate, List.append_eq, List.cons_append, List.nil_append]
        conv => arg 4; simp only [heapOf]
        try conv => arg 5; simp only [List.length, Nat.reduceAdd]
        try conv => arg 6; simp only [List.length, Nat.reduceAdd]
        refine EVgo9 (And.intro (h0) ( And.intro (h1) ( And.intro (hlt) (eK)))) (h31) trivial trivial trivial trivial trivial trivial trivial trivial trivial trivial ?_
        refine EVgo9 (And.intro (c0') (c1')) (h30) trivial trivial trivial trivial trivial trivial trivial trivial trivial trivial ?_
        exact EVret trivial
      · have c1' : (c == 1) = false := beq_eq_false_iff_ne.2 c1
        rw [if_neg c1]
        by_cases c4 : c = 4
        · have c4' : (c == 4) = true := beq_iff_eq.2 c4
          rw [if_pos c4]
          simp only [encCode, slE, slP, flat_cons, flat_nil, encP, List.length, List.cons_append, List.nil_append] at *
          conv => arg 2; simp only [ir25]
          conv => arg 3; simp only [ir25, Go.Proofs.YtbgihgkobojfaaaEv.start, List.length, Nat.reduceAdd, Nat.reduceSub, List.reduceReplicate, List.append_eq, List.cons_append, List.nil_append]
          conv => arg 4; simp only [heapOf]
          try conv => arg 5; simp only [List.length, Nat.reduceAdd]
          try conv => arg 6; simp only [List.length, Nat.reduceAdd]
          refine EVgo9 (And.intro (h0) ( And.intro (h1) ( And.intro (hlt) (eK)))) (h31) trivial trivial trivial trivial trivial trivial trivial trivial trivial trivial ?_
          refine EVgo9 (And.intro (c0') ( And.intro (c1') (c4'))) (h30) trivial trivial trivial trivial trivial trivial trivial trivial trivial trivial ?_
          exact EVret trivial
        · have c4' : (c == 4) = false := beq_eq_false_iff_ne.2 c4
          rw [if_neg c4]
          simp only [encCode, slE, slP, flat_cons, flat_nil, encP, List.length, List.cons_append, List.nil_append] at *
          conv => arg 2; simp only [ir25]
          conv => arg 3; simp only [ir25, Go.Proofs.YtbgihgkobojfaaaEv.start, List.length, Nat.reduceAdd, Nat.reduceSub, List.reduceReplicate, List.append_eq, List.cons_append, List.nil_append]
          conv => arg 4; simp only [heapOf]
          try conv => arg 5; simp only [List.length, Nat.reduceAdd]
          try conv => arg 6; simp only [List.length, Nat.reduceAdd]
          refine EVgo9 (And.intro (h0) ( And.intro (h1) ( And.intro (hlt) (eK)))) (h31) trivial trivial trivial trivial trivial trivial trivial trivial trivial trivial ?_
          refine EVgo9 (And.intro (c0') ( And.intro (c1') (c4'))) (h30) trivial trivial trivial trivial trivial trivial trivial trivial trivial trivial ?_
          exact EVret trivial
end
theorem norm_str {v : PV} {s : ByteArray} (h : v.norm = .str s) : v = .str s := by
  cases v <;> simp [PV.norm] at h ⊢ <;> exact h
/-- the last of a name, from behind -/
theorem lastN_app {u : Bs} : ∀ {p r : List En} {k : Nat}, (∀ e ∈ r, e.1.toList ≠ u) → lastN u (p ++ r) k = lastN u p k
  | [], [], k, _ => rfl
  | [], e :: r, k, h => by
    have ih := lastN_app (u := u) (p := []) (r := r) (k := k + 1) fun x hx => h x (List.mem_cons_of_mem _ hx)
    rw [List.nil_append] at ih ⊢
    unfold lastN
    rw [ih]
    exact if_neg (h e List.mem_cons_self)
  | x :: p, r, k, h => by
    have ih := lastN_app (u := u) (p := p) (r := r) (k := k + 1) h
    rw [List.cons_append]
    unfold lastN
    rw [ih]
theorem lastN_snoc {u : Bs} (e : En) (h : e.1.toList = u) : ∀ {p : List En} {k : Nat}, lastN u (p ++ [e]) k = some (k + p.length)
  | [], k => by
    show (match lastN u [] (k + 1) with | some j => some j | none => if e.1.toList = u then some k else none) = _
    exact if_pos h
  | x :: p, k => by
    have ih := lastN_snoc e h (p := p) (k := k + 1)
    rw [List.cons_append]
    unfold lastN
    rw [ih]
    show some (k + 1 + p.length) = some (k + (p.length + 1))
    congr 1
    omega
/-- all operations that are not hidden -/
def bEnt (o : Nat) : En := (⟨(nameV (o : Int)).toArray⟩, false, 0, (o : Int), 0, 0)
def baseL (n : Nat) : List En := ((List.range n).filter fun o : Nat => !hidV (o : Int)).map bEnt
theorem baseL_succ (n : Nat) : baseL (n + 1) = if hidV (n : Int) = true then baseL n else baseL n ++ [bEnt n] := by
  unfold baseL
  rw [List.range_succ, List.filter_append]
  cases h : hidV (n : Int) with
  | true => rw [if_pos rfl, List.filter_cons_of_neg (by simp [h])]; simp
  | false => rw [if_neg (by simp), List.filter_cons_of_pos (by simp [h])]; simp
theorem baseL_len (n : Nat) : (baseL n).length ≤ n := by
  unfold baseL
  rw [List.length_map]
  exact Nat.le_trans (List.length_filter_le _ _) (by rw [List.length_range]; exact Nat.le_refl _)
section
variable {cf : CF} (hcf : cf = ev env)
include hcf
theorem s11 (l : List En) (s : ByteArray) (hl : l.length ≤ 1000000) (hs : s.size ≤ 1000000) : Sp cf 11 [slE l, .str s] (encF (findN l s)) := ⟨fun xs hi hn => by
  subst hcf
  cases xs with
  | nil => simp [norms] at hn
  | cons v xs =>
    cases xs with
    | nil => simp [norms] at hn
    | cons w xs =>
      cases xs with
      | cons u xs => simp [norms] at hn
      | nil =>
        simp only [norms, List.cons.injEq, and_true] at hn
        obtain ⟨h1, h2⟩ := hn
        obtain rfl := norm_str h2
        refine ev_prim env11 _ _ ?_
        unfold findG
        simp only [h1, slE, decE_enc]
        rw [if_pos ⟨trivial, hl, hs⟩]⟩
theorem s23 (l : List En) (s : ByteArray) (hl : l.length ≤ 1000000) (hs : s.size ≤ 1000000) : Sp cf 23 [slE l, .str s] (encF (findN l s)) := by
  have h42 := s42 hcf s hs
  refine sp_of hcf env23 ?_
  unfold findN
  have q0 := cmpB (upL s.toList) []
  generalize upL s.toList = u at *
  have w0 : IntKind.i64.wrap ((l.length : Int) - 1) = (l.length : Int) - 1 := i64_in _ (by omega)
  simp only [slE]
  conv => arg 2; simp only [ir23]
  conv => arg 3; simp only [ir23, Go.Proofs.YtbgihgkobojfaaaEv.start, List.length, Nat.reduceAdd, Nat.reduceSub, List.reduceReplicate, List.append_eq, List.cons_append, List.nil_append]
  conv => arg 4; simp only [heapOf]
  try conv => arg 5; simp only [List.length, Nat.reduceAdd]
  try conv => arg 6; simp only [List.length, Nat.reduceAdd]
  refine EVgo9 (w0) (h42) trivial trivial trivial trivial trivial trivial trivial trivial trivial trivial ?_
  refine WC.loop (T' := _) (H' := _) (n' := _) rfl ((?_ : ∀ (k : Nat) (j : Int) (p r : List En), j = (k : Int) - 1 → p.length = k → p ++ r = l → (u ≠ [] → ∀ e ∈ r, e.1.toList ≠ u) →
    WC cf _ (mkT 29 [(0, .sl l.length false (flat encE l)), (6, .str ⟨u.toArray⟩), (7, .int .i64 j)]) [] 0 0 _) l.length _ l [] rfl rfl (List.append_nil l) (fun _ e he => absurd he List.not_mem_nil))
  intro k
  induction k with
  | zero =>
    intro j p r hj hp hpr hno
    obtain rfl : p = [] := List.length_eq_zero_iff.1 hp
    have hn : ¬ (j ≥ 0) := by omega
    have e : (if u = [] then none else lastN u l 0) = none := by
      split
      · rfl
      · next h =>
        rw [← hpr, lastN_app (hno h)]
        rfl
    rw [e]
    simp only [encF]
    conv => arg 3; simp only [mkT, putT, List.reduceReplicate, List.set]
    refine EVgo9 (hn) trivial trivial trivial trivial trivial trivial trivial trivial trivial trivial trivial ?_
    exact EVret trivial
  | succ k ih =>
    intro j p r hj hp hpr hno
    obtain rfl : j = (k : Int) := by omega
    rcases List.eq_nil_or_concat p with rfl | ⟨p', x, hpx⟩
    · simp at hp
    rw [List.concat_eq_append] at hpx
    subst hpx
    have hk : p'.length = k := by rw [snoc_len] at hp; omega
    have hpr' : p' ++ x :: r = l := by rw [← hpr]; simp
    have hge : (k : Int) ≥ 0 := by omega
    have hlen : l.length = k + (r.length + 1) := by rw [← hpr', ← hk]; simp
    have hlt : (k : Int) < (l.length : Int) := by omega
    have w1 : IntKind.i64.wrap ((k : Int) - 1) = (k : Int) - 1 := i64_in _ (by omega)
    have hih := ih ((k : Int) - 1) p' (x :: r) rfl hk hpr'
    have hls := fun h => lastN_snoc (u := u) x h (p := p') (k := 0)
    have hla := fun h => lastN_app (u := u) (p := p' ++ [x]) (r := r) (k := 0) h
    rw [hpr] at hla
    have hc := cmpB x.1.toList u
    have hxs : (⟨x.1.toList.toArray⟩ : ByteArray) = x.1 := by rw [ByteArray.toList_eq]
    rw [hxs] at hc
    obtain ⟨n, im, c, v, t, a⟩ := x
    have eK := mid_E hpr'
    rw [hk] at eK
    simp only at hc
    by_cases hu : u = []
    · rw [if_pos hu] at *
      have q1 : ((⟨u.toArray⟩ : ByteArray).toList == (⟨#[]⟩ : ByteArray).toList) = true := q0.trans (decide_eq_true hu)
      have hih' := hih fun h => absurd hu h
      cases hd : decide (n.toList = u) with
      | true =>
        rw [hd] at hc
        conv => arg 3; simp only [mkT, putT, List.reduceReplicate, List.set]
        refine EVgo9 (And.intro (hge) ( And.intro (hlt) ( And.intro (eK) ( And.intro (hc) ( And.intro (q1) (w1)))))) trivial trivial trivial trivial trivial trivial trivial trivial trivial trivial trivial ?_
        exact WC.loop rfl hih'
      | false =>
        rw [hd] at hc
        conv => arg 3; simp only [mkT, putT, List.reduceReplicate, List.set]
        refine EVgo9 (And.intro (hge) ( And.intro (hlt) ( And.intro (eK) ( And.intro (hc) ( And.intro (q1) (w1)))))) trivial trivial trivial trivial trivial trivial trivial trivial trivial trivial trivial ?_
        exact WC.loop rfl hih'
    · rw [if_neg hu] at *
      have q1 : ((⟨u.toArray⟩ : ByteArray).toList == (⟨#[]⟩ : ByteArray).toList) = false := q0.trans (decide_eq_false hu)
      by_cases hx : n.toList = u
      · rw [decide_eq_true hx] at hc
        rw [hla (hno hu), hls hx, Nat.zero_add, hk]
        simp only [encF]
        conv => arg 3; simp only [mkT, putT, List.reduceReplicate, List.set]
        refine EVgo9 (And.intro (hge) ( And.intro (hlt) ( And.intro (eK) ( And.intro (hc) (q1))))) trivial trivial trivial trivial trivial trivial trivial trivial trivial trivial trivial ?_
        exact EVret trivial
      · rw [decide_eq_false hx] at hc
        have hih' := hih fun h e he => by
          rcases List.mem_cons.1 he with rfl | he
          · exact hx
          · exact hno h e he
        conv => arg 3; simp only [mkT, putT, List.reduceReplicate, List.set]
        refine EVgo9 (And.intro (hge) ( And.intro (hlt) ( And.intro (eK) ( And.intro (hc) ( And.intro (q1) (w1)))))) trivial trivial trivial trivial trivial trivial trivial trivial trivial trivial trivial ?_
        exact WC.loop rfl hih'
theorem s10 : Sp cf 10 [] (slE (baseL 111)) := by
  refine sp_of hcf env10 ?_
  simp only [slE]
  conv => arg 2; simp only [ir10]
  conv => arg 3; simp only [ir10, Go.Proofs.YtbgihgkobojfaaaEv.start, List.length, Nat.reduceAdd, Nat.reduceSub, List.reduceReplicate, List.append_eq, List.cons_append, List.nil_append]
  conv => arg 4; simp only [heapOf]
  try conv => arg 5; simp only [List.length, Nat.reduceAdd]
  try conv => arg 6; simp only [List.length, Nat.reduceAdd]
  refine EVgo9 trivial trivial trivial trivial trivial trivial trivial trivial trivial trivial trivial trivial ?_
  refine WC.loop (T' := _) (H' := _) (n' := _) rfl ((?_ : ∀ (k o : Nat) (l : List En), o + k = 111 → l = baseL o →
    WC cf _ (mkT 18 [(1, .own 0 6 0 l.length), (3, .int .i64 (o : Nat))]) [(0, .row (flat encE l))] 0 1 _) 111 0 [] rfl rfl)
  intro k
  induction k with
  | zero =>
    intro o l ho hl
    obtain rfl : o = 111 := by omega
    have hn : ¬ (((111 : Nat) : Int) < 111) := by decide
    rw [← hl]
    conv => arg 3; simp only [mkT, putT, List.reduceReplicate, List.set]
    refine EVgo9 (hn) trivial trivial trivial trivial trivial trivial trivial trivial trivial trivial trivial ?_
    exact EVret (allE)
  | succ k ih =>
    intro o l ho hl
    have hlt : (o : Int) < 111 := by omega
    have hw : IntKind.i64.wrap ((o : Int) + 1) = ((o + 1 : Nat) : Int) := by rw [i64_in _ (by omega)]; simp
    have h13 := s13 hcf (o : Int)
    have h12 := s12 hcf (o : Int)
    have hle := baseL_len o
    rw [← hl] at hle
    have hsu := baseL_succ o
    rw [← hl] at hsu
    cases hh : hidV (o : Int) with
    | true =>
      rw [hh] at h13 hsu
      rw [if_pos rfl] at hsu
      have hih := ih (o + 1) l (by omega) hsu.symm
      conv => arg 3; simp only [mkT, putT, List.reduceReplicate, List.set]
      refine EVgo9 (And.intro (hlt) (hw)) (h13) trivial trivial trivial trivial trivial trivial trivial trivial trivial trivial ?_
      exact WC.loop rfl hih
    | false =>
      rw [hh] at h13 hsu
      rw [if_neg (by simp)] at hsu
      have hih := ih (o + 1) (l ++ [bEnt o]) (by omega) hsu.symm
      rw [snoc_len] at hih
      simp only [bEnt] at hih
      simp only [sB] at h12
      conv => arg 3; simp only [mkT, putT, List.reduceReplicate, List.set]
      refine EVgo9 (hlt) (h13) trivial trivial trivial trivial trivial trivial trivial trivial trivial trivial ?_
      refine EVgo9 (And.intro (lenE) ( And.intro (allE) ( And.intro (snocE) (hw)))) (h12) trivial trivial trivial trivial trivial trivial trivial trivial trivial trivial ?_
      exact WC.loop rfl hih
end
end Go.Proofs.YtbgihgkobojfaaaR
