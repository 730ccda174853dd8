/- General words (3): an evaluator of the model's code, and that what it answers the model answers. -/
import Derived.Test.YtklanpanmndakaaEv0
import Derived.Test.YtklanpanmndakaaEv2
import Derived.Orders
/- What an operation comes to hangs on what it asks for alone. -/
set_option linter.unusedVariables false
set_option linter.unusedSimpArgs false
namespace Go.Proofs.YtklanpanmndakaaEv
section
variable {h h' : Heap}
mutual
theorem PV.peek_agree : ∀ (v : PV), (∀ id ∈ v.ids, hget h id = hget h' id) → v.peek h = v.peek h'
  | .agg cs, hn => by simp only [PV.peek, peekL_agree cs (by simpa [PV.ids] using hn)]
  | .tup cs, hn => by simp only [PV.peek, peekL_agree cs (by simpa [PV.ids] using hn)]
  | .own id es off len, hn => by simp only [PV.peek, hn id (by simp [PV.ids])]
  | .fn f a b, hn => by
    simp only [PV.peek, peekL_agree a (fun id q => hn id (by simp [PV.ids, q])), peekL_agree b (fun id q => hn id (by simp [PV.ids, q]))]
  | .ptr _ _, _ => rfl
  | .map _, _ => rfl
  | .int _ _, _ => rfl
  | .bool _, _ => rfl
  | .str _, _ => rfl
  | .flt _ _, _ => rfl
  | .cpx _ _ _, _ => rfl
  | .nil, _ => rfl
  | .sl _ _ _, _ => rfl
  | .rop _, _ => rfl
  | .nilp, _ => rfl
  | .nilfn, _ => rfl
  | .undef, _ => rfl
theorem peekL_agree : ∀ (vs : List PV), (∀ id ∈ idsL vs, hget h id = hget h' id) → peekL h vs = peekL h' vs
  | [], _ => rfl
  | v :: r, hn => by
    simp only [peekL, PV.peek_agree v (fun id q => hn id (by simp [idsL, q])), peekL_agree r (fun id q => hn id (by simp [idsL, q]))]
end
theorem frz_agree : ∀ (l : List Nat), (∀ id ∈ l, hget h id = hget h' id) → frz h l = frz h' l
  | [], _ => rfl
  | i :: l, hn => by
    simp only [frz, hn i (by simp), frz_agree l (fun id q => hn id (by simp [q]))]
theorem srcOf_agree (v : PV) (hn : ∀ id ∈ v.ids, hget h id = hget h' id) : srcOf h v = srcOf h' v := by
  cases v <;> simp only [srcOf]
  next id es off n => rw [hn id (by simp [PV.ids])]
theorem argsOf_agree : ∀ (raw : List Bool) (vs : List PV), (∀ id ∈ idsL vs, hget h id = hget h' id) → argsOf h raw vs = argsOf h' raw vs ∧ rowsOf h raw vs = rowsOf h' raw vs
  | raw, [], _ => by cases raw <;> exact ⟨rfl, rfl⟩
  | [], v :: r, hn => by
    have h1 := PV.peek_agree v (fun id q => hn id (by simp [idsL, q]))
    have h2 := argsOf_agree [] r (fun id q => hn id (by simp [idsL, q]))
    simp only [argsOf, rowsOf, argOf, h1, h2.1, h2.2, and_self]
  | b :: bs, v :: r, hn => by
    have h1 := PV.peek_agree v (fun id q => hn id (by simp [idsL, q]))
    have h2 := argsOf_agree bs r (fun id q => hn id (by simp [idsL, q]))
    simp only [argsOf, rowsOf, argOf, h1, h2.1, h2.2, and_self]
theorem reach_agree : ∀ (n : Nat) (todo seen : List Nat), (∀ id ∈ reachV h n todo seen, hget h id = hget h' id) → reach h n todo seen = reach h' n todo seen ∧ reachV h n todo seen = reachV h' n todo seen
  | 0, todo, seen, _ => ⟨rfl, rfl⟩
  | n + 1, [], seen, _ => ⟨rfl, rfl⟩
  | n + 1, i :: todo, seen, hn => by
    simp only [reach, reachV] at hn ⊢
    split
    · next hc => rw [if_pos hc] at hn; exact reach_agree n todo seen hn
    · next hc =>
      rw [if_neg hc] at hn
      cases hi : hget h i with
      | none =>
        rw [hi] at hn; simp only at hn
        have := hn i (by simp)
        rw [← this, hi]
        have ih := reach_agree n todo seen (fun id q => hn id (by simp [q]))
        exact ⟨ih.1, by simp only; rw [ih.2]⟩
      | some b =>
        rw [hi] at hn; simp only at hn
        have := hn i (by simp)
        rw [← this, hi]
        have ih := reach_agree n (b.ids ++ todo) (seen ++ [i]) (fun id q => hn id (by simp [q]))
        exact ⟨ih.1, by simp only; rw [ih.2]⟩
theorem reach_sub : ∀ (n : Nat) (todo seen : List Nat), ∀ i ∈ reach h n todo seen, i ∈ seen ∨ i ∈ reachV h n todo seen
  | 0, todo, seen, i, hi => .inl (by simpa [reach] using hi)
  | n + 1, [], seen, i, hi => .inl (by simpa [reach] using hi)
  | n + 1, j :: todo, seen, i, hi => by
    simp only [reach, reachV] at hi ⊢
    split at hi
    · next hc => rw [if_pos hc]; exact reach_sub n todo seen i hi
    · next hc =>
      rw [if_neg hc]
      cases hj : hget h j with
      | none => rw [hj] at hi; simp only at hi; rcases reach_sub n todo seen i hi with q | q; exact .inl q; exact .inr (by simp [q])
      | some b =>
        rw [hj] at hi; simp only at hi
        rcases reach_sub n _ _ i hi with q | q
        · rcases List.mem_append.1 q with q | q
          · exact .inl q
          · simp at q; exact .inr (by simp [q])
        · exact .inr (by simp [q])

theorem doCall_agree (cf : CF) (new f : Nat) (borrow : Bool) (raw : List Bool) (vs : List PV) (hn : ∀ id ∈ callNeeds h raw vs, hget h id = hget h' id) :
    doCall cf new h f borrow raw vs = doCall cf new h' f borrow raw vs ∧ callNeeds h raw vs = callNeeds h' raw vs := by
  unfold callNeeds at hn
  have h1 := argsOf_agree (h := h) (h' := h') raw vs (fun id q => hn id (List.mem_append_left _ q))
  have h2 := reach_agree (h := h) (h' := h') 100 (idsL (argsOf h raw vs)) [] (fun id q => hn id (List.mem_append_right _ q))
  have hr : ∀ id ∈ rowsOf h raw vs, id ∈ idsL vs := by
    have : ∀ (raw : List Bool) (vs : List PV), ∀ id ∈ rowsOf h raw vs, id ∈ idsL vs := by
      intro raw vs
      induction vs generalizing raw with
      | nil => intro id hid; cases raw <;> simp [rowsOf] at hid
      | cons v r ih =>
        intro id hid
        cases raw with
        | nil =>
          simp only [rowsOf, List.mem_append] at hid
          rcases hid with q | q
          · split at q
            · simp [idsL, q]
            · simp at q
          · have := ih [] id q; simp [idsL, this]
        | cons b bs =>
          simp only [rowsOf, List.mem_append] at hid
          rcases hid with q | q
          · split at q
            · simp at q
            · split at q
              · simp [idsL, q]
              · simp at q
          · have := ih bs id q; simp [idsL, this]
    exact this raw vs
  have hf := frz_agree (h := h) (h' := h') (rowsOf h raw vs) (fun id q => hn id (List.mem_append_left _ (hr id q)))
  have hm : (reach h 100 (idsL (argsOf h raw vs)) []).map (fun i => (hget h i).map (Blk.mapId (idxIn (reach h 100 (idsL (argsOf h raw vs)) [])))) = (reach h 100 (idsL (argsOf h raw vs)) []).map (fun i => (hget h' i).map (Blk.mapId (idxIn (reach h 100 (idsL (argsOf h raw vs)) [])))) := by
    apply List.map_congr_left
    intro i hi
    rcases reach_sub 100 _ _ i hi with q | q
    · simp at q
    · rw [hn i (List.mem_append_right _ q)]
  refine ⟨?_, by unfold callNeeds; rw [← h1.1, ← h2.2]⟩
  unfold doCall
  rw [← h1.1, ← h1.2, ← hf]
  dsimp only
  cases hq : idsL (argsOf h raw vs) with
  | nil => rfl
  | cons i is =>
    rw [hq] at h2 hm
    simp only
    rw [← h2.1, ← hm]

theorem map_agree {e e' : X → PV} : ∀ (xs : List X), (∀ x ∈ xs, e x = e' x) → xs.map e = xs.map e'
  | [], _ => rfl
  | x :: xs, h => by simp [h x (by simp), map_agree xs (fun y q => h y (by simp [q]))]

theorem evalK_agree (cf : CF) (k : K) (new : Nat) {e e' : X → PV} (he : ∀ x ∈ k.xs, e x = e' x) (hn : ∀ id ∈ needs k e h, hget h id = hget h' id) : evalK cf k new e h = evalK cf k new e' h' ∧ needs k e h = needs k e' h' := by
  have one : ∀ x, k.xs = [x] → e x = e' x := fun x q => he x (by rw [q]; simp)
  have two : ∀ x y, k.xs = [x, y] → e x = e' x ∧ e y = e' y := fun x y q => ⟨he x (by rw [q]; simp), he y (by rw [q]; simp)⟩
  cases k with
  | mv x => simp [evalK, needs, one x rfl]
  | pick a b c => simp only [evalK, needs, he a (by simp [K.xs]), he b (by simp [K.xs]), he c (by simp [K.xs]), and_self]
  | alloc z => exact ⟨rfl, rfl⟩
  | box x => simp [evalK, needs, one x rfl]
  | build z ps =>
    have : ps.map (fun p => (p.1, p.2.1, e p.2.2)) = ps.map (fun p => (p.1, p.2.1, e' p.2.2)) := List.map_congr_left fun p hp => by rw [he p.2.2 (by simp only [K.xs]; exact List.mem_map_of_mem (f := fun p : Nat × Nat × X => p.2.2) hp)]
    simp [evalK, needs, this]
  | bslice es n z ps =>
    have : ps.map (fun p => e p.2) = ps.map (fun p => e' p.2) := List.map_congr_left fun p hp => by rw [he p.2 (by simp only [K.xs]; exact List.mem_map_of_mem (f := fun p : Nat × X => p.2) hp)]
    simp only [needs] at hn
    have h1 := peekL_agree (h := h) (h' := h') _ hn
    have h2 := frz_agree (h := h) (h' := h') _ hn
    rw [this] at h1 h2
    simp only [evalK, needs, this, h1, h2, and_self]
  | load g s x =>
    have hx := one x rfl
    simp only [needs] at hn
    simp only [evalK, needs, ← hx, and_true]
    cases hv : e x <;> simp only
    next id off => rw [hv] at hn; rw [hn id (by simp [PV.ids])]
  | store s a x =>
    have hx := two a x rfl
    simp only [needs] at hn
    simp only [evalK, needs, ← hx.1, ← hx.2, and_true]
    cases hv : e a <;> simp only
    next id off => rw [hv] at hn; rw [hn id (by simp [PV.ids])]
  | nilck x => simp [evalK, needs, one x rfl]
  | bin op x y => simp [evalK, needs, two x y rfl]
  | eqB n x y => simp [evalK, needs, two x y rfl]
  | eqS n ks x y => simp [evalK, needs, two x y rfl]
  | eqNil f n x => simp [evalK, needs, one x rfl]
  | un op x => simp [evalK, needs, one x rfl]
  | conv k x => simp [evalK, needs, one x rfl]
  | strS x => simp [evalK, needs, one x rfl]
  | s2b x => simp [evalK, needs, one x rfl]
  | b2s x =>
    have hx := one x rfl
    simp only [needs] at hn
    have h1 := srcOf_agree (h := h) (h' := h') _ hn
    simp only [evalK, needs, ← hx, and_true]
    split
    · rfl
    · rw [h1]
  | mkfunc f a b =>
    have h1 := map_agree a (fun x q => he x (by simp [K.xs, q]))
    have h2 := map_agree b (fun x q => he x (by simp [K.xs, q]))
    simp [evalK, needs, h1, h2]
  | mkslice es z l c => simp [evalK, needs, two l c rfl]
  | appmk es z l c => simp [evalK, needs, two l c rfl]
  | no => simp [evalK, needs]
  | slice str es x lo hi mx =>
    have hx := he x (by simp [K.xs])
    have h1 : lo.map e = lo.map e' := by cases lo with | none => rfl | some y => simp [he y (by simp [K.xs])]
    have h2 : hi.map e = hi.map e' := by cases hi with | none => rfl | some y => simp [he y (by simp [K.xs])]
    have h3 : mx.map e = mx.map e' := by cases mx with | none => rfl | some y => simp [he y (by simp [K.xs])]
    simp only [evalK, needs, hx, h1, h2, h3, and_self]
  | faddr off x => simp [evalK, needs, one x rfl]
  | field g off s x => simp [evalK, needs, one x rfl]
  | iaddr es x i => simp [evalK, needs, two x i rfl]
  | iaddrA es n x i => simp [evalK, needs, two x i rfl]
  | index x i => simp [evalK, needs, two x i rfl]
  | ext x i => simp [evalK, needs, one x rfl]
  | call f b raw args =>
    have hx := map_agree args (fun x q => he x (by simp [K.xs, q]))
    simp only [needs] at hn
    have := doCall_agree cf new f b raw (args.map e) hn
    simp only [evalK, needs, ← hx]; exact this
  | callv b raw f args =>
    have hx := map_agree args (fun x q => he x (by simp [K.xs, q]))
    have hf := he f (by simp [K.xs])
    simp only [needs] at hn
    simp only [evalK, needs, ← hx, ← hf]
    cases hv : e f <;> simp only [and_self]
    next g a c =>
    rw [hv] at hn
    exact doCall_agree cf new g b raw _ hn
  | len str x => simp [evalK, needs, one x rfl]
  | cap x => simp [evalK, needs, one x rfl]
  | append es a b =>
    have hx := two a b rfl
    simp only [needs] at hn
    have h1 := srcOf_agree (h := h) (h' := h') (e b) (fun id q => hn id (List.mem_append_right _ q))
    simp only [evalK, needs, ← hx.1, ← hx.2, h1, and_true]
    cases srcOf h' (e b) with
    | none => rfl
    | some p =>
      simp only
      split
      · cases hv : e a
        case own id es off len => simp only; rw [hn id (List.mem_append_left _ (by rw [hv]; simp [PV.ids]))]
        case sl len tight xs => cases tight <;> rfl
        all_goals rfl
      · rfl
  | copy es a b =>
    have hx := two a b rfl
    simp only [needs] at hn
    have h1 : srcNS h (e b) = srcNS h' (e b) := by
      unfold srcNS
      split
      · rfl
      · exact srcOf_agree (h := h) (h' := h') (e b) (fun id q => hn id (List.mem_append_right _ q))
    simp only [evalK, needs, ← hx.1, ← hx.2, h1, and_true]
    cases srcNS h' (e b) with
    | none => rfl
    | some p =>
      simp only
      split
      · cases hv : e a
        case own id es off len => simp only; rw [hn id (List.mem_append_left _ (by rw [hv]; simp [PV.ids]))]
        case sl len tight xs => cases tight <;> rfl
        all_goals rfl
      · rfl
  | clear es z a =>
    have hx := one a rfl
    simp only [needs] at hn
    simp only [evalK, needs, ← hx, and_true]
    cases hv : e a
    case own id es off len => simp only; rw [hn id (by rw [hv]; simp [PV.ids])]
    case sl len tight xs => cases len <;> rfl
    all_goals rfl
  | minmax m xs =>
    have h1 := map_agree xs (fun x q => he x (by simp [K.xs, q]))
    simp only [evalK, needs, h1, and_self]
  | mkmap => exact ⟨rfl, rfl⟩
  | lookup z ok m k =>
    have hx := two m k rfl
    simp only [needs] at hn
    simp only [evalK, needs, ← hx.1, ← hx.2, and_true]
    cases hv : e m <;> simp only
    next id => rw [hn id (by rw [hv]; simp [PV.ids])]
  | mapup m k v =>
    have hm := he m (by simp [K.xs])
    have hk := he k (by simp [K.xs])
    have hv' := he v (by simp [K.xs])
    simp only [needs] at hn
    simp only [evalK, needs, ← hm, ← hk, ← hv', and_true]
    cases hv : e m <;> simp only
    next id => rw [hn id (by rw [hv]; simp [PV.ids])]

/-- an operation that asks for no block, and changes none -/
theorem free_none (cf : CF) {k : K} (hk : k.free = true) (new : Nat) (e : X → PV) (h : Heap) : needs k e h = [] ∧ ∀ r u, evalK cf k new e h = some (r, u) → u = [] := by
  cases k <;> simp only [K.free] at hk <;> try (cases hk; done)
  all_goals refine ⟨rfl, fun r u he => ?_⟩
  all_goals (simp only [evalK] at he; (repeat' split at he) <;> first | (cases he; done) | (cases he; rfl) | (simp at he; exact he.2.symm))
theorem reads_none (cf : CF) {k : K} (hk : k.reads = true) (new : Nat) (e : X → PV) (h : Heap) : ∀ r u, evalK cf k new e h = some (r, u) → u = [] := by
  intro r u he
  have dc : ∀ f raw vs, doCall cf new h f true raw vs = some (r, u) → u = [] := by
    intro f raw vs hd
    unfold doCall at hd
    simp only [if_true] at hd
    (repeat' split at hd) <;> first | (cases hd; done) | (cases hd; rfl)
  cases hf : k.free with
  | true => exact (free_none cf hf new e h).2 r u he
  | false =>
    cases k <;> simp only [K.reads] at hk <;> try (rw [hk] at hf; cases hf; done)
    · simp only [evalK] at he
      (repeat' split at he) <;> first | (cases he; done) | (cases he; rfl) | (simp at he; exact he.2.symm)
    · simp only [evalK] at he
      (repeat' split at he) <;> first | (cases he; done) | (cases he; rfl) | (simp at he; exact he.2.symm)
    · subst hk; simp only [evalK] at he; exact dc _ _ _ he
    · subst hk; simp only [evalK] at he
      split at he
      · exact dc _ _ _ he
      · cases he
    · simp only [evalK] at he
      (repeat' split at he) <;> first | (cases he; done) | (cases he; rfl) | (simp at he; exact he.2.symm)
end
end Go.Proofs.YtklanpanmndakaaEv

/- Regions that draw their order: one order serves all. -/
set_option linter.unusedVariables false
set_option linter.unusedSimpArgs false
namespace Go.Proofs.YtklanpanmndakaaEv

def deps (o : Oper) : List Nat := (o.after.toList.filter (Region.binds .any ·)).map (·.on)
def befs (acc : List (List Nat)) : List Oper → List (List Nat)
  | [] => acc
  | o :: l => befs (acc ++ [(deps o ++ (deps o).flatMap fun i => acc.getD i []).eraseDups]) l
def rdT (o : Op) : List Nat := (o.k.xs.filterMap fun | .t n => some n | _ => none) ++ (match o.guard with | some (t, _) => [t] | none => [])
def apartT (a b : Op) : Bool :=
  (match a.dst with | some d => !(rdT b).contains d && !(b.dst == some d) | none => true) && (match b.dst with | some d => !(rdT a).contains d | none => true)
def quietP (a b : Op) : Bool := a.k.free || b.k.free || (a.k.reads && b.k.reads)
/-- the pairs whose order is open -/
def openPairs (bs : List (List Nat)) (n : Nat) : List (Nat × Nat) := (List.range n).flatMap fun j => ((List.range j).filter fun i => !((bs.getD j []).contains i)).map fun i => (i, j)
def pairT (l : List Op) (p : Nat × Nat) : Bool := match l[p.1]?, l[p.2]? with | some a, some b => apartT a b | _, _ => false
def pairQ (l : List Op) (p : Nat × Nat) : Bool := match l[p.1]?, l[p.2]? with | some a, some b => quietP a b | _, _ => false
def depsBelow : Nat → List Oper → Bool
  | _, [] => true
  | k, o :: l => (deps o).all (· < k) && depsBelow (k + 1) l
def drawOk (ops : Array Oper) (l : List Op) : Bool := depsBelow 0 ops.toList && (openPairs (befs [] ops.toList) l.length).all (pairT l)
def confOf (ops : Array Oper) (l : List Op) : List (Nat × Nat) := (openPairs (befs [] ops.toList) l.length).filter fun p => !pairQ l p

theorem mem_openPairs {bs : List (List Nat)} {n i j : Nat} (hj : j < n) (hi : i < j) (hb : i ∉ bs.getD j []) : (i, j) ∈ openPairs bs n := by
  unfold openPairs
  rw [List.mem_flatMap]
  refine ⟨j, by simpa using hj, ?_⟩
  rw [List.mem_map]
  exact ⟨i, by rw [List.mem_filter]; exact ⟨by simpa using hi, by simpa using hb⟩, rfl⟩

section
variable {ops : List Oper}
def Closed (ops : List Oper) (E : Nat → Prop) : Prop := ∀ j o, ops[j]? = some o → E j → ∀ d ∈ deps o, E d
theorem befs_spec : ∀ (l : List Oper) (acc : List (List Nat)) (k0 : Nat), acc.length = k0 → l = ops.drop k0 →
    (∀ (k : Nat) (bk : List Nat), acc[k]? = some bk → ∀ i ∈ bk, ∀ E : Nat → Prop, Closed ops E → (∀ o, ops[k]? = some o → ∀ d ∈ deps o, E d) → E i) →
    ∀ (k : Nat) (bk : List Nat), (befs acc l)[k]? = some bk → ∀ i ∈ bk, ∀ E : Nat → Prop, Closed ops E → (∀ o, ops[k]? = some o → ∀ d ∈ deps o, E d) → E i
  | [], acc, k0, _, _, h => h
  | o :: l, acc, k0, hk, hl, h => by
    have hlt : k0 < ops.length := by
      rcases Nat.lt_or_ge k0 ops.length with q | q
      · exact q
      · rw [List.drop_eq_nil_of_le q] at hl; cases hl
    rw [List.drop_eq_getElem_cons hlt] at hl
    injection hl with h1 h2
    refine befs_spec l _ (k0 + 1) (by simp [hk]) h2 ?_
    intro k bk hbk i hi E hE hd
    by_cases e : k < acc.length
    · rw [List.getElem?_append_left e] at hbk
      exact h k bk hbk i hi E hE hd
    · have hkk : k = acc.length := by
        rcases Nat.lt_or_ge acc.length k with q | q
        · rw [List.getElem?_eq_none (by simp; omega)] at hbk; cases hbk
        · omega
      subst hkk
      simp at hbk
      subst hbk
      rw [List.mem_eraseDups] at hi
      have hok : ops[acc.length]? = some o := by rw [hk, List.getElem?_eq_getElem hlt, h1]
      rcases List.mem_append.1 hi with q | q
      · exact hd o hok i q
      · obtain ⟨j, hj, hij⟩ := List.mem_flatMap.1 q
        have hEj := hd o hok j hj
        cases hb : acc[j]? with
        | none => rw [hb] at hij; simp at hij
        | some bj =>
          rw [hb] at hij
          exact h j bj hb i hij E hE (fun o' ho' d hd' => hE j o' ho' hEj d hd')
theorem bef_closed {E : Nat → Prop} (hE : Closed ops E) {k i : Nat} (hi : i ∈ (befs [] ops).getD k []) (hd : ∀ o, ops[k]? = some o → ∀ d ∈ deps o, E d) : E i := by
  cases hb : (befs [] ops)[k]? with
  | none => rw [List.getD_eq_getElem?_getD, hb] at hi; simp at hi
  | some bk =>
    rw [List.getD_eq_getElem?_getD, hb] at hi
    exact befs_spec (ops := ops) ops [] 0 rfl (by simp) (by simp) k bk hb i hi E hE hd
end

/-- the last writer's value -/
def last {α : Type} (g : Nat → Option α) : Nat → Option α
  | 0 => none
  | n + 1 => match g n with | some v => some v | none => last g n
theorem last_congr {α : Type} {g g' : Nat → Option α} : ∀ n, (∀ k, k < n → g k = g' k) → last g n = last g' n
  | 0, _ => rfl
  | n + 1, h => by simp only [last, h n (Nat.lt_succ_self n), last_congr n (fun k hk => h k (Nat.lt_succ_of_lt hk))]
theorem last_at {α : Type} {g : Nat → Option α} {j : Nat} {v : α} (hv : g j = some v) : ∀ n, j < n → (∀ k, j < k → k < n → g k = none) → last g n = some v
  | 0, h, _ => by omega
  | n + 1, h, hn => by
    simp only [last]
    by_cases e : j = n
    · subst e; rw [hv]
    · rw [hn n (by omega) (Nat.lt_succ_self n)]
      exact last_at hv n (by omega) (fun k h1 h2 => hn k h1 (Nat.lt_succ_of_lt h2))
theorem last_stop {α : Type} {g : Nat → Option α} {m : Nat} : ∀ n, m ≤ n → (∀ k, m ≤ k → k < n → g k = none) → last g n = last g m
  | 0, h, _ => by have : m = 0 := by omega
                  subst this; rfl
  | n + 1, h, hn => by
    by_cases e : m = n + 1
    · subst e; rfl
    · simp only [last]
      rw [hn n (by omega) (Nat.lt_succ_self n)]
      exact last_stop n (by omega) (fun k h1 h2 => hn k h1 (Nat.lt_succ_of_lt h2))

/-- what an operation does to a state -/
theorem stepOp_eff {cf : CF} {s s' : St} {n : Nat} {o : Op} (h : stepOp cf s n o = some s') : ∃ r u, s' = { s with tmps := setOpt s.tmps o.dst r, heap := applyU s.heap u } ∧ (feet cf s n o).2 = u.map (·.1) ∧
    ∀ t : St, (∀ x ∈ rdT o, t.tmps.getD x .undef = s.tmps.getD x .undef) → (∀ id ∈ (feet cf s n o).1, hget s.heap id = hget t.heap id) → stepOp cf t n o = some { t with tmps := setOpt t.tmps o.dst r, heap := applyU t.heap u } := by
  unfold stepOp at h
  have hwd : ∀ t : St, (∀ x ∈ rdT o, t.tmps.getD x .undef = s.tmps.getD x .undef) → wantedO t o = wantedO s o := by
    intro t ht
    unfold wantedO
    cases hg : o.guard with
    | none => rfl
    | some p => obtain ⟨x, want⟩ := p; simp only; rw [ht x (by simp [rdT, hg])]
  cases hw : wantedO s o with
  | none => rw [hw] at h; cases h
  | some b =>
    rw [hw] at h
    cases b with
    | false =>
      cases h
      refine ⟨.tup [], [], rfl, by unfold feet; rw [hw]; rfl, fun t ht _ => ?_⟩
      unfold stepOp
      rw [hwd t ht, hw]
      rfl
    | true =>
      simp only at h
      cases he : evalK cf o.k n s.val s.heap with
      | none => rw [he] at h; cases h
      | some p =>
        obtain ⟨r, u⟩ := p
        rw [he] at h
        simp only at h
        cases h
        refine ⟨r, u, rfl, by unfold feet; rw [hw]; simp only; rw [he], fun t ht hid => ?_⟩
        have hx : ∀ x ∈ o.k.xs, s.val x = t.val x := by
          intro x hx
          cases x with
          | c v => rfl
          | t n =>
            simp only [St.val]
            refine (ht n ?_).symm
            unfold rdT
            exact List.mem_append_left _ (List.mem_filterMap.2 ⟨.t n, hx, rfl⟩)
        have hn : ∀ id ∈ needs o.k s.val s.heap, hget s.heap id = hget t.heap id := by
          intro id hi
          refine hid id ?_
          unfold feet; rw [hw]; exact hi
        have := (evalK_agree cf o.k n hx hn).1
        unfold stepOp
        rw [hwd t ht, hw]
        simp only
        rw [← this, he]

theorem run_states {cf : CF} : ∀ (l : List Op) (s s' : St) (n : Nat), stepOps cf s n l = some s' → ∃ S : Nat → St, S 0 = s ∧ (∀ j o, l[j]? = some o → stepOp cf (S j) (n + stride * j) o = some (S (j + 1)) ∧ (feetL cf s n l)[j]? = some (feet cf (S j) (n + stride * j) o)) ∧ s' = { S l.length with next := n + stride * l.length }
  | [], s, s', n, h => by simp [stepOps] at h; subst h; exact ⟨fun _ => s, rfl, by simp, by simp⟩
  | o :: l, s, s', n, h => by
    simp only [stepOps] at h
    cases hs : stepOp cf s n o with
    | none => rw [hs] at h; cases h
    | some s1 =>
      rw [hs] at h
      obtain ⟨S, h0, h1, h2⟩ := run_states l s1 s' (n + stride) h
      refine ⟨fun | 0 => s | j + 1 => S j, rfl, fun j o' ho => ?_, ?_⟩
      · cases j with
        | zero =>
          simp at ho; subst ho
          refine ⟨by simpa [h0] using hs, ?_⟩
          simp [feetL]
        | succ j =>
          simp at ho
          have := h1 j o' ho
          have e : n + stride * (j + 1) = n + stride + stride * j := by rw [Nat.mul_add]; omega
          refine ⟨by rw [e]; exact this.1, ?_⟩
          rw [e]
          simp only [feetL, hs, List.getElem?_cons_succ]
          exact this.2
      · rw [h2]
        have e : n + stride * (o :: l).length = n + stride + stride * l.length := by simp [Nat.mul_add]; omega
        rw [e]; rfl

theorem setOpt_getD (ts : List PV) (d : Option Nat) (r : PV) (x : Nat) (hx : x < ts.length) : (setOpt ts d r).getD x .undef = if d = some x then r else ts.getD x .undef := by
  cases d with
  | none => simp [setOpt]
  | some d =>
    simp only [setOpt, List.getD_eq_getElem?_getD, List.getElem?_set]
    by_cases e : d = x
    · subst e; simp [hx]
    · simp [e]
theorem setOpt_length (ts : List PV) (d : Option Nat) (r : PV) : (setOpt ts d r).length = ts.length := by cases d <;> simp [setOpt]
theorem uget_none {u : Upd} {id : Nat} (h : id ∉ u.map (·.1)) : uget u id = none := by
  induction u with
  | nil => rfl
  | cons p u ih =>
    obtain ⟨k, b⟩ := p
    simp at h
    simp only [uget]
    rw [ih (by simp; exact fun x hx => h.2 x hx), if_neg (Ne.symm h.1)]

/-- what is known of a run in the text's order -/
structure Track (cf : CF) (s : St) (n : Nat) (l : List Op) where
  S : Nat → St
  R : Nat → PV
  U : Nat → Upd
  F : Nat → List Nat × List Nat
  s0 : S 0 = s
  next : ∀ (j : Nat) (o : Op), l[j]? = some o → S (j + 1) = { S j with tmps := setOpt (S j).tmps o.dst (R j), heap := applyU (S j).heap (U j) }
  feet : ∀ (j : Nat) (o : Op), l[j]? = some o → (feetL cf s n l)[j]? = some (F j) ∧ (F j).2 = (U j).map (·.1)
  same : ∀ (j : Nat) (o : Op), l[j]? = some o → ∀ t : St, (∀ x ∈ rdT o, t.tmps.getD x .undef = (S j).tmps.getD x .undef) → (∀ id ∈ (F j).1, hget (S j).heap id = hget t.heap id) →
    stepOp cf t (n + stride * j) o = some { t with tmps := setOpt t.tmps o.dst (R j), heap := applyU t.heap (U j) }
  quiet : ∀ (j : Nat) (o : Op), l[j]? = some o → (o.k.free = true → F j = ([], [])) ∧ (o.k.reads = true → (F j).2 = [])

theorem feet_quiet {cf : CF} {s : St} {n : Nat} {o : Op} {s' : St} (hs : stepOp cf s n o = some s') : (o.k.free = true → feet cf s n o = ([], [])) ∧ (o.k.reads = true → (feet cf s n o).2 = []) := by
  unfold feet
  unfold stepOp at hs
  cases hw : wantedO s o with
  | none => rw [hw] at hs; cases hs
  | some b =>
    rw [hw] at hs
    cases b with
    | false => exact ⟨fun _ => rfl, fun _ => rfl⟩
    | true =>
      simp only at hs ⊢
      cases he : evalK cf o.k n s.val s.heap with
      | none => rw [he] at hs; cases hs
      | some p =>
        obtain ⟨r, u⟩ := p
        refine ⟨fun hf => ?_, fun hr => ?_⟩
        · have := free_none cf hf n s.val s.heap
          rw [this.1, this.2 r u he]; rfl
        · rw [reads_none cf hr n s.val s.heap r u he]; rfl

theorem track_of {cf : CF} {s s' : St} {n : Nat} {l : List Op} (h : stepOps cf s n l = some s') : ∃ T : Track cf s n l, s' = { T.S l.length with next := n + stride * l.length } := by
  obtain ⟨S, h0, h1, h2⟩ := run_states l s s' n h
  have key : ∀ j : Nat, ∃ p : PV × Upd, ∀ o, l[j]? = some o → S (j + 1) = { S j with tmps := setOpt (S j).tmps o.dst p.1, heap := applyU (S j).heap p.2 } ∧ (feet cf (S j) (n + stride * j) o).2 = p.2.map (·.1) ∧
      ∀ t : St, (∀ x ∈ rdT o, t.tmps.getD x .undef = (S j).tmps.getD x .undef) → (∀ id ∈ (feet cf (S j) (n + stride * j) o).1, hget (S j).heap id = hget t.heap id) → stepOp cf t (n + stride * j) o = some { t with tmps := setOpt t.tmps o.dst p.1, heap := applyU t.heap p.2 } := by
    intro j
    cases ho : l[j]? with
    | none => exact ⟨(.undef, []), fun o q => by cases q⟩
    | some o =>
      obtain ⟨r, u, q1, q2, q3⟩ := stepOp_eff (h1 j o ho).1
      exact ⟨(r, u), fun o' q => by cases q; exact ⟨q1, q2, q3⟩⟩
  have hF : ∀ j : Nat, ∃ f : List Nat × List Nat, ∀ o, l[j]? = some o → f = feet cf (S j) (n + stride * j) o := by
    intro j
    cases ho : l[j]? with
    | none => exact ⟨([], []), fun o q => by cases q⟩
    | some o => exact ⟨_, fun o' q => by cases q; rfl⟩
  refine ⟨⟨S, fun j => (key j).choose.1, fun j => (key j).choose.2, fun j => (hF j).choose, h0, fun j o ho => ((key j).choose_spec o ho).1, fun j o ho => ?_, fun j o ho => ?_, fun j o ho => ?_⟩, h2⟩
  · have e := (hF j).choose_spec o ho
    rw [e]
    exact ⟨(h1 j o ho).2, ((key j).choose_spec o ho).2.1⟩
  · have e := (hF j).choose_spec o ho
    rw [e]
    exact ((key j).choose_spec o ho).2.2
  · have e := (hF j).choose_spec o ho
    rw [e]
    exact feet_quiet (h1 j o ho).1

section
variable {cf : CF} {s : St} {n : Nat} {l : List Op} (T : Track cf s n l)
/-- what operation k leaves in a temporary, in a block -/
def Track.wT (x k : Nat) : Option PV := match l[k]? with | some o => if o.dst = some x then some (T.R k) else none | none => none
def Track.wH (id k : Nat) : Option (Option Blk) := match l[k]? with | some o => uget (T.U k) id | none => none
def on (E : Nat → Bool) {α : Type} (g : Nat → Option α) : Nat → Option α := fun k => if E k then g k else none
/-- a state in which just these operations have been carried out -/
structure Track.Cons (E : Nat → Bool) (t : St) : Prop where
  len : t.tmps.length = s.tmps.length
  tmp : ∀ x, x < s.tmps.length → t.tmps.getD x .undef = (last (on E (T.wT x)) l.length).getD (s.tmps.getD x .undef)
  blk : ∀ id, hget t.heap id = (last (on E (T.wH id)) l.length).getD (hget s.heap id)
  k0 : t.k0 = s.k0

theorem Track.len (j : Nat) (hj : j ≤ l.length) : (T.S j).tmps.length = s.tmps.length ∧ (T.S j).k0 = s.k0 := by
  induction j with
  | zero => rw [T.s0]; exact ⟨rfl, rfl⟩
  | succ j ih =>
    have hlt : j < l.length := by omega
    have := T.next j l[j] (List.getElem?_eq_getElem hlt)
    rw [this]
    simp only [setOpt_length]
    exact ih (by omega)
theorem last_below {α : Type} {g : Nat → Option α} {j m : Nat} (hj : j ≤ m) : last (on (fun k => decide (k < j)) g) m = last g j := by
  rw [last_stop m hj (fun k h1 h2 => by simp [on]; omega)]
  exact last_congr j (fun k hk => by simp [on, hk])
theorem Track.cons_below (j : Nat) (hj : j ≤ l.length) : T.Cons (fun k => decide (k < j)) (T.S j) := by
  refine ⟨(T.len j hj).1, fun x hx => ?_, fun id => ?_, (T.len j hj).2⟩
  · rw [last_below hj]
    induction j with
    | zero => rw [T.s0]; rfl
    | succ j ih =>
      have hlt : j < l.length := by omega
      have ho := List.getElem?_eq_getElem hlt
      rw [T.next j l[j] ho]
      simp only [last]
      rw [setOpt_getD _ _ _ _ (by rw [(T.len j (by omega)).1]; exact hx)]
      simp only [Track.wT, ho]
      split
      · rfl
      · exact ih (by omega)
  · rw [last_below hj]
    induction j with
    | zero => rw [T.s0]; rfl
    | succ j ih =>
      have hlt : j < l.length := by omega
      have ho := List.getElem?_eq_getElem hlt
      rw [T.next j l[j] ho]
      simp only [last]
      rw [hget_applyU]
      simp only [Track.wH, ho]
      cases uget (T.U j) id with
      | some b => rfl
      | none => exact ih (by omega)

/-- whatever order is taken: operation j, where what it waits for has been carried out -/
theorem Track.step {E : Nat → Bool} {t : St} (hc : T.Cons E t) {j : Nat} {o : Op} (ho : l[j]? = some o) (hE : E j = false)
    (hT : ∀ k o', l[k]? = some o' → k ≠ j → (E k ≠ decide (k < j)) → apartT o o' = true ∧ apartT o' o = true)
    (hH : ∀ k o', l[k]? = some o' → k ≠ j → (E k ≠ decide (k < j)) → apart (T.F k).2 (T.F j).1 = true ∧ apart (T.F k).2 (T.F j).2 = true)
    : ∃ t', stepOp cf t (n + stride * j) o = some t' ∧ T.Cons (fun k => E k || decide (k = j)) t' := by
  have hjl : j < l.length := (List.getElem?_eq_some_iff.1 ho).1
  have hb := T.cons_below j (by omega)
  have e1 : ∀ x ∈ rdT o, t.tmps.getD x .undef = (T.S j).tmps.getD x .undef := by
    intro x hx
    by_cases hlt : x < s.tmps.length
    · rw [hc.tmp x hlt, hb.tmp x hlt]
      congr 1
      refine last_congr _ (fun k hk => ?_)
      by_cases q : E k = decide (k < j)
      · simp [on, q]
      · have hkl : l[k]? = some l[k] := List.getElem?_eq_getElem hk
        by_cases hkj : k = j
        · subst hkj; simp [on, hE]
        · have := (hT k l[k] hkl hkj q).2
          have hw : T.wT x k = none := by
            simp only [Track.wT, hkl]
            rw [if_neg]
            intro hd
            unfold apartT at this
            rw [hd] at this
            simp at this
            exact absurd hx this.1.1
          simp [on, hw]
    · rw [List.getD_eq_getElem?_getD, List.getD_eq_getElem?_getD, List.getElem?_eq_none (by rw [hc.len]; omega), List.getElem?_eq_none (by rw [hb.len]; omega)]
  have e2 : ∀ id ∈ (T.F j).1, hget (T.S j).heap id = hget t.heap id := by
    intro id hid
    rw [hc.blk id, hb.blk id]
    congr 1
    refine last_congr _ (fun k hk => ?_)
    by_cases q : E k = decide (k < j)
    · simp [on, q]
    · have hkl : l[k]? = some l[k] := List.getElem?_eq_getElem hk
      by_cases hkj : k = j
      · subst hkj; simp [on, hE]
      · have h1 := (hH k l[k] hkl hkj q).1
        have hw : T.wH id k = none := by
          simp only [Track.wH, hkl]
          refine uget_none (fun hin => ?_)
          rw [← (T.feet k l[k] hkl).2] at hin
          unfold apart at h1
          rw [List.all_eq_true] at h1
          have := h1 id hin
          simp at this
          exact this hid
        simp [on, hw]
  refine ⟨_, T.same j o ho t e1 e2, ⟨by simp only [setOpt_length]; exact hc.len, fun x hx => ?_, fun id => ?_, hc.k0⟩⟩
  · simp only
    rw [setOpt_getD _ _ _ _ (by rw [hc.len]; exact hx)]
    split
    · next hd =>
      rw [last_at (v := T.R j) (j := j)]
      · rfl
      · simp [on, Track.wT, ho, hd]
      · exact hjl
      · intro k h1 h2
        by_cases q : E k = decide (k < j)
        · have : E k = false := by rw [q]; simp; omega
          have hne : ¬ k = j := by omega
          simp [on, this, hne]
        · have hkl : l[k]? = some l[k] := List.getElem?_eq_getElem h2
          have := (hT k l[k] hkl (by omega) q).1
          have hw : T.wT x k = none := by
            simp only [Track.wT, hkl]
            rw [if_neg]
            intro hd'
            unfold apartT at this
            rw [hd, hd'] at this
            simp at this
          simp [on, hw]
    · next hd =>
      rw [hc.tmp x hx]
      congr 1
      refine last_congr _ (fun k hk => ?_)
      by_cases hkj : k = j
      · subst hkj; simp [on, hE, Track.wT, ho, hd]
      · simp [on, hkj]
  · simp only
    rw [hget_applyU]
    cases hu : uget (T.U j) id with
    | some b =>
      simp only
      rw [last_at (v := b) (j := j)]
      · rfl
      · simp [on, Track.wH, ho, hu]
      · exact hjl
      · intro k h1 h2
        by_cases q : E k = decide (k < j)
        · have : E k = false := by rw [q]; simp; omega
          have hne : ¬ k = j := by omega
          simp [on, this, hne]
        · have hkl : l[k]? = some l[k] := List.getElem?_eq_getElem h2
          have h3 := (hH k l[k] hkl (by omega) q).2
          have hw : T.wH id k = none := by
            simp only [Track.wH, hkl]
            refine uget_none (fun hin => ?_)
            rw [← (T.feet k l[k] hkl).2] at hin
            unfold apart at h3
            rw [List.all_eq_true] at h3
            have := h3 id hin
            simp at this
            apply this
            rw [(T.feet j o ho).2]
            apply Classical.byContradiction
            intro hni
            rw [uget_none hni] at hu; cases hu
          simp [on, hw]
    | none =>
      simp only
      rw [hc.blk id]
      congr 1
      refine last_congr _ (fun k hk => ?_)
      by_cases hkj : k = j
      · subst hkj; simp [on, hE, Track.wH, ho, hu]
      · simp [on, hkj]
end

theorem mapM_at {α β : Type} {f : α → Option β} : ∀ {L : List α} {l : List β}, L.mapM f = some l → l.length = L.length ∧ ∀ (j : Nat) (o : α), L[j]? = some o → ∃ op, f o = some op ∧ l[j]? = some op
  | [], l, h => by simp at h; subst h; simp
  | x :: L, l, h => by
    rw [List.mapM_cons] at h
    cases h1 : f x with
    | none => rw [h1] at h; cases h
    | some y =>
      cases h2 : L.mapM f with
      | none => rw [h1, h2] at h; cases h
      | some l' =>
        rw [h1, h2] at h; cases h
        have ih := mapM_at h2
        refine ⟨by simp [ih.1], fun j o ho => ?_⟩
        cases j with
        | zero => simp at ho; subst ho; exact ⟨y, h1, by simp⟩
        | succ j => simp at ho; simpa using ih.2 j o ho
theorem apartT_symm {a b : Op} (h : apartT a b = true) : apartT b a = true := by
  unfold apartT at *
  cases ha : a.dst with
  | none =>
    cases hb : b.dst with
    | none => rfl
    | some e => rw [ha, hb] at h; simp at h ⊢; exact h
  | some d =>
    cases hb : b.dst with
    | none => rw [ha, hb] at h; simp at h ⊢; exact h
    | some e => rw [ha, hb] at h; simp at h ⊢; exact ⟨⟨h.2, fun q => h.1.2 q.symm⟩, h.1.1⟩
theorem apart_symm {a b : List Nat} (h : apart a b = true) : apart b a = true := by
  unfold apart at *
  rw [List.all_eq_true] at *
  intro x hx
  simp
  intro hxa
  have := h x hxa
  simp at this
  exact this hx
theorem apart_nil {a : List Nat} : apart a [] = true := by simp [apart]
theorem nil_apart {a : List Nat} : apart [] a = true := by simp [apart]
theorem confOk_mem {fs : List (List Nat × List Nat)} : ∀ {ps : List (Nat × Nat)}, confOk fs ps = true → ∀ {i j}, (i, j) ∈ ps → ∃ a b, fs[i]? = some a ∧ fs[j]? = some b ∧ apart a.2 b.1 = true ∧ apart a.2 b.2 = true ∧ apart a.1 b.2 = true
  | [], _, _, _, h => by cases h
  | (i', j') :: r, hc, i, j, h => by
    simp only [confOk, Bool.and_eq_true] at hc
    rcases List.mem_cons.1 h with q | q
    · injection q with q1 q2
      subst q1; subst q2
      cases h1 : fs[i]? with
      | none => rw [h1] at hc; simp at hc
      | some a =>
        cases h2 : fs[j]? with
        | none => rw [h1, h2] at hc; simp at hc
        | some b =>
          rw [h1, h2] at hc
          simp only [Bool.and_eq_true] at hc
          exact ⟨a, b, rfl, rfl, hc.1.1.1, hc.1.1.2, hc.1.2⟩
    · exact confOk_mem hc.2 q
theorem depsBelow_at : ∀ {l : List Oper} {k : Nat}, depsBelow k l = true → ∀ (j : Nat) (o : Oper), l[j]? = some o → ∀ d ∈ deps o, d < k + j
  | [], k, _, j, o, h => by simp at h
  | x :: l, k, hd, j, o, h => by
    simp only [depsBelow, Bool.and_eq_true, List.all_eq_true] at hd
    cases j with
    | zero => simp at h; subst h; intro d hdm; simpa using hd.1 d hdm
    | succ j =>
      simp at h
      intro d hdm
      have := depsBelow_at hd.2 j o h d hdm
      omega

theorem CX.congr {B : Base} {s t : St} {Fr : Nat → Prop} {a : Act} {w : World} {O : Nat → Option Nat} {M F : Nat → Prop} (h : CX B s Fr a w O M F) (h1 : t.tmps = s.tmps) (h2 : ∀ id, hget t.heap id = hget s.heap id) (h3 : t.k0 = s.k0) : CX B t Fr a w O M F :=
  ⟨h.df, by rw [h1]; exact h.tr, ⟨fun id C hC => h.inv.blk id C (by rw [← h2]; exact hC), h.inv.mlt, h.inv.sub, fun i j b C D q1 q2 => h.inv.inj i j b C D (by rw [← h2]; exact q1) (by rw [← h2]; exact q2)⟩, fun id q => ⟨(h.fresh id q).1, by rw [h2]; exact (h.fresh id q).2⟩, h3.trans h.k0, h.kn, h.stp, h.keep, h.less, h.lessM, h.keepF, fun id b C hC => h.prov id b C (by rw [← h2]; exact hC), h.mlt0⟩

section
variable {cf : CF} {s : St} {n : Nat} {l : List Op} (T : Track cf s n l)
theorem Track.fin {E : Nat → Bool} {t : St} (hc : T.Cons E t) (hall : ∀ k, k < l.length → E k = true) : t.tmps = (T.S l.length).tmps ∧ (∀ id, hget t.heap id = hget (T.S l.length).heap id) ∧ t.k0 = (T.S l.length).k0 := by
  have hb := T.cons_below l.length (Nat.le_refl _)
  refine ⟨?_, fun id => ?_, hc.k0.trans hb.k0.symm⟩
  · apply List.ext_getElem?
    intro x
    by_cases hlt : x < s.tmps.length
    · have e : t.tmps.getD x .undef = (T.S l.length).tmps.getD x .undef := by
        rw [hc.tmp x hlt, hb.tmp x hlt]
        congr 1
        exact last_congr _ (fun k hk => by simp [on, hall k hk, hk])
      have l1 : x < t.tmps.length := by rw [hc.len]; exact hlt
      have l2 : x < (T.S l.length).tmps.length := by rw [hb.len]; exact hlt
      rw [List.getD_eq_getElem?_getD, List.getD_eq_getElem?_getD, List.getElem?_eq_getElem l1, List.getElem?_eq_getElem l2] at e
      rw [List.getElem?_eq_getElem l1, List.getElem?_eq_getElem l2]
      exact congrArg some e
    · rw [List.getElem?_eq_none (by rw [hc.len]; omega), List.getElem?_eq_none (by rw [hb.len]; omega)]
  · rw [hc.blk id, hb.blk id]
    congr 1
    exact last_congr _ (fun k hk => by simp [on, hall k hk, hk])
end

def frE (n len : Nat) (E : Nat → Bool) : Nat → Prop := fun id => n ≤ id ∧ ∀ j, j < len → E j = true → ¬ (n + stride * j ≤ id ∧ id < n + stride * j + stride)
theorem frE_has {n len : Nat} {E : Nat → Bool} {j : Nat} (hE : E j = false) : ∀ id, n + stride * j ≤ id → id < n + stride * j + stride → frE n len E id := by
  intro id h1 h2
  refine ⟨by omega, fun k hk hEk hq => ?_⟩
  have hne : k ≠ j := fun e => by subst e; rw [hE] at hEk; cases hEk
  simp only [stride] at *
  omega

section
variable {P : Program} {raws : Nat → List Bool} {B : Base} {cf : CF}
theorem drawRun (hcf : CFok P cf) {ops : Array Oper} {l : List Op} (hl : ops.toList.mapM (copOp P raws ops) = some l) (hd : drawOk ops l = true) {s : St} {n : Nat} (T : Track cf s n l)
    (hconf : confOk (feetL cf s n l) (confOf ops l) = true) {Q : Exit → Act → World → Prop} (hQ : ∀ a w, CG B (T.S l.length) (fun id => n + stride * l.length ≤ id) a w → Q .normal a w) :
    ∀ (fuel : Nat) (listed : Array Bool) (t : St) (a : Act) (w : World), listed.size = ops.size → listed.toList.count false ≤ fuel → Closed ops.toList (fun k => listed.getD k false = true) → T.Cons (fun k => listed.getD k false) t → CG B t (frE n l.length (fun k => listed.getD k false)) a w → wpAny P .any ops Q fuel listed a w := by
  have hlen := (mapM_at hl).1
  have hat := (mapM_at hl).2
  unfold drawOk at hd
  rw [Bool.and_eq_true] at hd
  obtain ⟨hdb, hpt⟩ := hd
  rw [List.all_eq_true] at hpt
  have hpair : ∀ i j, i < j → j < l.length → i ∉ (befs [] ops.toList).getD j [] → ∀ a b, l[i]? = some a → l[j]? = some b → apartT a b = true ∧ apart (T.F i).2 (T.F j).1 = true ∧ apart (T.F i).2 (T.F j).2 = true ∧ apart (T.F i).1 (T.F j).2 = true := by
    intro i j hij hj hn a b ha hb
    have hm := mem_openPairs hj hij hn
    have h1 := hpt _ hm
    unfold pairT at h1
    simp only [ha, hb] at h1
    refine ⟨h1, ?_⟩
    have qa := T.quiet i a ha
    have qb := T.quiet j b hb
    cases hq : pairQ l (i, j) with
    | true =>
      unfold pairQ at hq
      simp only [ha, hb] at hq
      unfold quietP at hq
      simp only [Bool.or_eq_true, Bool.and_eq_true] at hq
      rcases hq with (q | q) | q
      · rw [qa.1 q]; exact ⟨nil_apart, nil_apart, nil_apart⟩
      · rw [qb.1 q]; exact ⟨apart_nil, apart_nil, apart_nil⟩
      · rw [qa.2 q.1, qb.2 q.2]; exact ⟨nil_apart, nil_apart, apart_nil⟩
    | false =>
      have hin : (i, j) ∈ confOf ops l := by
        unfold confOf
        rw [List.mem_filter]
        exact ⟨hm, by simp [hq]⟩
      obtain ⟨fa, fb, e1, e2, q⟩ := confOk_mem hconf hin
      rw [(T.feet i a ha).1] at e1
      rw [(T.feet j b hb).1] at e2
      cases e1; cases e2
      exact q
  have hdone : ∀ (listed : Array Bool) (t : St) (a : Act) (w : World), (∀ k, k < l.length → listed.getD k false = true) → T.Cons (fun k => listed.getD k false) t → CG B t (frE n l.length (fun k => listed.getD k false)) a w → Q .normal a w := by
    intro listed t a w hall hc hg
    obtain ⟨h1, h2, h3⟩ := T.fin hc hall
    obtain ⟨O, M, F, c⟩ := hg
    have c' := c.congr (t := T.S l.length) h1.symm (fun id => (h2 id).symm) h3.symm
    refine hQ a w (CG.mono ⟨O, M, F, c'⟩ (fun id hid => ⟨by omega, fun j hj _ hq => ?_⟩))
    simp only [stride] at *
    omega
  intro fuel
  induction fuel with
  | zero =>
    intro listed t a w hsz hcnt hcl hc hg
    have hall : ∀ k, k < l.length → listed.getD k false = true := by
      intro k hk
      have hk' : k < listed.size := by rw [hsz]; simpa [hlen] using hk
      have h0 : listed.toList.count false = 0 := by omega
      rw [List.count_eq_zero] at h0
      cases hq : listed[k] with
      | true => simp [hk', hq]
      | false => exact absurd (by rw [← hq]; exact Array.getElem_mem_toList hk') h0
    refine ⟨?_, hdone listed t a w hall hc hg⟩
    apply List.eq_nil_iff_forall_not_mem.2
    intro j hj
    obtain ⟨h1, o, ho, _⟩ := mem_ready.1 hj
    have hk : j < l.length := by rw [hlen]; simpa using (Array.getElem?_eq_some_iff.1 ho).1
    have := hall j hk
    have hk' : j < listed.size := by rw [hsz]; simpa [hlen] using hk
    simp [hk'] at this h1
    rw [this] at h1; cases h1
  | succ fuel ih =>
    intro listed t a w hsz hcnt hcl hc hg
    refine ⟨fun hr => ?_, fun j hj => ?_⟩
    · refine hdone listed t a w (fun k hk => ?_) hc hg
      induction k using Nat.strongRecOn with
      | _ k ihk =>
        apply Classical.byContradiction
        intro hnot
        have hk' : k < ops.size := by simpa [hlen] using hk
        have ho : ops[k]? = some ops[k] := Array.getElem?_eq_getElem hk'
        have : k ∈ Region.ready .any ops listed := by
          rw [mem_ready]
          refine ⟨?_, ops[k], ho, fun e he hb => ?_⟩
          · have hks : k < listed.size := by rw [hsz]; exact hk'
            simp [hks] at hnot ⊢
            exact hnot
          · have hlt := depsBelow_at hdb k ops[k] (by simp [hk']) e.on (by
              unfold deps
              rw [List.mem_map]
              exact ⟨e, List.mem_filter.2 ⟨by simpa using he, hb⟩, rfl⟩)
            exact ihk e.on (by omega) (by omega)
        rw [hr] at this
        cases this
    · obtain ⟨h1, o, ho, hall⟩ := mem_ready.1 hj
      have hjs : j < ops.size := (Array.getElem?_eq_some_iff.1 ho).1
      have hjl : j < listed.size := by rw [hsz]; exact hjs
      have hE : listed.getD j false = false := by simp [hjl] at h1 ⊢; exact h1
      have hol : ops.toList[j]? = some o := by simpa using ho
      obtain ⟨op, hop, hlj⟩ := hat j o hol
      have hjl' : j < l.length := (List.getElem?_eq_some_iff.1 hlj).1
      have hdj : ∀ o', ops.toList[j]? = some o' → ∀ d ∈ deps o', listed.getD d false = true := by
        intro o' ho' d hdm
        rw [hol] at ho'; cases ho'
        unfold deps at hdm
        obtain ⟨e, he, rfl⟩ := List.mem_map.1 hdm
        rw [List.mem_filter] at he
        exact hall e (by simpa using he.1) he.2
      have hop2 : ∀ k o', l[k]? = some o' → k ≠ j → (listed.getD k false ≠ decide (k < j)) → (apartT op o' = true ∧ apartT o' op = true) ∧ apart (T.F k).2 (T.F j).1 = true ∧ apart (T.F k).2 (T.F j).2 = true := by
        intro k o' hk hkj hq
        have hkl : k < l.length := (List.getElem?_eq_some_iff.1 hk).1
        rcases Nat.lt_or_ge k j with q | q
        · have hf : listed.getD k false = false := by
            cases hz : listed.getD k false with
            | false => rfl
            | true => exact absurd (by rw [hz]; simp [q]) hq
          have hnb : k ∉ (befs [] ops.toList).getD j [] := by
            intro hin
            have := bef_closed (ops := ops.toList) hcl hin hdj
            rw [hf] at this; cases this
          have := hpair k j q hjl' hnb o' op hk hlj
          exact ⟨⟨apartT_symm this.1, this.1⟩, this.2.1, this.2.2.1⟩
        · have hlt : j < k := by omega
          have hf : listed.getD k false = true := by
            cases hz : listed.getD k false with
            | true => rfl
            | false => exact absurd (by rw [hz]; simp; omega) hq
          have hnb : j ∉ (befs [] ops.toList).getD k [] := by
            intro hin
            have := bef_closed (ops := ops.toList) hcl hin (fun o' ho' d hd' => hcl k o' ho' hf d hd')
            rw [hE] at this; cases this
          have := hpair j k hlt hkl hnb op o' hlj hk
          exact ⟨⟨this.1, apartT_symm this.1⟩, apart_symm this.2.2.2, apart_symm this.2.2.1⟩
      obtain ⟨t', hst, hc'⟩ := T.step hc hlj hE (fun k o' h1 h2 h3 => (hop2 k o' h1 h2 h3).1) (fun k o' h1 h2 h3 => (hop2 k o' h1 h2 h3).2)
      have hsd := stepOp_sound (P := P) (B := B) hcf hop hst hg (frE_has hE) Q
      have hfun : (fun k => (listed.setIfInBounds j true).getD k false) = (fun k => listed.getD k false || decide (k = j)) := by
        funext k
        by_cases e : k = j
        · subst e; simp [hjl]
        · rw [getD_set_ne false (Ne.symm e)]; simp [e]
      have hnx : ∀ a' w', CG B t' (fun id => frE n l.length (fun k => listed.getD k false) id ∧ ¬ (n + stride * j ≤ id ∧ id < n + stride * j + stride)) a' w' → wpAny P .any ops Q fuel (listed.setIfInBounds j true) a' w' := by
        intro a' w' hg'
        refine ih _ t' a' w' (by simp [hsz]) ?_ ?_ (by rw [hfun]; exact hc') ?_
        · have hb : listed.toList[j]'(by simpa using hjl) = false := by
            simp [hjl] at hE; simpa using hE
          have hpos : 0 < listed.toList.count false := List.count_pos_iff.2 (by rw [← hb]; exact List.getElem_mem _)
          rw [Array.toList_setIfInBounds, List.count_set (by simpa using hjl), hb]
          simp only [beq_self_eq_true, if_true]
          have : (true == false) = false := rfl
          rw [this]
          simp only [Bool.false_eq_true, if_false]
          omega
        · intro k o' ho' hk d hdm
          have hk := congrFun hfun k ▸ hk
          have := congrFun hfun d
          rw [this]
          rw [Bool.or_eq_true] at hk
          rcases hk with q | q
          · rw [hcl k o' ho' q d hdm]; rfl
          · simp at q; subst q
            rw [hdj o' ho' d hdm]; rfl
        · refine hg'.mono (fun id hid => ?_)
          rw [hfun] at hid
          refine ⟨⟨hid.1, fun k hk hEk => hid.2 k hk (by simp only [hEk]; rfl)⟩, hid.2 j hjl' (by simp)⟩
      unfold wpOp
      rw [ho]
      simp only
      split
      · next hw =>
        rw [hw] at hsd
        simp only [if_true] at hsd
        exact .inl (Oper.wp_mono hnx hsd)
      · next hw =>
        simp only [Bool.not_eq_true] at hw
        rw [hw] at hsd
        simp only [Bool.false_eq_true, if_false] at hsd
        exact hnx _ _ hsd

theorem CG.drawn {s : St} {Fr : Nat → Prop} {a : Act} {w : World} (h : CG B s Fr a w) : CG B s Fr a { w with drawn := w.drawn + 1 } := by
  obtain ⟨O, M, F, c⟩ := h
  have hst : ∀ X : Nat → Prop, Stp X w { w with drawn := w.drawn + 1 } := fun X => ⟨Nat.le_refl _, fun _ _ _ => rfl, fun _ _ => rfl, rfl, rfl, rfl⟩
  refine ⟨O, M, F, c.df, VRs.step (hst F) (fun _ _ q => q) (fun _ _ q => q) c.tr, ⟨fun id C hC => BR.step (hst (fun _ => False)) (fun _ q => q.elim) (fun _ _ q => q) (fun _ _ q => q) (fun b _ => ⟨fun q => q, fun q => q⟩) (fun q => q) (c.inv.blk id C hC), c.inv.mlt, c.inv.sub, c.inv.inj⟩, c.fresh, c.k0, c.kn, c.stp.trans (hst (fun _ => False)) (fun _ _ q => q.elim), c.keep, c.less, c.lessM, c.keepF, c.prov, c.mlt0⟩

theorem drawOps (hcf : CFok P cf) (hm : P.follows .mixedOrders = true) {id : Nat} {ops : Array Oper} {l : List Op} (hl : ops.toList.mapM (copOp P raws ops) = some l) (hd : drawOk ops l = true) {s s' : St} (hs : stepOps cf s s.next l = some s')
    (hc : confOk (feetL cf s s.next l) (confOf ops l) = true) {a : Act} {w : World} (hi : CI B s s.next a w) {Q : Exit → Act → World → Prop} (hQ : ∀ a w, CI B s' s'.next a w → Q .normal a w) : (Code.region id ops true).wp P Q a w := by
  obtain ⟨T, hT⟩ := track_of hs
  refine wp_region_any hm ?_
  have hnone : (fun k => (Array.replicate ops.size false).getD k false) = fun _ => false := by
    funext k
    by_cases h : k < ops.size <;> simp [h]
  refine drawRun hcf hl hd T hc (B := B) (fun a' w' hg => ?_) ops.size _ s a _ (by simp) ?_ ?_ ?_ ?_
  · refine hQ a' w' ?_
    rw [hT]
    obtain ⟨O, M, F, c⟩ := hg
    exact ⟨O, M, F, c.congr rfl (fun _ => rfl) rfl⟩
  · simp
  · intro j o _ hj
    have := congrFun hnone j
    rw [this] at hj; cases hj
  · rw [hnone]
    have := T.cons_below 0 (Nat.zero_le _)
    rw [T.s0] at this
    simpa using this
  · rw [hnone]
    exact (CG.drawn hi).mono (fun id hid => hid.1)
end
end Go.Proofs.YtklanpanmndakaaEv

/- A function's code as the evaluator's; what it comes to. -/
set_option linter.unusedVariables false
set_option linter.unusedSimpArgs false
namespace Go.Proofs.YtklanpanmndakaaEv

abbrev Ann := List Nat × List (Nat × Option Nat × Nat)
def copRegion (P : Program) (raws : Nat → List Bool) (ops : Array Oper) (draw : Bool) : Option C :=
  match ops.toList.mapM (copOp P raws ops) with
  | none => none
  | some l => if draw then (if P.follows .mixedOrders && drawOk ops l then some (.ops (some (confOf ops l)) l) else none) else some (.ops none l)
def copC (P : Program) (raws : Nat → List Bool) : Code → List Ann → Option (C × List Ann)
  | .skip, a => some (.skip, a)
  | .region _ ops d, a => match copRegion P raws ops d with | some c => some (c, a) | none => none
  | .seq x y, a => match copC P raws x a with
    | some (x', a') => match copC P raws y a' with
      | some (y', a'') => some (.seq x' y', a'')
      | none => none
    | none => none
  | .cond c x y, a => match copX c with
    | some c' => match copC P raws x a with
      | some (x', a') => match copC P raws y a' with
        | some (y', a'') => some (.cond c' x' y', a'')
        | none => none
      | none => none
    | none => none
  | .block id c, a => match copC P raws c a with | some (c', a') => some (.block id c', a') | none => none
  | .loop c, n :: a => match copC P raws c a with | some (c', a') => some (.loop n.1 n.2 c', a') | none => none
  | .exit id, a => some (.exit id, a)
  | .ret, a => some (.ret, a)
  | _, _ => none
def copF (P : Program) (raws : Nat → List Bool) (ann : List Ann) (f : Nat) : Option F :=
  match P.funcs[f]? with
  | none => none
  | some fn => if fn.name == "runtime.NumGoroutine" then none else
    match fn.body with
    | none => none
    | some c => match copC P raws c ann, fn.results.toList.mapM (copRV P) with
      | some (c', []), some rv => some { ntmps := fn.ntmps, res := rv, code := c' }
      | _, _ => none

def exOf : Ex → Exit
  | .normal => .normal
  | .exit id => .exit id
  | .ret => .ret
def QQ (B : Base) (ex : Ex) (s : St) : Exit → Act → World → Prop := fun e a w => e = exOf ex ∧ CI B s s.next a w

theorem exists_least {p : Nat → Prop} : ∀ n, p n → ∃ m, p m ∧ ∀ k, p k → m ≤ k := by
  intro n
  induction n using Nat.strongRecOn with
  | _ n ih =>
    intro h
    by_cases q : ∃ m, m < n ∧ p m
    · obtain ⟨m, q1, q2⟩ := q
      exact ih m q1 q2
    · refine ⟨n, h, fun k hk => ?_⟩
      rcases Nat.lt_or_ge k n with q' | q'
      · exact absurd ⟨k, q', hk⟩ q
      · exact q'
open Classical in
noncomputable def least (p : Nat → Prop) : Nat := if h : ∃ m, p m ∧ ∀ k, p k → m ≤ k then h.choose else 0
theorem least_spec {p : Nat → Prop} {n : Nat} (h : p n) : p (least p) ∧ ∀ k, p k → least p ≤ k := by
  unfold least
  have := exists_least n h
  rw [dif_pos this]
  exact this.choose_spec

section
variable {P : Program} {raws : Nat → List Bool} {B : Base} {cf : CF} {fuel : Nat}

theorem cond_val {s : St} {a : Act} {w : World} {n : Nat} (hc : CI B s n a w) {x : Operand} {y : X} (hx : copX x = some y) {b : Bool} (hv : s.val y = .bool b) : a.eval x = .bool b := by
  obtain ⟨O, M, F, c⟩ := hc
  have := TR.val (s := s) (a := a) ⟨c.tr⟩ hx
  rw [hv] at this
  cases hq : a.eval x <;> rw [hq] at this <;> cases this
  rfl

theorem evalC_sound (hcf : CFok P cf) : ∀ (code : Code) (ann ann' : List Ann) (c : C), copC P raws code ann = some (c, ann') → ∀ (s s' : St) (ex : Ex), evalC cf fuel c s = some (ex, s') → ∀ a w, CI B s s.next a w → code.wp P (QQ B ex s') a w
  | .skip, ann, ann', c, hc, s, s', ex, he, a, w, hi => by
    simp [copC] at hc; obtain ⟨rfl, rfl⟩ := hc
    simp [evalC] at he; obtain ⟨rfl, rfl⟩ := he
    exact wp_skip ⟨rfl, hi⟩
  | .exit id, ann, ann', c, hc, s, s', ex, he, a, w, hi => by
    simp [copC] at hc; obtain ⟨rfl, rfl⟩ := hc
    simp [evalC] at he; obtain ⟨rfl, rfl⟩ := he
    exact wp_exit ⟨rfl, hi⟩
  | .ret, ann, ann', c, hc, s, s', ex, he, a, w, hi => by
    simp [copC] at hc; obtain ⟨rfl, rfl⟩ := hc
    simp [evalC] at he; obtain ⟨rfl, rfl⟩ := he
    exact wp_ret ⟨rfl, hi⟩
  | .region id ops d, ann, ann', c, hc, s, s', ex, he, a, w, hi => by
    simp only [copC] at hc
    split at hc
    · next c' hr =>
      cases hc
      unfold copRegion at hr
      split at hr
      · cases hr
      · next l hl =>
        cases d with
        | false =>
          simp at hr; subst hr
          simp only [evalC] at he
          split at he
          · next s1 hs =>
            cases he
            refine wp_region ?_
            have hlen : l.length = ops.size := by
              have : ∀ (xs : List Oper) (ys : List Op), xs.mapM (copOp P raws ops) = some ys → ys.length = xs.length := by
                intro xs
                induction xs with
                | nil => intro ys h; simp at h; subst h; rfl
                | cons x xs ih =>
                  intro ys h
                  rw [List.mapM_cons] at h
                  cases h1 : copOp P raws ops x with
                  | none => rw [h1] at h; cases h
                  | some y =>
                    cases h2 : xs.mapM (copOp P raws ops) with
                    | none => rw [h1, h2] at h; cases h
                    | some ys' => rw [h1, h2] at h; cases h; simp [ih ys' h2]
              have := this _ _ hl; simpa using this
            have := seqOps hcf ops (QQ B .normal s') s' (fun a w h => ⟨rfl, h⟩) l 0 s s.next a w (by simpa using hl) hs hi
            rw [hlen, ← List.range_eq_range'] at this
            exact this
          · cases he
        | true =>
          simp only [if_true] at hr
          split at hr
          · next hd =>
            simp only [Bool.and_eq_true] at hd
            cases hr
            simp only [evalC] at he
            split at he
            · next s1 hs =>
              split at he
              · next hcf2 =>
                cases he
                exact drawOps hcf hd.1 hl hd.2 hs hcf2 hi (fun a w h => ⟨rfl, h⟩)
              · cases he
            · cases he
          · cases hr
    · cases hc
  | .seq x y, ann, ann', c, hc, s, s', ex, he, a, w, hi => by
    simp only [copC] at hc
    split at hc
    · next x' a' hx =>
      split at hc
      · next y' a'' hy =>
        cases hc
        simp only [evalC] at he
        refine wp_seq ?_
        cases h1 : evalC cf fuel x' s with
        | none => rw [h1] at he; cases he
        | some p =>
          obtain ⟨ex1, s1⟩ := p
          rw [h1] at he
          refine wp_mono (evalC_sound hcf x ann a' x' hx s s1 ex1 h1 a w hi) ?_
          rintro e a2 w2 ⟨rfl, hi2⟩
          cases ex1 with
          | normal => exact evalC_sound hcf y a' ann' y' hy s1 s' ex he a2 w2 hi2
          | exit id => cases he; exact ⟨rfl, hi2⟩
          | ret => cases he; exact ⟨rfl, hi2⟩
      · cases hc
    · cases hc
  | .cond co x y, ann, ann', c, hc, s, s', ex, he, a, w, hi => by
    simp only [copC] at hc
    split at hc
    · next c' hco =>
      split at hc
      · next x' a' hx =>
        split at hc
        · next y' a'' hy =>
          cases hc
          simp only [evalC] at he
          split at he
          · next b hb =>
            refine wp_cond (cond_val hi hco hb) ?_
            cases b with
            | true => simp only [if_true] at he ⊢; exact evalC_sound hcf x ann a' x' hx s s' ex he a w hi
            | false => simp only [Bool.false_eq_true, if_false] at he ⊢; exact evalC_sound hcf y a' ann' y' hy s s' ex he a w hi
          · cases he
        · cases hc
      · cases hc
    · cases hc
  | .block id b, ann, ann', c, hc, s, s', ex, he, a, w, hi => by
    simp only [copC] at hc
    split at hc
    · next b' a' hb =>
      cases hc
      simp only [evalC] at he
      refine wp_block ?_
      cases h1 : evalC cf fuel b' s with
      | none => rw [h1] at he; cases he
      | some p =>
        obtain ⟨ex1, s1⟩ := p
        rw [h1] at he
        refine wp_mono (evalC_sound hcf b ann ann' b' hb s s1 ex1 h1 a w hi) ?_
        rintro e a2 w2 ⟨rfl, hi2⟩
        cases ex1 with
        | normal => cases he; exact ⟨rfl, hi2⟩
        | exit i =>
          simp only at he
          simp only [exOf, Exit.inBlock]
          split
          · next q => rw [if_pos q] at he; cases he; exact ⟨rfl, hi2⟩
          · next q => rw [if_neg q] at he; cases he; exact ⟨rfl, hi2⟩
        | ret => cases he; exact ⟨rfl, hi2⟩
    · cases hc
  | .loop b, [], ann', c, hc, s, s', ex, he, a, w, hi => by simp [copC] at hc
  | .loop b, n :: ann, ann', c, hc, s, s', ex, he, a, w, hi => by
    simp only [copC] at hc
    split at hc
    · next b' a' hb =>
      cases hc
      simp only [evalC] at he
      refine wp_loop (fun a w => ∃ m t, iter (fun s => evalC cf fuel b' (canonS n.1 n.2 s)) m t = some (ex, s') ∧ CI B t t.next a w)
        (fun a w => least fun m => ∃ t, iter (fun s => evalC cf fuel b' (canonS n.1 n.2 s)) m t = some (ex, s') ∧ CI B t t.next a w) ⟨fuel, s, he, hi⟩ ?_
      rintro a w ⟨m0, t0, h0, hi0⟩
      have hls := least_spec (p := fun m => ∃ t, iter (fun s => evalC cf fuel b' (canonS n.1 n.2 s)) m t = some (ex, s') ∧ CI B t t.next a w) ⟨t0, h0, hi0⟩
      generalize hm : least (fun m => ∃ t, iter (fun s => evalC cf fuel b' (canonS n.1 n.2 s)) m t = some (ex, s') ∧ CI B t t.next a w) = m at hls ⊢
      obtain ⟨⟨t, ht, hit⟩, _⟩ := hls
      cases m with
      | zero => simp [iter] at ht
      | succ m =>
        simp only [iter] at ht
        have hcan := canonS_sound n.1 n.2 hit
        cases h1 : evalC cf fuel b' (canonS n.1 n.2 t) with
        | none => rw [h1] at ht; cases ht
        | some p =>
          obtain ⟨ex1, s1⟩ := p
          rw [h1] at ht
          refine wp_mono (evalC_sound hcf b ann ann' b' hb _ s1 ex1 h1 a w hcan) ?_
          rintro e a2 w2 ⟨rfl, hi2⟩
          cases ex1 with
          | normal =>
            refine ⟨⟨m, s1, ht, hi2⟩, ?_⟩
            have := (least_spec (p := fun m => ∃ t, iter (fun s => evalC cf fuel b' (canonS n.1 n.2 s)) m t = some (ex, s') ∧ CI B t t.next a2 w2) ⟨s1, ht, hi2⟩).2 m ⟨s1, ht, hi2⟩
            omega
          | exit i => cases ht; exact ⟨rfl, hi2⟩
          | ret => cases ht; exact ⟨rfl, hi2⟩
    · cases hc
  | .rangeFunc _ _ _ _, ann, ann', c, hc, s, s', ex, he, a, w, hi => by cases ann <;> simp [copC] at hc
  | .scope _, ann, ann', c, hc, s, s', ex, he, a, w, hi => by cases ann <;> simp [copC] at hc
  | .label _, ann, ann', c, hc, s, s', ex, he, a, w, hi => by cases ann <;> simp [copC] at hc
  | .goto _, ann, ann', c, hc, s, s', ex, he, a, w, hi => by cases ann <;> simp [copC] at hc
  | .refuse _, ann, ann', c, hc, s, s', ex, he, a, w, hi => by cases ann <;> simp [copC] at hc

/-- the end of a call -/
theorem finish_sound {fn : Func} {f : F} {r : PV} {H H' : List (Option Blk)} (hr : fn.results.toList.mapM (copRV P) = some f.res) {s : St} (hf : finish f s = some (r, H')) {w0 : World} {O0 : Nat → Option Nat} {M0 F0 : Nat → Prop} {a : Act} {w : World}
    (hi : CI ⟨w0, O0, M0, F0, H.length, heapOf 0 H⟩ s s.next a w) : a.defers = [] ∧ ∃ v, (results fn a.tmps).run P w = .ok v w ∧ ∃ O' M' F', VR w O' F' r v ∧ Inv w O' M' F' (heapOf 0 H') ∧ Stp M0 w0 w ∧ (∀ id, id < H.length → O' id = O0 id) ∧
      (∀ b, b < w0.heap.size → F' b → F0 b) ∧ (∀ b, b < w0.heap.size → M' b → M0 b) ∧ (∀ b, F0 b → ¬ M0 b → F' b) ∧
      (∀ id b B, hget (heapOf 0 H') id = some B → O' id = some b → w0.heap.size ≤ b ∨ ∃ j C, hget (heapOf 0 H) j = some C ∧ O0 j = some b) := by
  obtain ⟨O, M, F, c⟩ := hi
  refine ⟨c.df, ?_⟩
  unfold finish at hf
  split at hf
  · cases hf
  · next vs hvs =>
    obtain ⟨cs, k1, k2⟩ := resVs_sound (P := P) c.inv c.tr _ _ _ hr hvs
    have hrun : (results fn a.tmps).run P w = .ok (if h : cs.toArray.size = 1 then cs.toArray[0] else .tuple cs.toArray) w := by
      have e1 : fn.results.mapM (resOf a) = List.toArray <$> fn.results.toList.mapM (resOf a) := by
        rw [← Array.mapM_eq_mapM_toList]
      have e2 : results fn a.tmps = (do let vs ← fn.results.mapM (resOf a); pure (if h : vs.size = 1 then vs[0] else .tuple vs)) := rfl
      rw [e2, e1]
      simp [k1]
    simp only at hf
    have hv : VR w O F (resOne vs) (if h : cs.toArray.size = 1 then cs.toArray[0] else .tuple cs.toArray) := by
      cases k2 with
      | nil => exact .tup .nil
      | cons h1 h2 =>
        cases h2 with
        | nil => simpa [resOne] using h1
        | cons h3 h4 =>
          have := VR.tup (.cons h1 (.cons h3 h4))
          simpa [resOne] using this
    obtain ⟨p1, p2, p3⟩ := reach_spec s.heap 100 (keptIds s.heap s.k0 ++ (resOne vs).ids) (List.range s.k0) List.nodup_range
    obtain ⟨g1, g2, g3, g4⟩ := renum c.inv p1
    cases hf
    refine ⟨_, hrun, _, _, F, VR.mapId g2 hv, g1, c.stp, fun id hid => ?_, c.less, fun b hb q => c.lessM b hb q.1, c.keepF, fun id b C hC hb => ?_⟩
    · have hk : s.k0 = H.length := c.k0
      have : (reach s.heap 100 (keptIds s.heap s.k0 ++ (resOne vs).ids) (List.range s.k0))[id]? = some id := range_prefix p3 (by omega)
      unfold OS; rw [this]
      exact c.keep id hid
    · obtain ⟨i, D, q1, q2, q3⟩ := g4 id C hC
      rw [q3] at hb
      exact c.prov i b D q2 hb

/-- what the evaluator knows of the functions -/
def EnvOk (P : Program) (raws : Nat → List Bool) (env : Env) : Prop := ∀ f d, env f = some d → match d with
  | .body d => ∃ ann, copF P raws ann f = some d
  | .prim g => Callable P f ∧ ∀ args H r H', g args H = some (r, H') → FSpec P f args H r H'

theorem evalF_sound {env : Env} (henv : EnvOk P raws env) : ∀ n, CFok P (evalF env n)
  | 0 => fun f args H r H' h => by simp [evalF] at h
  | n + 1 => fun f args H r H' h => by
    simp only [evalF] at h
    split at h
    · cases h
    · next g hg => have := henv f _ hg; exact ⟨this.1, this.2 args H r H' h⟩
    · next d hd =>
      obtain ⟨ann, hann⟩ := henv f _ hd
      unfold copF at hann
      split at hann
      · cases hann
      · next fn hfn =>
        split at hann
        · cases hann
        · next hname =>
          split at hann
          · cases hann
          · next c hb =>
            split at hann
            · next c' rv hc hrv =>
              have hd' : d = { ntmps := fn.ntmps, res := rv, code := c' } := by cases hann; rfl
              have hres : fn.results.toList.mapM (copRV P) = some d.res := by rw [hd']; exact hrv
              refine ⟨⟨fn, c, hfn, hb, by simpa using hname⟩, ?_⟩
              intro w O M F vs hv hI hO
              have hstart : CI ⟨w, O, M, F, H.length, heapOf 0 H⟩ (start d args H) (start d args H).next { tmps := vs.toArray ++ Array.replicate (fn.ntmps - vs.toArray.size) undef, defers := [] } w := by
                refine ⟨O, M, F, rfl, ?_, hI, fun id hid => ⟨hO id hid, ?_⟩, rfl, fun id hid => hid, .refl _ _, fun _ _ => rfl, fun _ _ q => q, fun _ _ q => q, fun _ q _ => q, fun id b C hC hb => .inr ⟨id, C, hC, hb⟩, hI.mlt⟩
                · have hl := hv.length
                  have e1 : (vs.toArray ++ Array.replicate (fn.ntmps - vs.toArray.size) undef).toList = vs ++ List.replicate (d.ntmps - args.length) undef := by
                    rw [hd']; simp [hl]
                  rw [e1]
                  refine hv.append ?_
                  exact VRs.replicate (.undef _) _
                · show hget (heapOf 0 H) id = none
                  rw [hget_heapOf0]
                  rw [List.getElem?_eq_none (by exact hid)]; rfl
              have hev : ∀ ex s, evalC (evalF env n) n d.code (start d args H) = some (ex, s) → c.wp P (QQ ⟨w, O, M, F, H.length, heapOf 0 H⟩ ex s) { tmps := vs.toArray ++ Array.replicate (fn.ntmps - vs.toArray.size) undef, defers := [] } w := fun ex s h => by
                refine evalC_sound (fuel := n) (evalF_sound henv n) c ann [] c' hc _ s ex ?_ _ w hstart
                rw [hd'] at h ⊢; exact h
              refine calls_of_wp hfn hb ?_
              split at h
              · next s hs =>
                refine wp_mono (hev _ _ hs) ?_
                rintro e a2 w2 ⟨rfl, hi2⟩
                obtain ⟨q1, v, q2, q3⟩ := finish_sound hres h hi2
                exact ⟨q1, v, q2, v, rfl, q3⟩
              · next s hs =>
                refine wp_mono (hev _ _ hs) ?_
                rintro e a2 w2 ⟨rfl, hi2⟩
                obtain ⟨q1, v, q2, q3⟩ := finish_sound hres h hi2
                exact ⟨q1, v, q2, v, rfl, q3⟩
              · cases h
            · cases hann
end
end Go.Proofs.YtklanpanmndakaaEv

/- The evaluator without its fuel. -/
set_option linter.unusedVariables false
set_option linter.unusedSimpArgs false
namespace Go.Proofs.YtklanpanmndakaaEv

abbrev Qy := Nat × List PV × List (Option Blk)
def CF.at (cf : CF) (q : Qy) : Option (PV × List (Option Blk)) := cf q.1 q.2.1 q.2.2
/-- what has been asked of cf is answered alike by cf' -/
def Same (cf cf' : CF) (L : List Qy) : Prop := ∀ q ∈ L, cf'.at q = cf.at q
def Had (cf : CF) (L : List Qy) : Prop := ∀ q ∈ L, (cf.at q).isSome = true

theorem doCall_sup {cf : CF} {new : Nat} {h : Heap} {f : Nat} {b : Bool} {raw : List Bool} {vs : List PV} {x : PV × Upd} (hx : doCall cf new h f b raw vs = some x) : ∃ L, Had cf L ∧ ∀ cf', Same cf cf' L → doCall cf' new h f b raw vs = some x := by
  unfold doCall at hx
  simp only at hx
  cases he : idsL (argsOf h raw vs) with
  | nil =>
    rw [he] at hx
    simp only at hx
    refine ⟨[(f, argsOf h raw vs, [])], ?_, fun cf' hs => ?_⟩
    · intro q hq
      simp at hq; subst hq
      simp only [CF.at]
      cases hc : cf f (argsOf h raw vs) [] with
      | none => rw [hc] at hx; cases hx
      | some p => rfl
    · have := hs _ (List.mem_singleton.2 rfl)
      simp only [CF.at] at this
      unfold doCall
      simp only
      rw [he]
      simp only
      rw [this]
      exact hx
  | cons i is =>
    rw [he] at hx
    simp only at hx
    refine ⟨[(f, mapIds (idxIn (reach h 100 (i :: is) [])) (argsOf h raw vs), (reach h 100 (i :: is) []).map fun j => (hget h j).map (Blk.mapId (idxIn (reach h 100 (i :: is) []))))], ?_, fun cf' hs => ?_⟩
    · intro q hq
      simp at hq; subst hq
      simp only [CF.at]
      split at hx
      · cases hx
      · split at hx
        · cases hx
        · split at hx
          · cases hx
          · next h1 => rw [h1]; rfl
    · have := hs _ (List.mem_singleton.2 rfl)
      simp only [CF.at] at this
      unfold doCall
      simp only
      rw [he]
      simp only
      rw [this]
      exact hx
theorem evalK_sup {cf : CF} {k : K} {new : Nat} {e : X → PV} {h : Heap} {x : PV × Upd} (hx : evalK cf k new e h = some x) : ∃ L, Had cf L ∧ ∀ cf', Same cf cf' L → evalK cf' k new e h = some x := by
  cases k
  case call f b raw args => exact doCall_sup (vs := args.map e) hx
  case callv b raw f args =>
    simp only [evalK] at hx ⊢
    split at hx
    · next g a c hf => exact doCall_sup hx
    · cases hx
  all_goals exact ⟨[], fun q hq => by simp at hq, fun cf' _ => hx⟩
theorem stepOp_sup {cf : CF} {s s' : St} {new : Nat} {o : Op} (hx : stepOp cf s new o = some s') : ∃ L, Had cf L ∧ ∀ cf', Same cf cf' L → stepOp cf' s new o = some s' ∧ feet cf' s new o = feet cf s new o := by
  unfold stepOp at hx
  unfold stepOp feet
  cases hw : wantedO s o with
  | none => rw [hw] at hx; cases hx
  | some b =>
    rw [hw] at hx
    cases b with
    | false => exact ⟨[], fun q hq => by simp at hq, fun cf' _ => ⟨hx, rfl⟩⟩
    | true =>
      simp only at hx ⊢
      cases he : evalK cf o.k new s.val s.heap with
      | none => rw [he] at hx; cases hx
      | some p =>
        obtain ⟨L, h1, h2⟩ := evalK_sup he
        refine ⟨L, h1, fun cf' hs => ?_⟩
        rw [h2 cf' hs]
        rw [he] at hx
        exact ⟨hx, rfl⟩
theorem Had.append {cf : CF} {L M : List Qy} (h1 : Had cf L) (h2 : Had cf M) : Had cf (L ++ M) := fun q hq => (List.mem_append.1 hq).elim (h1 q) (h2 q)
theorem Same.left {cf cf' : CF} {L M : List Qy} (h : Same cf cf' (L ++ M)) : Same cf cf' L := fun q hq => h q (List.mem_append_left _ hq)
theorem Same.right {cf cf' : CF} {L M : List Qy} (h : Same cf cf' (L ++ M)) : Same cf cf' M := fun q hq => h q (List.mem_append_right _ hq)
theorem stepOps_sup {cf : CF} : ∀ (l : List Op) {s s' : St} {new : Nat}, stepOps cf s new l = some s' → ∃ L, Had cf L ∧ ∀ cf', Same cf cf' L → stepOps cf' s new l = some s' ∧ feetL cf' s new l = feetL cf s new l
  | [], s, s', new, h => ⟨[], fun q hq => by simp at hq, fun cf' _ => ⟨h, rfl⟩⟩
  | o :: l, s, s', new, h => by
    simp only [stepOps] at h
    cases h1 : stepOp cf s new o with
    | none => rw [h1] at h; cases h
    | some s1 =>
      rw [h1] at h
      obtain ⟨L, a1, a2⟩ := stepOp_sup h1
      obtain ⟨M, b1, b2⟩ := stepOps_sup l h
      refine ⟨L ++ M, a1.append b1, fun cf' hs => ?_⟩
      obtain ⟨q1, q2⟩ := a2 cf' hs.left
      obtain ⟨q3, q4⟩ := b2 cf' hs.right
      refine ⟨by simp only [stepOps, q1]; exact q3, by simp only [feetL, q1, h1, q2, q4]⟩
theorem evalC_sup {cf : CF} {m : Nat} : ∀ (c : C) {s : St} {r : Ex × St}, evalC cf m c s = some r → ∃ L, Had cf L ∧ ∀ cf' m', m ≤ m' → Same cf cf' L → evalC cf' m' c s = some r
  | .skip, s, r, h => ⟨[], fun q hq => by simp at hq, fun cf' m' _ _ => h⟩
  | .exit _, s, r, h => ⟨[], fun q hq => by simp at hq, fun cf' m' _ _ => h⟩
  | .ret, s, r, h => ⟨[], fun q hq => by simp at hq, fun cf' m' _ _ => h⟩
  | .ops conf l, s, r, h => by
    simp only [evalC] at h
    cases h1 : stepOps cf s s.next l with
    | none => rw [h1] at h; cases h
    | some s1 =>
      rw [h1] at h
      obtain ⟨L, a1, a2⟩ := stepOps_sup l h1
      refine ⟨L, a1, fun cf' m' _ hs => ?_⟩
      obtain ⟨q1, q2⟩ := a2 cf' hs
      simp only [evalC, q1, q2]
      exact h
  | .seq a b, s, r, h => by
    simp only [evalC] at h
    cases h1 : evalC cf m a s with
    | none => rw [h1] at h; cases h
    | some p =>
      obtain ⟨ex, s1⟩ := p
      rw [h1] at h
      obtain ⟨L, a1, a2⟩ := evalC_sup a h1
      cases ex with
      | normal =>
        obtain ⟨M, b1, b2⟩ := evalC_sup b h
        refine ⟨L ++ M, a1.append b1, fun cf' m' hm hs => ?_⟩
        simp only [evalC, a2 cf' m' hm hs.left]
        exact b2 cf' m' hm hs.right
      | exit i => exact ⟨L, a1, fun cf' m' hm hs => by simp only [evalC, a2 cf' m' hm hs]; exact h⟩
      | ret => exact ⟨L, a1, fun cf' m' hm hs => by simp only [evalC, a2 cf' m' hm hs]; exact h⟩
  | .cond x a b, s, r, h => by
    simp only [evalC] at h ⊢
    split at h
    · next c hc =>
      cases c with
      | true =>
        simp only [if_true] at h ⊢
        exact evalC_sup a h
      | false =>
        simp only [Bool.false_eq_true, if_false] at h ⊢
        exact evalC_sup b h
    · cases h
  | .block id c, s, r, h => by
    simp only [evalC] at h
    cases h1 : evalC cf m c s with
    | none => rw [h1] at h; cases h
    | some p =>
      obtain ⟨L, a1, a2⟩ := evalC_sup c h1
      rw [h1] at h
      exact ⟨L, a1, fun cf' m' hm hs => by simp only [evalC, a2 cf' m' hm hs]; exact h⟩
  | .loop lv pro c, s, r, h => by
    simp only [evalC] at h
    have key : ∀ (n : Nat) (s : St), iter (fun s => evalC cf m c (canonS lv pro s)) n s = some r → ∃ L, Had cf L ∧ ∀ cf' m' n', m ≤ m' → n ≤ n' → Same cf cf' L → iter (fun s => evalC cf' m' c (canonS lv pro s)) n' s = some r := by
      intro n
      induction n with
      | zero => intro s h; cases h
      | succ n ih =>
        intro s h
        simp only [iter] at h
        cases h1 : evalC cf m c (canonS lv pro s) with
        | none => rw [h1] at h; cases h
        | some p =>
          obtain ⟨ex, s1⟩ := p
          rw [h1] at h
          obtain ⟨L, a1, a2⟩ := evalC_sup c h1
          cases ex with
          | normal =>
            obtain ⟨M, b1, b2⟩ := ih s1 h
            refine ⟨L ++ M, a1.append b1, fun cf' m' n' hm hn hs => ?_⟩
            cases n' with
            | zero => omega
            | succ n' =>
              simp only [iter, a2 cf' m' hm hs.left]
              exact b2 cf' m' n' hm (by omega) hs.right
          | exit i =>
            refine ⟨L, a1, fun cf' m' n' hm hn hs => ?_⟩
            cases n' with
            | zero => omega
            | succ n' => simp only [iter, a2 cf' m' hm hs]; exact h
          | ret =>
            refine ⟨L, a1, fun cf' m' n' hm hn hs => ?_⟩
            cases n' with
            | zero => omega
            | succ n' => simp only [iter, a2 cf' m' hm hs]; exact h
    obtain ⟨L, a1, a2⟩ := key m s h
    exact ⟨L, a1, fun cf' m' hm hs => by simp only [evalC]; exact a2 cf' m' m' hm hm hs⟩

theorem evalF_mono {env : Env} : ∀ (n : Nat) {f : Nat} {a : List PV} {H : List (Option Blk)} {x : PV × List (Option Blk)}, evalF env n f a H = some x → ∀ n', n ≤ n' → evalF env n' f a H = some x
  | 0, f, a, H, x, h, n', hn => by cases h
  | n + 1, f, a, H, x, h, 0, hn => by omega
  | n + 1, f, a, H, x, h, n' + 1, hn => by
    simp only [evalF] at h ⊢
    split at h
    · cases h
    · exact h
    · next d hd =>
      cases h1 : evalC (evalF env n) n d.code (start d a H) with
      | none => rw [h1] at h; cases h
      | some p =>
        obtain ⟨L, a1, a2⟩ := evalC_sup _ h1
        have : evalC (evalF env n') n' d.code (start d a H) = some p := by
          refine a2 _ _ (by omega) (fun q hq => ?_)
          have hs := a1 q hq
          simp only [CF.at] at hs ⊢
          obtain ⟨y, hy⟩ := Option.isSome_iff_exists.1 hs
          rw [hy]
          exact evalF_mono n hy n' (by omega)
        rw [this]
        rw [h1] at h
        exact h

open Classical in
/-- what a call comes to, however long it takes -/
noncomputable def ev (env : Env) : CF := fun f a H => if h : ∃ n x, evalF env n f a H = some x then some h.choose_spec.choose else none
theorem ev_eq {env : Env} {n f : Nat} {a : List PV} {H : List (Option Blk)} {x : PV × List (Option Blk)} (h : evalF env n f a H = some x) : ev env f a H = some x := by
  have hx : ∃ n x, evalF env n f a H = some x := ⟨n, x, h⟩
  unfold ev
  rw [dif_pos hx]
  have h1 := hx.choose_spec.choose_spec
  have h2 := evalF_mono _ h1 (max n hx.choose) (Nat.le_max_right _ _)
  rw [evalF_mono _ h _ (Nat.le_max_left _ _)] at h2
  exact h2.symm
theorem ev_some {env : Env} {f : Nat} {a : List PV} {H : List (Option Blk)} {x : PV × List (Option Blk)} (h : ev env f a H = some x) : ∃ n, evalF env n f a H = some x := by
  unfold ev at h
  split at h
  · next hx =>
    refine ⟨hx.choose, ?_⟩
    rw [hx.choose_spec.choose_spec]
    exact h
  · cases h
theorem ev_sound {P : Program} {raws : Nat → List Bool} {env : Env} (h : EnvOk P raws env) : CFok P (ev env) := fun f args H r H' hx => by
  obtain ⟨n, hn⟩ := ev_some hx
  exact evalF_sound h n f args H r H' hn
theorem ev_prim {env : Env} {f : Nat} {g} (hf : env f = some (.prim g)) (a : List PV) (H : List (Option Blk)) {x} (h : g a H = some x) : ev env f a H = some x :=
  ev_eq (n := 1) (by simp only [evalF, hf]; exact h)
theorem ev_body {env : Env} {f : Nat} {d : F} (hf : env f = some (.body d)) {a : List PV} {H : List (Option Blk)} {m : Nat} {ex : Ex} {s : St} (h : evalC (ev env) m d.code (start d a H) = some (ex, s)) (he : ex = .normal ∨ ex = .ret) {x} (hx : finish d s = some x) : ev env f a H = some x := by
  obtain ⟨L, a1, a2⟩ := evalC_sup _ h
  have : ∃ N, m ≤ N ∧ Same (ev env) (evalF env N) L := by
    clear h hx a2
    induction L with
    | nil => exact ⟨m, Nat.le_refl _, fun q hq => by simp at hq⟩
    | cons q L ih =>
      obtain ⟨N, h1, h2⟩ := ih (fun q hq => a1 q (List.mem_cons_of_mem _ hq))
      have hs := a1 q List.mem_cons_self
      obtain ⟨y, hy⟩ := Option.isSome_iff_exists.1 hs
      simp only [CF.at] at hy
      obtain ⟨n, hn⟩ := ev_some hy
      refine ⟨max N n, by omega, fun q' hq' => ?_⟩
      simp only [CF.at]
      rcases List.mem_cons.1 hq' with e | e
      · subst e
        rw [hy]
        exact evalF_mono _ hn _ (Nat.le_max_right _ _)
      · have h3 := h2 q' e
        have h4 := a1 q' hq'
        obtain ⟨z, hz⟩ := Option.isSome_iff_exists.1 h4
        simp only [CF.at] at h3 hz
        rw [hz] at h3 ⊢
        exact evalF_mono _ h3 _ (Nat.le_max_left _ _)
  obtain ⟨N, hN, hs⟩ := this
  refine ev_eq (n := N + 1) ?_
  simp only [evalF, hf]
  rw [a2 _ N hN hs]
  rcases he with rfl | rfl <;> exact hx

/-- code comes to an end, of which Q holds -/
def W (cf : CF) (c : C) (s : St) (Q : Ex → St → Prop) : Prop := ∃ m ex s', evalC cf m c s = some (ex, s') ∧ Q ex s'
def QSeq (cf : CF) (b : C) (Q : Ex → St → Prop) : Ex → St → Prop
  | .normal, s => W cf b s Q
  | .exit i, s => Q (.exit i) s
  | .ret, s => Q .ret s
def QBlock (id : Nat) (Q : Ex → St → Prop) : Ex → St → Prop
  | .normal, s => Q .normal s
  | .exit i, s => if i = id then Q .normal s else Q (.exit i) s
  | .ret, s => Q .ret s
def QLoop (cf : CF) (lv : List Nat) (pro : List (Nat × Option Nat × Nat)) (c : C) (Q : Ex → St → Prop) : Ex → St → Prop
  | .normal, s => W cf (.loop lv pro c) s Q
  | .exit i, s => Q (.exit i) s
  | .ret, s => Q .ret s
def QFin (d : F) (x : PV × List (Option Blk)) : Ex → St → Prop
  | .normal, s => finish d s = some x
  | .exit _, _ => False
  | .ret, s => finish d s = some x
/-- the rest of a region -/
def WOps (cf : CF) (s : St) (new : Nat) (l : List Op) (K : St → Prop) : Prop := ∃ s', stepOps cf s new l = some s' ∧ K s'
/-- an operation's answer, and on -/
def WV (o : Option (PV × Upd)) (K : PV → Upd → Prop) : Prop := ∃ r u, o = some (r, u) ∧ K r u
def WB (o : Option Bool) (K : Bool → Prop) : Prop := ∃ b, o = some b ∧ K b

section
variable {cf : CF} {s : St} {Q : Ex → St → Prop}
theorem evalC_mono {m m' : Nat} {c : C} {r : Ex × St} (h : evalC cf m c s = some r) (hm : m ≤ m') : evalC cf m' c s = some r := by
  obtain ⟨L, _, h2⟩ := evalC_sup c h
  exact h2 cf m' hm (fun _ _ => rfl)
theorem W.skip (h : Q .normal s) : W cf .skip s Q := ⟨0, .normal, s, rfl, h⟩
theorem W.exit {i : Nat} (h : Q (.exit i) s) : W cf (.exit i) s Q := ⟨0, .exit i, s, rfl, h⟩
theorem W.ret (h : Q .ret s) : W cf .ret s Q := ⟨0, .ret, s, rfl, h⟩
theorem W.seq {a b : C} (h : W cf a s (QSeq cf b Q)) : W cf (.seq a b) s Q := by
  obtain ⟨m, ex, s1, h1, h2⟩ := h
  cases ex with
  | normal =>
    obtain ⟨m2, ex2, s2, h3, h4⟩ := h2
    refine ⟨max m m2, ex2, s2, ?_, h4⟩
    simp only [evalC, evalC_mono h1 (Nat.le_max_left _ _)]
    exact evalC_mono h3 (Nat.le_max_right _ _)
  | exit i => exact ⟨m, .exit i, s1, by simp only [evalC, h1], h2⟩
  | ret => exact ⟨m, .ret, s1, by simp only [evalC, h1], h2⟩
theorem W.cond {x : X} {a b : C} {v : Bool} (hv : s.val x = .bool v) (h : if v = true then W cf a s Q else W cf b s Q) : W cf (.cond x a b) s Q := by
  cases v with
  | true =>
    obtain ⟨m, ex, s', h1, h2⟩ := h
    exact ⟨m, ex, s', by simp only [evalC, hv, if_true]; exact h1, h2⟩
  | false =>
    obtain ⟨m, ex, s', h1, h2⟩ := h
    exact ⟨m, ex, s', by simp only [evalC, hv, Bool.false_eq_true, if_false]; exact h1, h2⟩
theorem W.block {id : Nat} {c : C} (h : W cf c s (QBlock id Q)) : W cf (.block id c) s Q := by
  obtain ⟨m, ex, s', h1, h2⟩ := h
  cases ex with
  | normal => exact ⟨m, .normal, s', by simp only [evalC, h1], h2⟩
  | exit i =>
    simp only [QBlock] at h2
    split at h2
    · next e => exact ⟨m, .normal, s', by simp only [evalC, h1]; rw [if_pos e], h2⟩
    · next e => exact ⟨m, .exit i, s', by simp only [evalC, h1]; rw [if_neg e], h2⟩
  | ret => exact ⟨m, .ret, s', by simp only [evalC, h1], h2⟩
theorem iter_mono {body : St → Option (Ex × St)} : ∀ {n : Nat} {s : St} {r}, iter body n s = some r → ∀ {n'}, n ≤ n' → iter body n' s = some r
  | 0, s, r, h, n', hn => by cases h
  | n + 1, s, r, h, 0, hn => by omega
  | n + 1, s, r, h, n' + 1, hn => by
    simp only [iter] at h ⊢
    split at h
    · next s1 h1 => exact iter_mono h (by omega)
    · exact h
theorem W.loop {lv : List Nat} {pro : List (Nat × Option Nat × Nat)} {c : C} (h : W cf c (canonS lv pro s) (QLoop cf lv pro c Q)) : W cf (.loop lv pro c) s Q := by
  obtain ⟨m, ex, s1, h1, h2⟩ := h
  cases ex with
  | normal =>
    obtain ⟨m2, ex2, s2, h3, h4⟩ := h2
    refine ⟨max m m2 + 1, ex2, s2, ?_, h4⟩
    have h3' := evalC_mono h3 (m' := max m m2 + 1) (by omega)
    have h1' := evalC_mono h1 (m' := max m m2 + 1) (by omega)
    have h3'' := evalC_mono h3 (m' := max m m2) (by omega)
    simp only [evalC] at h3' ⊢
    simp only [iter, h1']
    simp only [evalC] at h3
    -- the rest, with one fewer
    have key : iter (fun s => evalC cf (max m m2 + 1) c (canonS lv pro s)) (max m m2) s1 = some (ex2, s2) := by
      have : ∀ (n : Nat) (s : St) r, iter (fun s => evalC cf m2 c (canonS lv pro s)) n s = some r → iter (fun s => evalC cf (max m m2 + 1) c (canonS lv pro s)) n s = some r := by
        intro n
        induction n with
        | zero => intro s r h; cases h
        | succ n ih =>
          intro s r h
          simp only [iter] at h ⊢
          cases hb : evalC cf m2 c (canonS lv pro s) with
          | none => rw [hb] at h; cases h
          | some p =>
            rw [hb] at h
            rw [evalC_mono hb (by omega)]
            obtain ⟨ex, s'⟩ := p
            cases ex with
            | normal => exact ih _ _ h
            | exit i => exact h
            | ret => exact h
      exact iter_mono (this m2 s1 _ h3) (by omega)
    exact key
  | exit i => exact ⟨m + 1, .exit i, s1, by simp only [evalC, iter]; rw [evalC_mono h1 (Nat.le_succ m)], h2⟩
  | ret => exact ⟨m + 1, .ret, s1, by simp only [evalC, iter]; rw [evalC_mono h1 (Nat.le_succ m)], h2⟩
theorem W.ops {l : List Op} (h : WOps cf s s.next l (Q .normal)) : W cf (.ops none l) s Q := by
  obtain ⟨s', h1, h2⟩ := h
  exact ⟨0, .normal, s', by simp only [evalC, h1], h2⟩
theorem W.opsE {l : List Op} (h : WOps cf s s.next l (Q .normal)) : W cf (.ops (some []) l) s Q := by
  obtain ⟨s', h1, h2⟩ := h
  exact ⟨0, .normal, s', by simp only [evalC, h1]; rfl, h2⟩
theorem W.opsC {l : List Op} {p} {ps} (h : WOps cf s s.next l (Q .normal)) (hc : confOk (feetL cf s s.next l) (p :: ps) = true) : W cf (.ops (some (p :: ps)) l) s Q := by
  obtain ⟨s', h1, h2⟩ := h
  exact ⟨0, .normal, s', by simp only [evalC, h1]; rw [if_pos hc], h2⟩
theorem WOps.nil {new : Nat} {K : St → Prop} (h : K { s with next := new }) : WOps cf s new [] K := ⟨_, rfl, h⟩
theorem WOps.cons {new : Nat} {d : Option Nat} {k : K} {l : List Op} {K : St → Prop} (h : WV (evalK cf k new s.val s.heap) fun r u => WOps cf { s with tmps := setOpt s.tmps d r, heap := applyU s.heap u } (new + stride) l K) : WOps cf s new (⟨d, k, none⟩ :: l) K := by
  obtain ⟨r, u, h1, s', h2, h3⟩ := h
  refine ⟨s', ?_, h3⟩
  simp only [stepOps, stepOp, wantedO, h1]
  exact h2
theorem WOps.guard {new : Nat} {d : Option Nat} {k : K} {t : Nat} {want b : Bool} {l : List Op} {K : St → Prop} (hb : s.tmps.getD t .undef = .bool b)
    (h : if b = want then WV (evalK cf k new s.val s.heap) fun r u => WOps cf { s with tmps := setOpt s.tmps d r, heap := applyU s.heap u } (new + stride) l K else WOps cf { s with tmps := setOpt s.tmps d (.tup []) } (new + stride) l K) : WOps cf s new (⟨d, k, some (t, want)⟩ :: l) K := by
  by_cases e : b = want
  · rw [if_pos e] at h
    obtain ⟨r, u, h1, s', h2, h3⟩ := h
    refine ⟨s', ?_, h3⟩
    have : (b == want) = true := by simpa using e
    simp only [stepOps, stepOp, wantedO, hb, this, h1]
    exact h2
  · rw [if_neg e] at h
    obtain ⟨s', h2, h3⟩ := h
    refine ⟨s', ?_, h3⟩
    have : (b == want) = false := by simpa using e
    simp only [stepOps, stepOp, wantedO, hb, this]
    exact h2
theorem WV.some {r : PV} {u : Upd} {K : PV → Upd → Prop} (h : K r u) : WV (some (r, u)) K := ⟨r, u, rfl, h⟩
theorem W.mono {c : C} {Q' : Ex → St → Prop} (h : W cf c s Q) (hq : ∀ ex s, Q ex s → Q' ex s) : W cf c s Q' := by
  obtain ⟨m, ex, s', h1, h2⟩ := h
  exact ⟨m, ex, s', h1, hq _ _ h2⟩
theorem ev_of {env : Env} {f : Nat} {d : F} (hf : env f = some (.body d)) {a : List PV} {H : List (Option Blk)} {x} (h : W (ev env) d.code (start d a H) (QFin d x)) : ev env f a H = some x := by
  obtain ⟨m, ex, s, h1, h2⟩ := h
  cases ex with
  | normal => exact ev_body hf h1 (.inl rfl) h2
  | exit i => exact h2.elim
  | ret => exact ev_body hf h1 (.inr rfl) h2
end
end Go.Proofs.YtklanpanmndakaaEv

/- The rules in the form in which they are used: a state told in its parts. -/
set_option linter.unusedVariables false
namespace Go.Proofs.YtklanpanmndakaaEv
def valT (T : List PV) : X → PV
  | .t n => T.getD n .undef
  | .c v => v
/-- the rest of a region -/
structure WO (cf : CF) (T : List PV) (H : Heap) (k0 new : Nat) (l : List Op) (K : St → Prop) : Prop where
  ok : ∀ n, WOps cf ⟨T, H, n, k0⟩ new l K
/-- an operation's answer, and on -/
structure WY (o : Option (PV × Upd)) (G : PV → Upd → Prop) : Prop where
  ok : WV o G
theorem WY.some {r : PV} {u : Upd} {G : PV → Upd → Prop} (h : G r u) : WY (some (r, u)) G := ⟨WV.some h⟩
/-- the same, where the order of some operations is open: acc: what the ones before asked for and changed -/
structure WOc (cf : CF) (T : List PV) (H : Heap) (k0 new : Nat) (l : List Op) (acc : List (List Nat × List Nat)) (ps : List (Nat × Nat)) (K : St → Prop) : Prop where
  ok : ∀ n, ∃ s', stepOps cf ⟨T, H, n, k0⟩ new l = some s' ∧ confOk (acc ++ feetL cf ⟨T, H, n, k0⟩ new l) ps = true ∧ K s'
/-- an operation's answer -/
structure EK (cf : CF) (k : K) (new : Nat) (T : List PV) (H : Heap) (r : PV) (u : Upd) : Prop where
  ok : evalK cf k new (valT T) H = some (r, u)
/-- code, from a state told in its parts -/
structure WC (cf : CF) (c : C) (T : List PV) (H : Heap) (k0 n : Nat) (Q : Ex → St → Prop) : Prop where
  ok : W cf c ⟨T, H, n, k0⟩ Q
/-- what is to hold at the end of a piece -/
structure WQ (Q : Ex → St → Prop) (ex : Ex) (T : List PV) (H : Heap) (k0 n : Nat) : Prop where
  ok : Q ex ⟨T, H, n, k0⟩
/-- temporaries of which only some are told -/
def putT : List PV → List (Nat × PV) → List PV
  | T, [] => T
  | T, (i, v) :: l => putT (T.set i v) l
def mkT (n : Nat) (l : List (Nat × PV)) : List PV := putT (List.replicate n .undef) l
section
variable {cf : CF} {T : List PV} {H : Heap} {k0 new n : Nat} {Q : Ex → St → Prop} {G : St → Prop} {d : Option Nat} {k : K} {l : List Op} {t : Nat} {b : Bool}
theorem WO.nil (h : WQ Q .normal T H k0 new) : WO cf T H k0 new [] (Q .normal) := ⟨fun _ => WOps.nil h.ok⟩
theorem WO.cons (h : WY (evalK cf k new (valT T) H) fun r u => WO cf (setOpt T d r) (applyU H u) k0 (new + stride) l G) : WO cf T H k0 new (⟨d, k, none⟩ :: l) G := ⟨fun n => by
  obtain ⟨r, u, h1, h2⟩ := h.ok
  exact WOps.cons ⟨r, u, h1, h2.ok n⟩⟩
theorem WO.step {r : PV} {u : Upd} (h : EK cf k new T H r u) (hg : WO cf (setOpt T d r) (applyU H u) k0 (new + stride) l G) : WO cf T H k0 new (⟨d, k, none⟩ :: l) G := WO.cons ⟨⟨r, u, h.ok, hg⟩⟩
theorem WOc.step {r : PV} {u : Upd} {acc : List (List Nat × List Nat)} {ps : List (Nat × Nat)} (h : EK cf k new T H r u) (hg : WOc cf (setOpt T d r) (applyU H u) k0 (new + stride) l (acc ++ [(needs k (valT T) H, u.map (·.1))]) ps G) : WOc cf T H k0 new (⟨d, k, none⟩ :: l) acc ps G := ⟨fun n => by
  obtain ⟨s', h1, h2, h3⟩ := hg.ok n
  have e1 : evalK cf k new (St.val ⟨T, H, n, k0⟩) H = some (r, u) := h.ok
  have e2 : stepOp cf ⟨T, H, n, k0⟩ new ⟨d, k, none⟩ = some ⟨setOpt T d r, applyU H u, n, k0⟩ := by simp only [stepOp, wantedO, e1]
  have e3 : feet cf ⟨T, H, n, k0⟩ new ⟨d, k, none⟩ = (needs k (valT T) H, u.map (·.1)) := by simp only [feet, wantedO, e1]; rfl
  refine ⟨s', by simp only [stepOps, e2]; exact h1, ?_, h3⟩
  simp only [feetL, e2, e3]
  rw [List.append_assoc] at h2
  exact h2⟩
theorem WOc.cons {acc : List (List Nat × List Nat)} {ps : List (Nat × Nat)} (h : WY (evalK cf k new (valT T) H) fun r u => WOc cf (setOpt T d r) (applyU H u) k0 (new + stride) l (acc ++ [(needs k (valT T) H, u.map (·.1))]) ps G) : WOc cf T H k0 new (⟨d, k, none⟩ :: l) acc ps G := by
  obtain ⟨r, u, h1, h2⟩ := h.ok
  exact WOc.step ⟨h1⟩ h2
theorem WOc.nil {acc : List (List Nat × List Nat)} {ps : List (Nat × Nat)} (hc : confOk acc ps = true) (h : WQ Q .normal T H k0 new) : WOc cf T H k0 new [] acc ps (Q .normal) := ⟨fun _ => ⟨_, rfl, by simpa [feetL] using hc, h.ok⟩⟩
theorem WOc.yes {want : Bool} {acc : List (List Nat × List Nat)} {ps : List (Nat × Nat)} (hb : T.getD t .undef = .bool b) (hw : b = want) (h : WOc cf T H k0 new (⟨d, k, none⟩ :: l) acc ps G) : WOc cf T H k0 new (⟨d, k, some (t, want)⟩ :: l) acc ps G := ⟨fun n => by
  obtain ⟨s', h1, h2⟩ := h.ok n
  have e : (b == want) = true := by rw [hw]; exact beq_self_eq_true want
  have e2 : stepOp cf ⟨T, H, n, k0⟩ new ⟨d, k, some (t, want)⟩ = stepOp cf ⟨T, H, n, k0⟩ new ⟨d, k, none⟩ := by simp only [stepOp, wantedO, hb, e]
  have e3 : feet cf ⟨T, H, n, k0⟩ new ⟨d, k, some (t, want)⟩ = feet cf ⟨T, H, n, k0⟩ new ⟨d, k, none⟩ := by simp only [feet, wantedO, hb, e]
  exact ⟨s', by simp only [stepOps, e2]; exact h1, by simp only [feetL, e2, e3]; exact h2.1, h2.2⟩⟩
theorem WOc.pass {want : Bool} {acc : List (List Nat × List Nat)} {ps : List (Nat × Nat)} (hb : wantedO ⟨T, H, 0, k0⟩ ⟨d, k, some (t, want)⟩ = some false) (h : WOc cf (setOpt T d (.tup [])) H k0 (new + stride) l (acc ++ [([], [])]) ps G) : WOc cf T H k0 new (⟨d, k, some (t, want)⟩ :: l) acc ps G := ⟨fun n => by
  obtain ⟨s', h1, h2, h3⟩ := h.ok n
  have hb' : wantedO ⟨T, H, n, k0⟩ ⟨d, k, some (t, want)⟩ = some false := hb
  have e2 : stepOp cf ⟨T, H, n, k0⟩ new ⟨d, k, some (t, want)⟩ = some ⟨setOpt T d (.tup []), H, n, k0⟩ := by simp only [stepOp, hb']
  have e3 : feet cf ⟨T, H, n, k0⟩ new ⟨d, k, some (t, want)⟩ = ([], []) := by simp only [feet, hb']
  refine ⟨s', by simp only [stepOps, e2]; exact h1, ?_, h3⟩
  simp only [feetL, e2, e3]
  rw [List.append_assoc] at h2
  exact h2⟩
theorem WOc.no {want : Bool} {acc : List (List Nat × List Nat)} {ps : List (Nat × Nat)} (hb : T.getD t .undef = .bool b) (hw : b = !want) (h : WOc cf (setOpt T d (.tup [])) H k0 (new + stride) l (acc ++ [([], [])]) ps G) : WOc cf T H k0 new (⟨d, k, some (t, want)⟩ :: l) acc ps G :=
  WOc.pass (by simp only [wantedO, hb, hw]; cases want <;> rfl) h
theorem WOc.skip {want : Bool} {vs : List PV} {acc : List (List Nat × List Nat)} {ps : List (Nat × Nat)} (hb : T.getD t .undef = .tup vs) (h : WOc cf (setOpt T d (.tup [])) H k0 (new + stride) l (acc ++ [([], [])]) ps G) : WOc cf T H k0 new (⟨d, k, some (t, want)⟩ :: l) acc ps G :=
  WOc.pass (by simp only [wantedO, hb]) h
theorem WO.yes {want : Bool} (hb : T.getD t .undef = .bool b) (hw : b = want) (h : WO cf T H k0 new (⟨d, k, none⟩ :: l) G) : WO cf T H k0 new (⟨d, k, some (t, want)⟩ :: l) G := ⟨fun n => by
  obtain ⟨s', h1, h2⟩ := h.ok n
  refine ⟨s', ?_, h2⟩
  have e : (b == want) = true := by rw [hw]; exact beq_self_eq_true want
  have e2 : stepOp cf ⟨T, H, n, k0⟩ new ⟨d, k, some (t, want)⟩ = stepOp cf ⟨T, H, n, k0⟩ new ⟨d, k, none⟩ := by simp only [stepOp, wantedO, hb, e]
  simp only [stepOps, e2]
  exact h1⟩
theorem WO.no {want : Bool} (hb : T.getD t .undef = .bool b) (hw : b = !want) (h : WO cf (setOpt T d (.tup [])) H k0 (new + stride) l G) : WO cf T H k0 new (⟨d, k, some (t, want)⟩ :: l) G := ⟨fun n =>
  WOps.guard hb (by rw [if_neg (by rw [hw]; cases want <;> simp)]; exact h.ok n)⟩
theorem WO.skip {want : Bool} {vs : List PV} (hb : T.getD t .undef = .tup vs) (h : WO cf (setOpt T d (.tup [])) H k0 (new + stride) l G) : WO cf T H k0 new (⟨d, k, some (t, want)⟩ :: l) G := ⟨fun n => by
  obtain ⟨s', h1, h2⟩ := h.ok n
  refine ⟨s', ?_, h2⟩
  simp only [stepOps, stepOp, wantedO, hb]
  exact h1⟩
theorem WC.skip (h : WQ Q .normal T H k0 n) : WC cf .skip T H k0 n Q := ⟨W.skip h.ok⟩
theorem WC.exit {i : Nat} (h : WQ Q (.exit i) T H k0 n) : WC cf (.exit i) T H k0 n Q := ⟨W.exit h.ok⟩
theorem WC.ret (h : WQ Q .ret T H k0 n) : WC cf .ret T H k0 n Q := ⟨W.ret h.ok⟩
theorem WC.seq {a b : C} (h : WC cf a T H k0 n (QSeq cf b Q)) : WC cf (.seq a b) T H k0 n Q := ⟨W.seq h.ok⟩
theorem WC.block {i : Nat} {a : C} (h : WC cf a T H k0 n (QBlock i Q)) : WC cf (.block i a) T H k0 n Q := ⟨W.block h.ok⟩
theorem WC.cond {x : X} {c a : C} {v : Bool} (hv : valT T x = .bool v) (h1 : v = true → WC cf c T H k0 n Q) (h2 : v = false → WC cf a T H k0 n Q) : WC cf (.cond x c a) T H k0 n Q := ⟨by
  have hv' : St.val ⟨T, H, n, k0⟩ x = .bool v := by cases x <;> exact hv
  refine W.cond hv' ?_
  cases v with
  | true => exact (h1 rfl).ok
  | false => exact (h2 rfl).ok⟩
theorem WC.yes {x : X} {c a : C} {v : Bool} (hv : valT T x = .bool v) (hw : v = true) (h1 : WC cf c T H k0 n Q) : WC cf (.cond x c a) T H k0 n Q := WC.cond hv (fun _ => h1) (fun h => by rw [hw] at h; cases h)
theorem WC.no {x : X} {c a : C} {v : Bool} (hv : valT T x = .bool v) (hw : v = false) (h1 : WC cf a T H k0 n Q) : WC cf (.cond x c a) T H k0 n Q := WC.cond hv (fun h => by rw [hw] at h; cases h) (fun _ => h1)
theorem WC.ops {l : List Op} (h : WO cf T H k0 n l (Q .normal)) : WC cf (.ops none l) T H k0 n Q := ⟨W.ops (h.ok n)⟩
theorem WC.opsE {l : List Op} (h : WO cf T H k0 n l (Q .normal)) : WC cf (.ops (some []) l) T H k0 n Q := ⟨W.opsE (h.ok n)⟩
theorem WC.opsC {l : List Op} {p} {ps} (h : WOc cf T H k0 n l [] (p :: ps) (Q .normal)) : WC cf (.ops (some (p :: ps)) l) T H k0 n Q := ⟨by
  obtain ⟨s', h1, h2, h3⟩ := h.ok n
  exact W.opsC ⟨s', h1, h3⟩ h2⟩
theorem WC.loop {lv : List Nat} {pro : List (Nat × Option Nat × Nat)} {c : C} {T' : List PV} {H' : Heap} {n' : Nat} (hc : canonS lv pro ⟨T, H, n, k0⟩ = ⟨T', H', n', k0⟩) (h : WC cf c T' H' k0 n' (QLoop cf lv pro c Q)) : WC cf (.loop lv pro c) T H k0 n Q := ⟨W.loop (by rw [hc]; exact h.ok)⟩
theorem WQ.seq {a : C} (h : WC cf a T H k0 n Q) : WQ (QSeq cf a Q) .normal T H k0 n := ⟨h.ok⟩
theorem WQ.seqX {a : C} {i : Nat} (h : WQ Q (.exit i) T H k0 n) : WQ (QSeq cf a Q) (.exit i) T H k0 n := ⟨h.ok⟩
theorem WQ.seqR {a : C} (h : WQ Q .ret T H k0 n) : WQ (QSeq cf a Q) .ret T H k0 n := ⟨h.ok⟩
theorem WQ.block {i : Nat} (h : WQ Q .normal T H k0 n) : WQ (QBlock i Q) .normal T H k0 n := ⟨h.ok⟩
theorem WQ.blockR {i : Nat} (h : WQ Q .ret T H k0 n) : WQ (QBlock i Q) .ret T H k0 n := ⟨h.ok⟩
theorem WQ.blockX {i : Nat} (h : WQ Q .normal T H k0 n) : WQ (QBlock i Q) (.exit i) T H k0 n := ⟨by
  show (if i = i then Q .normal _ else Q (.exit i) _)
  rw [if_pos rfl]; exact h.ok⟩
theorem WQ.blockY {i j : Nat} (hij : i ≠ j) (h : WQ Q (.exit i) T H k0 n) : WQ (QBlock j Q) (.exit i) T H k0 n := ⟨by
  show (if i = j then Q .normal _ else Q (.exit i) _)
  rw [if_neg hij]; exact h.ok⟩
theorem WQ.loop {lv : List Nat} {pro : List (Nat × Option Nat × Nat)} {c : C} (h : WC cf (.loop lv pro c) T H k0 n Q) : WQ (QLoop cf lv pro c Q) .normal T H k0 n := ⟨h.ok⟩
theorem WQ.loopX {lv : List Nat} {pro : List (Nat × Option Nat × Nat)} {c : C} {i : Nat} (h : WQ Q (.exit i) T H k0 n) : WQ (QLoop cf lv pro c Q) (.exit i) T H k0 n := ⟨h.ok⟩
theorem WQ.loopR {lv : List Nat} {pro : List (Nat × Option Nat × Nat)} {c : C} (h : WQ Q .ret T H k0 n) : WQ (QLoop cf lv pro c Q) .ret T H k0 n := ⟨h.ok⟩
theorem WQ.fin {f : F} {x} (h : finish f ⟨T, H, n, k0⟩ = some x) : WQ (QFin f x) .normal T H k0 n := ⟨h⟩
theorem WQ.ret {f : F} {x} (h : finish f ⟨T, H, n, k0⟩ = some x) : WQ (QFin f x) .ret T H k0 n := ⟨h⟩
theorem ev_ofC {env : Env} {f : Nat} {d : F} (hf : env f = some (.body d)) {a : List PV} {Hs : List (Option Blk)} {x} (h : WC (ev env) d.code (start d a Hs).tmps (heapOf 0 Hs) Hs.length Hs.length (QFin d x)) : ev env f a Hs = some x := ev_of hf h.ok
theorem ev_ofC' {env : Env} (hcf : cf = ev env) {f : Nat} {d : F} (hf : env f = some (.body d)) {a : List PV} {Hs : List (Option Blk)} {x} (h : WC cf d.code (start d a Hs).tmps (heapOf 0 Hs) Hs.length Hs.length (QFin d x)) : cf f a Hs = some x := by
  subst hcf
  exact ev_of hf h.ok
end
end Go.Proofs.YtklanpanmndakaaEv

