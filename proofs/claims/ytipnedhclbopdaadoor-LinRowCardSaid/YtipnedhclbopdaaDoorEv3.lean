/- General words (3): an evaluator of the model's code, and that what it answers the model answers. -/
import Derived.Test.YtipnedhclbopdaaDoorEv0
import Derived.Test.YtipnedhclbopdaaDoorEv2
import Derived.Conc.MuLone
import Derived.Orders
/- What an operation comes to hangs on what it asks for alone. -/
set_option linter.unusedVariables false
set_option linter.unusedSimpArgs false
namespace Go.Proofs.YtipnedhclbopdaaDoorEv
section
variable {h h' : Heap}
mutual
theorem PV.peek_agree : ∀ (v : PV), (∀ id ∈ v.ids, hget h id = hget h' id) → v.peek h = v.peek h'
  | .agg cs, hn => by simp only [PV.peek, peekL_agree cs (by simpa [PV.ids] using hn)]
  | .tup cs, hn => by simp only [PV.peek, peekL_agree cs (by simpa [PV.ids] using hn)]
  | .own id es off len, hn => by simp only [PV.peek, hn id (by simp [PV.ids])]
  | .fn f a b, hn => by
    simp only [PV.peek, peekL_agree a (fun id q => hn id (by simp [PV.ids, q])), peekL_agree b (fun id q => hn id (by simp [PV.ids, q]))]
  | .ptr _ _, _ => rfl
  | .map _, _ => rfl
  | .int _ _, _ => rfl
  | .bool _, _ => rfl
  | .str _, _ => rfl
  | .flt _ _, _ => rfl
  | .cpx _ _ _, _ => rfl
  | .nil, _ => rfl
  | .sl _ _ _, _ => rfl
  | .rop _, _ => rfl
  | .cp v, hn => by simp only [PV.peek, PV.peek_agree v (by simpa [PV.ids] using hn)]
  | .nilp, _ => rfl
  | .nilfn, _ => rfl
  | .undef, _ => rfl
theorem peekL_agree : ∀ (vs : List PV), (∀ id ∈ idsL vs, hget h id = hget h' id) → peekL h vs = peekL h' vs
  | [], _ => rfl
  | v :: r, hn => by
    simp only [peekL, PV.peek_agree v (fun id q => hn id (by simp [idsL, q])), peekL_agree r (fun id q => hn id (by simp [idsL, q]))]
end
theorem frz_agree : ∀ (l : List Nat), (∀ id ∈ l, hget h id = hget h' id) → frz h l = frz h' l
  | [], _ => rfl
  | i :: l, hn => by
    simp only [frz, hn i (by simp), frz_agree l (fun id q => hn id (by simp [q]))]
theorem srcOf_agree (v : PV) (hn : ∀ id ∈ v.ids, hget h id = hget h' id) : srcOf h v = srcOf h' v := by
  cases v <;> simp only [srcOf]
  next id es off n => rw [hn id (by simp [PV.ids])]
theorem argsOf_agree : ∀ (raw : List Bool) (vs : List PV), (∀ id ∈ idsL vs, hget h id = hget h' id) → argsOf h raw vs = argsOf h' raw vs ∧ rowsOf h raw vs = rowsOf h' raw vs
  | raw, [], _ => by cases raw <;> exact ⟨rfl, rfl⟩
  | [], v :: r, hn => by
    have h1 := PV.peek_agree v (fun id q => hn id (by simp [idsL, q]))
    have h2 := argsOf_agree [] r (fun id q => hn id (by simp [idsL, q]))
    simp only [argsOf, rowsOf, argOf, h1, h2.1, h2.2, and_self]
  | b :: bs, v :: r, hn => by
    have h1 := PV.peek_agree v (fun id q => hn id (by simp [idsL, q]))
    have h2 := argsOf_agree bs r (fun id q => hn id (by simp [idsL, q]))
    simp only [argsOf, rowsOf, argOf, h1, h2.1, h2.2, and_self]
theorem reach_agree : ∀ (n : Nat) (todo seen : List Nat), (∀ id ∈ reachV h n todo seen, hget h id = hget h' id) → reach h n todo seen = reach h' n todo seen ∧ reachV h n todo seen = reachV h' n todo seen
  | 0, todo, seen, _ => ⟨rfl, rfl⟩
  | n + 1, [], seen, _ => ⟨rfl, rfl⟩
  | n + 1, i :: todo, seen, hn => by
    simp only [reach, reachV] at hn ⊢
    split
    · next hc => rw [if_pos hc] at hn; exact reach_agree n todo seen hn
    · next hc =>
      rw [if_neg hc] at hn
      cases hi : hget h i with
      | none =>
        rw [hi] at hn; simp only at hn
        have := hn i (by simp)
        rw [← this, hi]
        have ih := reach_agree n todo seen (fun id q => hn id (by simp [q]))
        exact ⟨ih.1, by simp only; rw [ih.2]⟩
      | some b =>
        rw [hi] at hn; simp only at hn
        have := hn i (by simp)
        rw [← this, hi]
        have ih := reach_agree n (b.ids ++ todo) (seen ++ [i]) (fun id q => hn id (by simp [q]))
        exact ⟨ih.1, by simp only; rw [ih.2]⟩
theorem reach_sub : ∀ (n : Nat) (todo seen : List Nat), ∀ i ∈ reach h n todo seen, i ∈ seen ∨ i ∈ reachV h n todo seen
  | 0, todo, seen, i, hi => .inl (by simpa [reach] using hi)
  | n + 1, [], seen, i, hi => .inl (by simpa [reach] using hi)
  | n + 1, j :: todo, seen, i, hi => by
    simp only [reach, reachV] at hi ⊢
    split at hi
    · next hc => rw [if_pos hc]; exact reach_sub n todo seen i hi
    · next hc =>
      rw [if_neg hc]
      cases hj : hget h j with
      | none => rw [hj] at hi; simp only at hi; rcases reach_sub n todo seen i hi with q | q; exact .inl q; exact .inr (by simp [q])
      | some b =>
        rw [hj] at hi; simp only at hi
        rcases reach_sub n _ _ i hi with q | q
        · rcases List.mem_append.1 q with q | q
          · exact .inl q
          · simp at q; exact .inr (by simp [q])
        · exact .inr (by simp [q])

theorem doCall0_agree (cf : CF) (new f : Nat) (borrow : Bool) (raw : List Bool) (vs : List PV) (hn : ∀ id ∈ idsL vs ++ reachV h 100 (idsL (argsOf h raw vs)) [], hget h id = hget h' id) :
    doCall0 cf new h f borrow raw vs = doCall0 cf new h' f borrow raw vs ∧ idsL vs ++ reachV h 100 (idsL (argsOf h raw vs)) [] = idsL vs ++ reachV h' 100 (idsL (argsOf h' raw vs)) [] := by
  have h1 := argsOf_agree (h := h) (h' := h') raw vs (fun id q => hn id (List.mem_append_left _ q))
  have h2 := reach_agree (h := h) (h' := h') 100 (idsL (argsOf h raw vs)) [] (fun id q => hn id (List.mem_append_right _ q))
  have hr : ∀ id ∈ rowsOf h raw vs, id ∈ idsL vs := by
    have : ∀ (raw : List Bool) (vs : List PV), ∀ id ∈ rowsOf h raw vs, id ∈ idsL vs := by
      intro raw vs
      induction vs generalizing raw with
      | nil => intro id hid; cases raw <;> simp [rowsOf] at hid
      | cons v r ih =>
        intro id hid
        cases raw with
        | nil =>
          simp only [rowsOf, List.mem_append] at hid
          rcases hid with q | q
          · split at q
            · simp [idsL, q]
            · simp at q
          · have := ih [] id q; simp [idsL, this]
        | cons b bs =>
          simp only [rowsOf, List.mem_append] at hid
          rcases hid with q | q
          · split at q
            · simp at q
            · split at q
              · simp [idsL, q]
              · simp at q
          · have := ih bs id q; simp [idsL, this]
    exact this raw vs
  have hf := frz_agree (h := h) (h' := h') (rowsOf h raw vs) (fun id q => hn id (List.mem_append_left _ (hr id q)))
  have hm : (reach h 100 (idsL (argsOf h raw vs)) []).map (fun i => (hget h i).map (Blk.mapId (idxIn (reach h 100 (idsL (argsOf h raw vs)) [])))) = (reach h 100 (idsL (argsOf h raw vs)) []).map (fun i => (hget h' i).map (Blk.mapId (idxIn (reach h 100 (idsL (argsOf h raw vs)) [])))) := by
    apply List.map_congr_left
    intro i hi
    rcases reach_sub 100 _ _ i hi with q | q
    · simp at q
    · rw [hn i (List.mem_append_right _ q)]
  refine ⟨?_, by rw [← h1.1, ← h2.2]⟩
  unfold doCall0
  rw [← h1.1, ← h1.2, ← hf]
  dsimp only
  cases hq : idsL (argsOf h raw vs) with
  | nil => rfl
  | cons i is =>
    rw [hq] at h2 hm
    simp only
    rw [← h2.1, ← hm]

theorem deepIds_agree : ∀ (l : List Nat), (∀ id ∈ l, hget h id = hget h' id) → deepIds h l = deepIds h' l
  | [], _ => rfl
  | i :: r, hn => by simp only [deepIds, hn i (List.mem_cons_self ..), deepIds_agree r (fun id q => hn id (List.mem_cons_of_mem _ q))]
theorem deepIds_sub : ∀ (l : List Nat), ∀ id ∈ l, id ∈ deepIds h l
  | i :: r, id, hid => by
    simp only [deepIds, List.mem_cons, List.mem_append]
    rcases List.mem_cons.1 hid with q | q
    · exact .inl q
    · exact .inr (.inr (deepIds_sub r id q))
theorem deepIds_box : ∀ (l : List Nat) (i : Nat) (b : Blk), i ∈ l → hget h i = some b → ∀ id ∈ b.ids, id ∈ deepIds h l
  | j :: r, i, b, hi, hb, id, hid => by
    simp only [deepIds, List.mem_cons, List.mem_append]
    rcases List.mem_cons.1 hi with q | q
    · subst q; rw [hb]; exact .inr (.inl hid)
    · exact .inr (.inr (deepIds_box r i b q hb id hid))
mutual
theorem PV.view_agree : ∀ (v : PV), (∀ id ∈ deepIds h v.ids, hget h id = hget h' id) → v.view h = v.view h'
  | .agg cs, hn => by simp only [PV.view, viewL_agree cs (by simpa [PV.ids] using hn)]
  | .tup cs, hn => by simp only [PV.view, viewL_agree cs (by simpa [PV.ids] using hn)]
  | .own id es off len, hn => by simp only [PV.view, hn id (by simp [PV.ids, deepIds])]
  | .ptr id off, hn => by
    have h1 := hn id (by simp [PV.ids, deepIds])
    simp only [PV.view, ← h1]
    cases hb : hget h id with
    | none => rfl
    | some b =>
      cases b with
      | box cs =>
        have := peekL_agree (h := h) (h' := h') cs (fun j q => hn j (deepIds_box _ id _ (by simp [PV.ids]) hb j q))
        simp only [this]
      | row cs => rfl
      | froz cs => rfl
      | mp es => rfl
  | .fn f a b, hn => by
    have e : ∀ (a b : List Nat), deepIds h (a ++ b) = deepIds h a ++ deepIds h b := fun a b => by
      induction a with
      | nil => rfl
      | cons x a ih => simp only [List.cons_append, deepIds, ih, List.append_assoc]
    simp only [PV.ids, e] at hn
    simp only [PV.view, viewL_agree a (fun id q => hn id (List.mem_append_left _ q)), viewL_agree b (fun id q => hn id (List.mem_append_right _ q))]
  | .map _, _ => rfl
  | .int _ _, _ => rfl
  | .bool _, _ => rfl
  | .str _, _ => rfl
  | .flt _ _, _ => rfl
  | .cpx _ _ _, _ => rfl
  | .nil, _ => rfl
  | .sl _ _ _, _ => rfl
  | .rop _, _ => rfl
  | .cp v, hn => by simp only [PV.view, PV.view_agree v (by simpa [PV.ids] using hn)]
  | .nilp, _ => rfl
  | .nilfn, _ => rfl
  | .undef, _ => rfl
theorem viewL_agree : ∀ (vs : List PV), (∀ id ∈ deepIds h (idsL vs), hget h id = hget h' id) → viewL h vs = viewL h' vs
  | [], _ => rfl
  | v :: r, hn => by
    have e : ∀ (a b : List Nat), deepIds h (a ++ b) = deepIds h a ++ deepIds h b := fun a b => by
      induction a with
      | nil => rfl
      | cons x a ih => simp only [List.cons_append, deepIds, ih, List.append_assoc]
    simp only [idsL, e] at hn
    simp only [viewL, PV.view_agree v (fun id q => hn id (List.mem_append_left _ q)), viewL_agree r (fun id q => hn id (List.mem_append_right _ q))]
end
theorem doCall_agree (cf : CF) (new f : Nat) (borrow : Bool) (raw : List Bool) (vs : List PV) (hn : ∀ id ∈ callNeeds h raw vs, hget h id = hget h' id) :
    doCall cf new h f borrow raw vs = doCall cf new h' f borrow raw vs ∧ callNeeds h raw vs = callNeeds h' raw vs := by
  unfold callNeeds at hn ⊢
  obtain ⟨h1, h2⟩ := doCall0_agree (h := h) (h' := h') cf new f borrow raw vs (fun id q => hn id (List.mem_append_left _ q))
  have h3 := viewL_agree (h := h) (h' := h') vs (fun id q => hn id (List.mem_append_right _ q))
  have h4 := deepIds_agree (h := h) (h' := h') (idsL vs) (fun id q => hn id (List.mem_append_right _ (deepIds_sub _ id q)))
  refine ⟨?_, by rw [h2, h4]⟩
  unfold doCall
  rw [h3, h1]

theorem map_agree {e e' : X → PV} : ∀ (xs : List X), (∀ x ∈ xs, e x = e' x) → xs.map e = xs.map e'
  | [], _ => rfl
  | x :: xs, h => by simp [h x (by simp), map_agree xs (fun y q => h y (by simp [q]))]

theorem evalK_agree (cf : CF) (k : K) (new : Nat) {e e' : X → PV} (he : ∀ x ∈ k.xs, e x = e' x) (hn : ∀ id ∈ needs k e h, hget h id = hget h' id) : evalK cf k new e h = evalK cf k new e' h' ∧ needs k e h = needs k e' h' := by
  have one : ∀ x, k.xs = [x] → e x = e' x := fun x q => he x (by rw [q]; simp)
  have two : ∀ x y, k.xs = [x, y] → e x = e' x ∧ e y = e' y := fun x y q => ⟨he x (by rw [q]; simp), he y (by rw [q]; simp)⟩
  cases k with
  | mv x => simp [evalK, needs, one x rfl]
  | pick a b c => simp only [evalK, needs, he a (by simp [K.xs]), he b (by simp [K.xs]), he c (by simp [K.xs]), and_self]
  | alloc z => exact ⟨rfl, rfl⟩
  | box x => simp [evalK, needs, one x rfl]
  | build z ps =>
    have : ps.map (fun p => (p.1, p.2.1, e p.2.2)) = ps.map (fun p => (p.1, p.2.1, e' p.2.2)) := List.map_congr_left fun p hp => by rw [he p.2.2 (by simp only [K.xs]; exact List.mem_map_of_mem (f := fun p : Nat × Nat × X => p.2.2) hp)]
    simp [evalK, needs, this]
  | bslice es n z ps =>
    have : ps.map (fun p => e p.2) = ps.map (fun p => e' p.2) := List.map_congr_left fun p hp => by rw [he p.2 (by simp only [K.xs]; exact List.mem_map_of_mem (f := fun p : Nat × X => p.2) hp)]
    simp only [needs] at hn
    have h1 := peekL_agree (h := h) (h' := h') _ hn
    have h2 := frz_agree (h := h) (h' := h') _ hn
    rw [this] at h1 h2
    simp only [evalK, needs, this, h1, h2, and_self]
  | load g s x =>
    have hx := one x rfl
    simp only [needs] at hn
    simp only [evalK, needs, ← hx, and_true]
    cases hv : e x <;> simp only
    next id off => rw [hv] at hn; rw [hn id (by simp [PV.pid])]
  | store s a x =>
    have hx := two a x rfl
    simp only [needs] at hn
    simp only [evalK, needs, ← hx.1, ← hx.2, and_true]
    cases hv : e a <;> simp only
    next id off => rw [hv] at hn; rw [hn id (by simp [PV.pid])]
  | nilck x => simp [evalK, needs, one x rfl]
  | bin op x y => simp [evalK, needs, two x y rfl]
  | eqB n x y => simp [evalK, needs, two x y rfl]
  | eqS n ks x y => simp [evalK, needs, two x y rfl]
  | eqNil f n x => simp [evalK, needs, one x rfl]
  | un op x => simp [evalK, needs, one x rfl]
  | conv k x => simp [evalK, needs, one x rfl]
  | strS x => simp [evalK, needs, one x rfl]
  | s2b x => simp [evalK, needs, one x rfl]
  | b2s x =>
    have hx := one x rfl
    simp only [needs] at hn
    have h1 := srcOf_agree (h := h) (h' := h') _ hn
    simp only [evalK, needs, ← hx, and_true]
    split
    · rfl
    · rw [h1]
  | mkfunc f a b =>
    have h1 := map_agree a (fun x q => he x (by simp [K.xs, q]))
    have h2 := map_agree b (fun x q => he x (by simp [K.xs, q]))
    simp [evalK, needs, h1, h2]
  | mkslice es z l c => simp [evalK, needs, two l c rfl]
  | appmk es z l c => simp [evalK, needs, two l c rfl]
  | no => simp [evalK, needs]
  | slice str es x lo hi mx =>
    have hx := he x (by simp [K.xs])
    have h1 : lo.map e = lo.map e' := by cases lo with | none => rfl | some y => simp [he y (by simp [K.xs])]
    have h2 : hi.map e = hi.map e' := by cases hi with | none => rfl | some y => simp [he y (by simp [K.xs])]
    have h3 : mx.map e = mx.map e' := by cases mx with | none => rfl | some y => simp [he y (by simp [K.xs])]
    simp only [evalK, needs, hx, h1, h2, h3, and_self]
  | faddr off x => simp [evalK, needs, one x rfl]
  | field g off s x => simp [evalK, needs, one x rfl]
  | iaddr es x i => simp [evalK, needs, two x i rfl]
  | iaddrA es n x i => simp [evalK, needs, two x i rfl]
  | index x i => simp [evalK, needs, two x i rfl]
  | ext x i => simp [evalK, needs, one x rfl]
  | call f b raw args =>
    have hx := map_agree args (fun x q => he x (by simp [K.xs, q]))
    simp only [needs] at hn
    have := doCall_agree cf new f b raw (args.map e) hn
    simp only [evalK, needs, ← hx]; exact this
  | callv b raw f args =>
    have hx := map_agree args (fun x q => he x (by simp [K.xs, q]))
    have hf := he f (by simp [K.xs])
    simp only [needs] at hn
    simp only [evalK, needs, ← hx, ← hf]
    cases hv : e f <;> simp only [and_self]
    next g a c =>
    rw [hv] at hn
    exact doCall_agree cf new g b raw _ hn
  | len str x => simp [evalK, needs, one x rfl]
  | cap x => simp [evalK, needs, one x rfl]
  | append es a b =>
    have hx := two a b rfl
    simp only [needs] at hn
    have h1 := srcOf_agree (h := h) (h' := h') (e b) (fun id q => hn id (List.mem_append_right _ q))
    simp only [evalK, needs, ← hx.1, ← hx.2, h1, and_true]
    cases srcOf h' (e b) with
    | none => rfl
    | some p =>
      simp only
      split
      · cases hv : e a
        case own id es off len => simp only; rw [hn id (List.mem_append_left _ (by rw [hv]; simp [PV.ids]))]
        case sl len tight xs => cases tight <;> rfl
        all_goals rfl
      · rfl
  | copy es a b =>
    have hx := two a b rfl
    simp only [needs] at hn
    have h1 : srcNS h (e b) = srcNS h' (e b) := by
      unfold srcNS
      split
      · rfl
      · exact srcOf_agree (h := h) (h' := h') (e b) (fun id q => hn id (List.mem_append_right _ q))
    simp only [evalK, needs, ← hx.1, ← hx.2, h1, and_true]
    cases srcNS h' (e b) with
    | none => rfl
    | some p =>
      simp only
      split
      · cases hv : e a
        case own id es off len => simp only; rw [hn id (List.mem_append_left _ (by rw [hv]; simp [PV.ids]))]
        case sl len tight xs => cases tight <;> rfl
        all_goals rfl
      · rfl
  | clear es z a =>
    have hx := one a rfl
    simp only [needs] at hn
    simp only [evalK, needs, ← hx, and_true]
    cases hv : e a
    case own id es off len => simp only; rw [hn id (by rw [hv]; simp [PV.ids])]
    case sl len tight xs => cases len <;> rfl
    all_goals rfl
  | minmax m xs =>
    have h1 := map_agree xs (fun x q => he x (by simp [K.xs, q]))
    simp only [evalK, needs, h1, and_self]
  | mkmap => exact ⟨rfl, rfl⟩
  | i2f k x =>
    simp only [evalK, needs, ← he x (by simp [K.xs]), and_self]
  | cplx a b =>
    have hx := two a b rfl
    simp only [evalK, needs, ← hx.1, ← hx.2, and_self]
  | cbox x =>
    simp only [evalK, needs, ← he x (by simp [K.xs]), and_self]
  | cpart im x =>
    simp only [evalK, needs, ← he x (by simp [K.xs]), and_self]
  | lookup kk z ok m k =>
    have hx := two m k rfl
    simp only [needs] at hn
    simp only [evalK, needs, ← hx.1, ← hx.2, and_true]
    cases hv : e m <;> simp only
    next id => rw [hn id (by rw [hv]; simp [PV.ids])]
  | mapup kk m k v =>
    have hm := he m (by simp [K.xs])
    have hk := he k (by simp [K.xs])
    have hv' := he v (by simp [K.xs])
    simp only [needs] at hn
    simp only [evalK, needs, ← hm, ← hk, ← hv', and_true]
    cases hv : e m <;> simp only
    next id => rw [hn id (by rw [hv]; simp [PV.ids])]

/-- an operation that asks for no block, and changes none -/
theorem free_none (cf : CF) {k : K} (hk : k.free = true) (new : Nat) (e : X → PV) (h : Heap) : needs k e h = [] ∧ ∀ r u, evalK cf k new e h = some (r, u) → u = [] := by
  cases k <;> simp only [K.free] at hk <;> try (cases hk; done)
  all_goals refine ⟨rfl, fun r u he => ?_⟩
  all_goals (simp only [evalK] at he; (repeat' split at he) <;> first | (cases he; done) | (cases he; rfl) | (simp at he; exact he.2.symm))
theorem reads_none (cf : CF) {k : K} (hk : k.reads = true) (new : Nat) (e : X → PV) (h : Heap) : ∀ r u, evalK cf k new e h = some (r, u) → u = [] := by
  intro r u he
  have dc : ∀ f raw vs, doCall cf new h f true raw vs = some (r, u) → u = [] := by
    intro f raw vs hd
    unfold doCall at hd
    simp only [if_true] at hd
    split at hd
    · (repeat' split at hd) <;> first | (cases hd; done) | (cases hd; rfl)
    · unfold doCall0 at hd
      simp only [if_true] at hd
      (repeat' split at hd) <;> first | (cases hd; done) | (cases hd; rfl)
  cases hf : k.free with
  | true => exact (free_none cf hf new e h).2 r u he
  | false =>
    cases k <;> simp only [K.reads] at hk <;> try (rw [hk] at hf; cases hf; done)
    · simp only [evalK] at he
      (repeat' split at he) <;> first | (cases he; done) | (cases he; rfl) | (simp at he; exact he.2.symm)
    · simp only [evalK] at he
      (repeat' split at he) <;> first | (cases he; done) | (cases he; rfl) | (simp at he; exact he.2.symm)
    · subst hk; simp only [evalK] at he; exact dc _ _ _ he
    · subst hk; simp only [evalK] at he
      split at he
      · exact dc _ _ _ he
      · cases he
    · simp only [evalK] at he
      (repeat' split at he) <;> first | (cases he; done) | (cases he; rfl) | (simp at he; exact he.2.symm)
end
end Go.Proofs.YtipnedhclbopdaaDoorEv

/- Calls; regions. -/
set_option linter.unusedVariables false
set_option linter.unusedSimpArgs false
namespace Go.Proofs.YtipnedhclbopdaaDoorEv
section
variable {P : Program} {w : World} {O : Nat → Option Nat} {M F : Nat → Prop} {h : Heap}

theorem sigS_nil (new n : Nat) : sigS [] new n = sigN new n := by
  funext j; unfold sigS sigN; simp
theorem updsAt_nil (σ : Nat → Option Nat) (H : List (Option Blk)) : updsAt σ [] H = [] := by cases H <;> rfl

theorem doCall0_sound {cf : CF} (hcf : CFok P cf) (hI : Inv w O M F h) {new : Nat} (hfree : ∀ id, new ≤ id → id < new + stride → O id = none ∧ hget h id = none) {f : Nat} {borrow : Bool} {raw : List Bool} {vs : List PV} {cs : List Value} {r : PV} {u : Upd}
    (hv : VRs w O F vs cs) (hd : doCall0 cf new h f borrow raw vs = some (r, u)) :
    Callable P f ∧ Calls P f cs.toArray w (fun e w' => ∃ v, e = .returned v ∧ After w O M F h new (new + stride) r (applyU h u) v w') := by
  have hl := rows_live (h := h) raw vs
  have hargs := args_sound hI (F' := Less O F (rowsOf h raw vs)) (fun b _ q => q.1) raw vs cs hv (fun id hid b hb q => q.2 id hid hb)
  unfold doCall0 at hd
  simp only at hd
  split at hd
  · next hids =>
    have hcl := closedL_of_ids hids
    cases hc : cf f (argsOf h raw vs) [] with
    | none => rw [hc] at hd; cases hd
    | some p =>
      obtain ⟨r0, H⟩ := p
      rw [hc] at hd
      simp only at hd
      have hf := hcf _ _ _ _ _ hc
      split at hd
      · split at hd
        · next hsc =>
          cases hd
          refine ⟨hf.1, (hf.2 w (fun _ => none) (fun _ => False) (Less O F (rowsOf h raw vs)) cs (VRs.reo hargs hcl) ⟨fun id B hB => by simp [heapOf, hget] at hB, hI.mlt.mono (fun b q => q.1), fun b q => q.elim, fun i j b B C hB => by simp [heapOf, hget] at hB⟩ (fun _ _ => rfl)).mono ?_⟩
          rintro e w' ⟨v, rfl, O2, M2, F2, g1, g2, g3, _⟩
          exact ⟨v, rfl, O, M, F, VR.ofScalar g1 hsc, Nxt.draws hI g3 _ _⟩
        · cases hd
      · split at hd
        · next hlen =>
          cases hd
          have hv2 : VRs w (OS O []) (Less O F (rowsOf h raw vs)) (argsOf h raw vs) cs := VRs.reo hargs hcl
          have := call_core hI hfree (S := []) (by simp) (by simp) hl (by simp) hv2 (by simpa using hf.2) (by simpa using hlen)
          rw [sigS_nil, updsAt_nil] at this
          exact ⟨hf.1, by simpa using this⟩
        · cases hd
  · next is hids =>
    split at hd
    · cases hd
    · split at hd
      · cases hd
      · next hdis =>
        split at hd
        · cases hd
        · next r0 H hc =>
          have hf := hcf _ _ _ _ _ hc
          split at hd
          · next hlen =>
            cases hd
            obtain ⟨k1, k2, k3⟩ := reach_spec h 100 (idsL (argsOf h raw vs)) [] (by simp)
            have hSl : ∀ i ∈ reach h 100 (idsL (argsOf h raw vs)) [], ∃ B, hget h i = some B := fun i hi => (k2 i hi).elim (fun q => by simp at q) id
            refine ⟨hf.1, call_core hI hfree (S := reach h 100 (idsL (argsOf h raw vs)) []) k1 hSl hl (fun i hi q => ?_) (VRs.mapId (fun i j hij b hb => by unfold OS; rw [idxIn_get hij]; exact hb) hargs) hf.2 hlen⟩
            apply hdis
            rw [List.any_eq_true]
            exact ⟨i, q, by simpa using hi⟩
          · cases hd

theorem deepIds_append : ∀ (a b : List Nat), deepIds h (a ++ b) = deepIds h a ++ deepIds h b
  | [], b => rfl
  | x :: a, b => by simp only [List.cons_append, deepIds, deepIds_append a b, List.append_assoc]
theorem view_ptr (hI : Inv w O M F h) {F' : Nat → Prop} (hm : ∀ b, b < w.heap.size → F' b → F b) {id off b : Nat} {v' : PV} (ho : O id = some b) (hp : (PV.ptr id off).view h = some v') (hx : ∀ i ∈ deepIds h [id], ∀ b, O i = some b → ¬ F' b) : PeekOk w O F' v' (.pointer (some ⟨b, off, none⟩)) := by
  have hb : ¬ F' b := hx id (by simp [deepIds]) b ho
  simp only [PV.view] at hp
  cases hg : hget h id with
  | none => rw [hg] at hp; cases hp
  | some B =>
    rw [hg] at hp
    have hB := hI.blk _ _ hg
    cases B with
    | mp es => cases hp
    | row cs =>
      cases hp
      rcases hB with ⟨_, q⟩ | ⟨b', c, el', fz, vs, h1, h2, h3, h3', h4, h5, h6, h7⟩
      · rw [ho] at q; cases q
      · rw [ho] at h1; cases h1
        exact ⟨.rop hb h3 ((VRs.step (Stp.refl F w) (fun _ _ h => h) hm h4).drop _) (fun v hv => h5 v (List.mem_of_mem_drop hv)) (closedL_drop _ h6) (by obtain ⟨t, ht⟩ := h7; rw [← ht, List.drop_append]; exact List.prefix_append _ _), by simp [PV.closed]⟩
    | froz cs =>
      cases hp
      rcases hB with ⟨_, q⟩ | ⟨b', c, el', fz, vs, h1, h2, h3, h4, h5, h6, h7⟩
      · rw [ho] at q; cases q
      · rw [ho] at h1; cases h1
        exact ⟨.rop hb h3 ((VRs.step (Stp.refl F w) (fun _ _ h => h) hm h4).drop _) (fun v hv => h5 v (List.mem_of_mem_drop hv)) (closedL_drop _ h6) (by obtain ⟨t, ht⟩ := h7; rw [← ht, List.drop_append]; exact List.prefix_append _ _), by simp [PV.closed]⟩
    | box cs =>
      simp only at hp
      cases hl : peekL h cs with
      | none => rw [hl] at hp; cases hp
      | some l =>
        rw [hl] at hp; cases hp
        obtain ⟨b', c, el, fz, h1, h2, h3, h4, h5, h6⟩ := hB
        rw [ho] at h1; cases h1
        have hpk := VRs.peek hI hm h5 hl (fun i hi => hx i (deepIds_box _ id _ (by simp) hg i hi))
        exact ⟨.rop hb h3 (hpk.1.drop _) (fun v hv => h6 v (List.mem_of_mem_drop hv)) (closedL_drop _ hpk.2) List.prefix_rfl, by simp [PV.closed]⟩
mutual
theorem VR.view (hI : Inv w O M F h) {F' : Nat → Prop} (hm : ∀ b, b < w.heap.size → F' b → F b) : ∀ {v c v'}, VR w O F v c → v.view h = some v' → (∀ id ∈ deepIds h v.ids, ∀ b, O id = some b → ¬ F' b) → PeekOk w O F' v' c
  | _, _, _, .int k n, hp, _ => by simp [PV.view] at hp; subst hp; exact ⟨.int k n, rfl⟩
  | _, _, _, .bool b, hp, _ => by simp [PV.view] at hp; subst hp; exact ⟨.bool b, rfl⟩
  | _, _, _, .str s, hp, _ => by simp [PV.view] at hp; subst hp; exact ⟨.str s, rfl⟩
  | _, _, _, .flt k b, hp, _ => by simp [PV.view] at hp; subst hp; exact ⟨.flt k b, rfl⟩
  | _, _, _, .cpx k a b, hp, _ => by simp [PV.view] at hp; subst hp; exact ⟨.cpx k a b, rfl⟩
  | _, _, _, .agg (cs := cs) q q1, hp, hx => by
    simp only [PV.view] at hp
    cases hl : viewL h cs with
    | none => rw [hl] at hp; cases hp
    | some l => rw [hl] at hp; cases hp; have := VRs.view hI hm q hl (by simpa [PV.ids] using hx); exact ⟨.agg this.1 q1, by simp [PV.closed, this.2]⟩
  | _, _, _, .tup (cs := cs) q, hp, hx => by
    simp only [PV.view] at hp
    cases hl : viewL h cs with
    | none => rw [hl] at hp; cases hp
    | some l => rw [hl] at hp; cases hp; have := VRs.view hI hm q hl (by simpa [PV.ids] using hx); exact ⟨.tup this.1, by simp [PV.closed, this.2]⟩
  | _, _, _, .nil, hp, _ => by simp [PV.view] at hp; subst hp; exact ⟨.nil, rfl⟩
  | _, _, _, .slEmpty base cap tight q, hp, _ => by simp [PV.view] at hp; subst hp; exact ⟨.slEmpty base cap tight q, rfl⟩
  | _, _, _, .sl n hb q h1 hc ht hl hti, hp, _ => by
    simp [PV.view] at hp; subst hp
    exact ⟨VR.step (Stp.refl F w) (fun _ _ h => h) hm (.sl n hb q h1 hc ht hl hti), rfl⟩
  | _, _, _, .ownEmpty id es off base, hp, _ => peek_ownEmpty base hp
  | _, _, _, .own (id := id) h1 h2 hl hf, hp, hx => peek_own hI hm h1 h2 hl hf hp (hx id (by simp [PV.ids, deepIds]))
  | _, _, _, .ptr h1 h2, hp, hx => view_ptr hI hm h1 hp (by simpa [PV.ids] using hx)
  | _, _, _, .rop n hb q h1 hc ht, hp, _ => by
    simp [PV.view] at hp; subst hp
    exact ⟨VR.step (Stp.refl F w) (fun _ _ h => h) hm (.rop n hb q h1 hc ht), rfl⟩
  | _, _, _, .cp (v := v) n hb q h1 ht, hp, hx => by
    simp only [PV.view] at hp
    cases hl : v.view h with
    | none => rw [hl] at hp; cases hp
    | some v' =>
      rw [hl] at hp; cases hp
      have t1 := VR.view hI hm q hl (by simpa [PV.ids] using hx)
      exact ⟨.cp (fun q => n (hm _ (heap_lt hb) q)) hb t1.1 h1 ht, by simp [PV.closed, t1.2]⟩
  | _, _, _, .nilp, hp, _ => by simp [PV.view] at hp; subst hp; exact ⟨.nilp, rfl⟩
  | _, _, _, .fn (a := a) (b := b) q1 q2, hp, hx => by
    simp only [PV.view] at hp
    simp only [PV.ids, deepIds_append] at hx
    cases hl : viewL h a with
    | none => rw [hl] at hp; cases hp
    | some l =>
      cases hl2 : viewL h b with
      | none => rw [hl, hl2] at hp; cases hp
      | some l2 =>
        rw [hl, hl2] at hp; cases hp
        have t1 := VRs.view hI hm q1 hl (fun id hid => hx id (List.mem_append_left _ hid))
        have t2 := VRs.view hI hm q2 hl2 (fun id hid => hx id (List.mem_append_right _ hid))
        exact ⟨.fn t1.1 t2.1, by simp [PV.closed, t1.2, t2.2]⟩
  | _, _, _, .nilfn, hp, _ => by simp [PV.view] at hp; subst hp; exact ⟨.nilfn, rfl⟩
  | _, _, _, .map _ _, hp, _ => by simp [PV.view] at hp
  | _, _, _, .undef v, hp, _ => by simp [PV.view] at hp; subst hp; exact ⟨.undef v, rfl⟩
theorem VRs.view (hI : Inv w O M F h) {F' : Nat → Prop} (hm : ∀ b, b < w.heap.size → F' b → F b) : ∀ {v c v'}, VRs w O F v c → viewL h v = some v' → (∀ id ∈ deepIds h (idsL v), ∀ b, O id = some b → ¬ F' b) → PeeksOk w O F' v' c
  | _, _, _, .nil, hp, _ => by simp [viewL] at hp; subst hp; exact ⟨.nil, rfl⟩
  | _, _, _, .cons (c := c) (cs := cs) q t, hp, hx => by
    simp only [viewL] at hp
    simp only [idsL, deepIds_append] at hx
    cases hl : c.view h with
    | none => rw [hl] at hp; cases hp
    | some l =>
      cases hl2 : viewL h cs with
      | none => rw [hl, hl2] at hp; cases hp
      | some l2 =>
        rw [hl, hl2] at hp; cases hp
        have t1 := VR.view hI hm q hl (fun id hid => hx id (List.mem_append_left _ hid))
        have t2 := VRs.view hI hm t hl2 (fun id hid => hx id (List.mem_append_right _ hid))
        exact ⟨.cons t1.1 t2.1, by simp [closedL, t1.2, t2.2]⟩
end
theorem doCall_sound {cf : CF} (hcf : CFok P cf) (hI : Inv w O M F h) {new : Nat} (hfree : ∀ id, new ≤ id → id < new + stride → O id = none ∧ hget h id = none) {f : Nat} {borrow : Bool} {raw : List Bool} {vs : List PV} {cs : List Value} {r : PV} {u : Upd}
    (hv : VRs w O F vs cs) (hd : doCall cf new h f borrow raw vs = some (r, u)) :
    Callable P f ∧ Calls P f cs.toArray w (fun e w' => ∃ v, e = .returned v ∧ After w O M F h new (new + stride) r (applyU h u) v w') := by
  unfold doCall at hd
  split at hd
  · next asV has =>
    have hvw : viewL h vs = some asV := by
      split at has
      · exact has
      · cases has
    split at hd
    · next r0 H hc =>
      split at hd
      · next hsc =>
        cases hd
        have hf := hcf _ _ _ _ _ hc
        have hargs := VRs.view (F' := Less O F (deepIds h (idsL vs))) hI (fun b _ q => q.1) hv hvw (fun id hid b hb q => q.2 id hid hb)
        refine ⟨hf.1, (hf.2 w (fun _ => none) (fun _ => False) (Less O F (deepIds h (idsL vs))) cs (VRs.reo hargs.1 hargs.2) ⟨fun id B hB => by simp [heapOf, hget] at hB, hI.mlt.mono (fun b q => q.1), fun b q => q.elim, fun i j b B C hB => by simp [heapOf, hget] at hB⟩ (fun _ _ => rfl)).mono ?_⟩
        rintro e w' ⟨v, rfl, O2, M2, F2, g1, g2, g3, _⟩
        exact ⟨v, rfl, O, M, F, VR.ofScalar g1 hsc, Nxt.draws hI g3 _ _⟩
      · cases hd
    · cases hd
  · exact doCall0_sound hcf hI hfree hv hd

theorem callFunc_run {f : Nat} (hc : Callable P f) (args : Array Value) (w : World) : (callFunc f args).run P w = .ok (.enter f args) w := by
  obtain ⟨fn, c, h1, h2, h3⟩ := hc
  have h3' : ¬ fn.name = "runtime.NumGoroutine" := by simpa using h3
  simp [callFunc, h1, h2, h3']

variable {o : Oper} {ρ : Operand → Value} {e : X → PV}
theorem s_call {raws : Nat → List Bool} {cf : CF} (hcf : CFok P cf) (hI : Inv w O M F h) (hρ : ∀ x y, copX x = some y → VR w O F (e y) (ρ x)) (hρf : ∀ f, ρ (.func f) = .func (.func f) #[] #[]) {new : Nat} (hfree : ∀ id, new ≤ id → id < new + stride → O id = none ∧ hget h id = none)
    {k : K} {r : PV} {u : Upd} (hk : copK P raws o = some k) (hc : k.isCall = true) {c : Call} (hop : o.op = .call c) (he : evalK cf k new e h = some (r, u)) : Res P o ρ w (After w O M F h new (new + stride) r (applyU h u)) := by
  · simp only [copK, hop] at hk
    split at hk
    · next f hcl =>
      simp only [Option.bind_eq_bind, Option.bind_eq_some_iff] at hk
      obtain ⟨fn, hfn, hk⟩ := hk
      split at hk
      · simp only [Option.bind_eq_some_iff] at hk
        obtain ⟨asV, has, hk⟩ := hk; cases hk
        simp only [evalK] at he
        have hv := mapM_cop hρ has
        obtain ⟨hca, hcalls⟩ := doCall_sound hcf hI hfree hv he
        refine .inr (.inr ⟨f, (c.args.toList.map ρ).toArray, ?_, hcalls⟩)
        simp only [execOp, hop, resolve, hcl, hρf, Deferred.ofValue, Sem.run_bind]
        simp [invoke, callFunc_run hca, map_arr]
      · cases hk
    · next x hcl hnf =>
      simp only [Option.bind_eq_bind, Option.bind_eq_some_iff] at hk
      obtain ⟨x', hx, asV, has, hk⟩ := hk; cases hk
      simp only [evalK] at he
      split at he
      · next g a b hg =>
        have hr := hρ _ _ hx
        rw [hg] at hr
        have hv := mapM_cop hρ has
        cases hq : ρ x <;> rw [hq] at hr <;> cases hr
        next fs cs k1 k2 =>
        obtain ⟨hca, hcalls⟩ := doCall_sound hcf hI hfree ((k1.append hv).append k2) he
        refine .inr (.inr ⟨g, (fs ++ c.args.toList.map ρ ++ cs).toArray, ?_, hcalls⟩)
        simp only [execOp, hop, resolve, hnf, hq, Deferred.ofValue, Sem.run_bind]
        simp [invoke, callFunc_run hca, map_arr]
      · cases he
    · split at hk
      · split at hk
        · simp only [Option.bind_eq_bind, Option.bind_eq_some_iff] at hk
          obtain ⟨x', hx, hk⟩ := hk; cases hk; simp [K.isCall] at hc
        · simp only [Option.bind_eq_bind, Option.bind_eq_some_iff] at hk
          obtain ⟨x', hx, hk⟩ := hk; cases hk; simp [K.isCall] at hc
        · cases hk
      · cases hk
    · split at hk
      · split at hk
        · simp only [Option.bind_eq_bind, Option.bind_eq_some_iff] at hk
          obtain ⟨x', hx, hk⟩ := hk; cases hk; simp [K.isCall] at hc
        · cases hk
      · cases hk
    · split at hk
      · split at hk
        · simp only [Option.bind_eq_bind, Option.bind_eq_some_iff] at hk
          obtain ⟨s, hs, i, hi, z, hz, hk⟩ := hk
          split at hk
          · simp only [Option.bind_eq_some_iff] at hk
            obtain ⟨x', hx, y', hy, hk⟩ := hk; cases hk; simp [K.isCall] at hc
          · cases hk
        · simp only [Option.bind_eq_bind, Option.bind_eq_some_iff] at hk
          obtain ⟨s, hs, i, hi, z, hz, hk⟩ := hk
          split at hk
          · simp only [Option.bind_eq_some_iff] at hk
            obtain ⟨x', hx, y', hy, hk⟩ := hk; cases hk; simp [K.isCall] at hc
          · cases hk
        · simp only [Option.bind_eq_bind, Option.bind_eq_some_iff] at hk
          obtain ⟨s, hs, i, hi, z, hz, hk⟩ := hk
          split at hk
          · simp only [Option.bind_eq_some_iff] at hk
            obtain ⟨x', hx, y', hy, hk⟩ := hk; cases hk; simp [K.isCall] at hc
          · cases hk
        · cases hk
      · cases hk
    · split at hk
      · split at hk
        · simp only [Option.bind_eq_bind, Option.bind_eq_some_iff] at hk
          obtain ⟨s, hs, hk⟩ := hk
          split at hk
          · simp only [Option.bind_eq_some_iff] at hk
            obtain ⟨x', hx, y', hy, hk⟩ := hk; cases hk; simp [K.isCall] at hc
          · cases hk
        · cases hk
      · cases hk
    · split at hk
      · split at hk
        · simp only [Option.bind_eq_bind, Option.bind_eq_some_iff] at hk
          obtain ⟨s, hs, z, hz, x', hx, hk⟩ := hk; cases hk; simp [K.isCall] at hc
        · cases hk
      · cases hk
    · split at hk
      · simp only [Option.bind_eq_bind, Option.bind_eq_some_iff] at hk
        obtain ⟨x', hx, y', hy, hk⟩ := hk; cases hk; simp [K.isCall] at hc
      · cases hk
    · split at hk
      · simp only [Option.bind_eq_bind, Option.bind_eq_some_iff] at hk
        obtain ⟨x', hx, hk⟩ := hk; cases hk; simp [K.isCall] at hc
      · cases hk
    · split at hk
      · simp only [Option.bind_eq_bind, Option.bind_eq_some_iff] at hk
        obtain ⟨x', hx, hk⟩ := hk; cases hk; simp [K.isCall] at hc
      · cases hk
    · simp only [Option.bind_eq_bind, Option.bind_eq_some_iff] at hk
      obtain ⟨xs, hx, hk⟩ := hk; cases hk; simp [K.isCall] at hc
    · simp only [Option.bind_eq_bind, Option.bind_eq_some_iff] at hk
      obtain ⟨xs, hx, hk⟩ := hk; cases hk; simp [K.isCall] at hc
    · cases hk
end
end Go.Proofs.YtipnedhclbopdaaDoorEv

/- Code as the evaluator's; one operation after the other. -/
set_option linter.unusedVariables false
set_option linter.unusedSimpArgs false
namespace Go.Proofs.YtipnedhclbopdaaDoorEv

def isCallOp : Go.Op → Bool
  | .call _ => true
  | _ => false
def copOp (P : Program) (raws : Nat → List Bool) (ops : Array Oper) (o : Oper) : Option Op :=
  match copK P raws o with
  | none => none
  | some k => if k.isCall && !isCallOp o.op then none else
    match o.guard with
    | none => some ⟨o.dst, k, none⟩
    | some (j, want) => match (ops[j]?).bind (·.dst) with
      | some t => some ⟨o.dst, k, some (t, want)⟩
      | none => none

/-- where a call began -/
structure Base where
  w0 : World
  O0 : Nat → Option Nat
  M0 : Nat → Prop
  F0 : Nat → Prop
  k0 : Nat
  h0 : Heap

structure CX (B : Base) (s : St) (Fr : Nat → Prop) (a : Act) (w : World) (O : Nat → Option Nat) (M F : Nat → Prop) : Prop where
  df : a.defers = []
  tr : VRs w O F s.tmps a.tmps.toList
  inv : Inv w O M F s.heap
  fresh : ∀ id, Fr id → O id = none ∧ hget s.heap id = none
  k0 : s.k0 = B.k0
  kn : ∀ id, Fr id → B.k0 ≤ id
  stp : Stp B.M0 B.w0 w
  keep : ∀ id, id < B.k0 → O id = B.O0 id
  less : ∀ b, b < B.w0.heap.size → F b → B.F0 b
  lessM : ∀ b, b < B.w0.heap.size → M b → B.M0 b
  keepF : ∀ b, B.F0 b → ¬ B.M0 b → F b
  prov : ∀ id b C, hget s.heap id = some C → O id = some b → B.w0.heap.size ≤ b ∨ ∃ j D, hget B.h0 j = some D ∧ B.O0 j = some b
  mlt0 : ∀ b, B.F0 b → b < B.w0.heap.size
def CG (B : Base) (s : St) (Fr : Nat → Prop) (a : Act) (w : World) : Prop := ∃ O M F, CX B s Fr a w O M F
def CI (B : Base) (s : St) (n : Nat) (a : Act) (w : World) : Prop := CG B s (fun id => n ≤ id) a w
theorem CG.mono {B : Base} {s : St} {Fr Fr' : Nat → Prop} {a : Act} {w : World} (h : CG B s Fr a w) (hf : ∀ id, Fr' id → Fr id) : CG B s Fr' a w := by
  obtain ⟨O, M, F, c⟩ := h
  exact ⟨O, M, F, c.df, c.tr, c.inv, fun id q => c.fresh id (hf id q), c.k0, fun id q => c.kn id (hf id q), c.stp, c.keep, c.less, c.lessM, c.keepF, c.prov, c.mlt0⟩

section
variable {P : Program} {raws : Nat → List Bool} {B : Base} {cf : CF}

theorem put_list (a : Act) (d : Option Tmp) (v : Value) : (a.put d v).tmps.toList = (match d with | some d => a.tmps.toList.set d v | none => a.tmps.toList) ∧ (a.put d v).defers = a.defers := by
  cases d <;> simp [Act.put]
theorem VRs.put {w : World} {O : Nat → Option Nat} {F : Nat → Prop} {ts : List PV} {a : Act} {d : Option Nat} {r : PV} {v : Value} (h : VRs w O F ts a.tmps.toList) (hv : VR w O F r v) : VRs w O F (setOpt ts d r) (a.put d v).tmps.toList := by
  rw [(put_list a d v).1]
  cases d with
  | none => exact h
  | some d => exact h.set d hv

/-- on from an operation -/
theorem CX.on {s : St} {Fr : Nat → Prop} {n : Nat} {a : Act} {w : World} {O : Nat → Option Nat} {M F : Nat → Prop} (hc : CX B s Fr a w O M F) (hR : ∀ id, n ≤ id → id < n + stride → Fr id) {d : Option Nat} {r : PV} {h' : Heap} {v : Value} {w' : World} (ha : After w O M F s.heap n (n + stride) r h' v w') :
    CG B { s with tmps := setOpt s.tmps d r, heap := h' } (fun id => Fr id ∧ ¬ (n ≤ id ∧ id < n + stride)) (a.put d v) w' := by
  obtain ⟨O', M', F', h1, h2⟩ := ha
  refine ⟨O', M', F', ?_⟩
  have hlt0 := hc.stp.size
  refine ⟨(put_list a d v).2.trans hc.df, (VRs.step (h2.stp.mono (fun b _ q => hc.inv.sub b q)) h2.ext h2.less hc.tr).put h1, h2.inv, fun id hid => ?_, hc.k0, fun id hid => hc.kn id hid.1, hc.stp.trans h2.stp hc.lessM, fun id hid => ?_, fun b hb q => hc.less b hb (h2.less b (Nat.lt_of_lt_of_le hb hlt0) q), fun b hb q => hc.lessM b hb (h2.lessM b (Nat.lt_of_lt_of_le hb hlt0) q), fun b q1 q2 => h2.keepF b (hc.keepF b q1 q2) (fun q => q2 (hc.lessM b (hc.mlt0 b q1) q)), fun id b C hC hb => ?_, hc.mlt0⟩
  · have := hc.fresh id hid.1
    exact ⟨(h2.out id hid.2).trans this.1, h2.hout id hid.2 this.2⟩
  · rw [h2.out id (fun q => ?_)]
    · exact hc.keep id hid
    · have := hc.kn id (hR id q.1 q.2); omega
  · rcases h2.prov id b C hC hb with q | ⟨j, D, q1, q2⟩
    · exact .inl (by omega)
    · exact hc.prov j b D q1 q2
theorem CX.skip {s : St} {Fr : Nat → Prop} {n : Nat} {a : Act} {w : World} {O : Nat → Option Nat} {M F : Nat → Prop} (hc : CX B s Fr a w O M F) (hR : ∀ id, n ≤ id → id < n + stride → Fr id) (d : Option Nat) : CG B { s with tmps := setOpt s.tmps d (.tup []) } (fun id => Fr id ∧ ¬ (n ≤ id ∧ id < n + stride)) (a.put d undef) w :=
  hc.on hR (d := d) (h' := s.heap) ⟨O, M, F, VR.tup (vs := []) .nil, Nxt.of_same hc.inv _ _⟩

theorem eval_const (a : Act) (v : Value) : a.eval (.const v) = v := rfl
theorem eval_func (a : Act) (f : Nat) : a.eval (.func f) = .func (.func f) #[] #[] := rfl

theorem wanted_sound {s : St} {a : Act} {w : World} {O : Nat → Option Nat} {F : Nat → Prop} {ops : Array Oper} {o : Oper} {op : Op} {b : Bool} (htr : VRs w O F s.tmps a.tmps.toList) (hop : copOp P raws ops o = some op) (hw : wantedO s op = some b) : Region.wanted o (yielded ops a.tmps) = b := by
  unfold copOp at hop
  cases hk : copK P raws o with
  | none => rw [hk] at hop; cases hop
  | some k =>
    rw [hk] at hop
    simp only at hop
    split at hop
    · cases hop
    · cases hg : o.guard with
      | none =>
        rw [hg] at hop; cases hop
        simp [wantedO] at hw; subst hw
        simp [Region.wanted, hg]
      | some p =>
        obtain ⟨j, want⟩ := p
        rw [hg] at hop
        simp only at hop
        cases ht : (ops[j]?).bind (·.dst) with
        | none => rw [ht] at hop; cases hop
        | some t =>
          rw [ht] at hop; cases hop
          simp only [wantedO] at hw
          simp only [Region.wanted, hg, yielded, ht, Option.bind_some]
          cases hq : s.tmps[t]? with
          | none => simp [List.getD_eq_getElem?_getD, hq] at hw
          | some p =>
            obtain ⟨v, h1, h2⟩ := htr.get hq
            simp only [List.getD_eq_getElem?_getD, hq, Option.getD_some] at hw
            have h1' : a.tmps[t]? = some v := by simpa using h1
            rw [h1']
            cases p <;> simp at hw
            next c =>
              cases h2
              simp only
              subst hw
              cases c <;> cases want <;> rfl
            next c =>
              cases h2
              subst hw
              rfl

theorem stepOp_sound (hcf : CFok P cf) {s s' : St} {n : Nat} {a : Act} {w : World} {ops : Array Oper} {o : Oper} {op : Op} (hop : copOp P raws ops o = some op) (hs : stepOp cf s n op = some s') {Fr : Nat → Prop} (hc : CG B s Fr a w) (hR : ∀ id, n ≤ id → id < n + stride → Fr id) (Q : Exit → Act → World → Prop) :
    if Region.wanted o (yielded ops a.tmps) then o.wp P a w (CG B s' (fun id => Fr id ∧ ¬ (n ≤ id ∧ id < n + stride))) Q else CG B s' (fun id => Fr id ∧ ¬ (n ≤ id ∧ id < n + stride)) (a.put o.dst undef) w := by
  obtain ⟨O, M, F, hc⟩ := hc
  unfold stepOp at hs
  cases hw : wantedO s op with
  | none => rw [hw] at hs; cases hs
  | some b =>
    rw [hw] at hs
    have hwd := wanted_sound hc.tr hop hw
    have hop0 := hop
    unfold copOp at hop
    cases hk : copK P raws o with
    | none => rw [hk] at hop; cases hop
    | some k =>
      rw [hk] at hop
      simp only at hop
      split at hop
      · cases hop
      · next hcall =>
        have hok : op.k = k ∧ op.dst = o.dst := by
          cases hg : o.guard with
          | none => rw [hg] at hop; cases hop; exact ⟨rfl, rfl⟩
          | some p =>
            obtain ⟨j, want⟩ := p
            rw [hg] at hop
            simp only at hop
            cases ht : (ops[j]?).bind (·.dst) with
            | none => rw [ht] at hop; cases hop
            | some t => rw [ht] at hop; cases hop; exact ⟨rfl, rfl⟩
        obtain ⟨hkk, hdd⟩ := hok
        cases b with
        | false =>
          simp only at hs
          cases hs
          rw [hwd]
          simp only [Bool.false_eq_true, if_false]
          rw [hdd]
          exact hc.skip hR o.dst
        | true =>
          simp only at hs
          rw [hwd]
          simp only [if_true]
          cases he : evalK cf op.k n s.val s.heap with
          | none => rw [he] at hs; cases hs
          | some p =>
            obtain ⟨r, u⟩ := p
            rw [he] at hs
            simp only at hs
            cases hs
            rw [hkk] at he
            have hρ : ∀ x y, copX x = some y → VR w O F (s.val y) (a.eval x) := fun x y hx => TR.val ⟨hc.tr⟩ hx
            have hres : Res P o a.eval w (After w O M F s.heap n (n + stride) r (applyU s.heap u)) := by
              cases hcl : k.isCall with
              | false => exact opSound hc.inv hρ (hc.fresh n (hR n (Nat.le_refl _) (stride_pos _))) (eval_const a) hk hcl he
              | true =>
                rw [hcl] at hcall
                simp at hcall
                cases hopp : o.op <;> rw [hopp] at hcall <;> simp [isCallOp] at hcall
                exact s_call hcf hc.inv hρ (eval_func a) (fun id h1 h2 => hc.fresh id (hR id h1 h2)) hk hcl hopp he
            refine hres.wp fun v w' hv => ?_
            rw [hdd]
            exact hc.on hR hv

theorem stepOps_next {cf : CF} : ∀ (l : List Op) (s s' : St) (n : Nat), stepOps cf s n l = some s' → s'.next = n + stride * l.length
  | [], s, s', n, h => by simp [stepOps] at h; subst h; simp
  | o :: l, s, s', n, h => by
    simp only [stepOps] at h
    cases hs : stepOp cf s n o with
    | none => rw [hs] at h; cases h
    | some s1 =>
      rw [hs] at h
      have := stepOps_next l s1 s' (n + stride) h
      rw [this]; simp [Nat.mul_add]; omega

theorem seqOps (hcf : CFok P cf) (ops : Array Oper) (Q : Exit → Act → World → Prop) (s' : St) (hQ : ∀ a w, CI B s' s'.next a w → Q .normal a w) : ∀ (rest : List Op) (k : Nat) (s : St) (n : Nat) (a : Act) (w : World), (ops.toList.drop k).mapM (copOp P raws ops) = some rest →
    stepOps cf s n rest = some s' → CI B s n a w → wpOps P ops Q (List.range' k rest.length) a w
  | [], k, s, n, a, w, hm, hs, hc => by
    simp [stepOps] at hs; subst hs
    simp only [List.length_nil, List.range'_zero, wpOps]
    obtain ⟨O, M, F, c⟩ := hc
    exact hQ a w ⟨O, M, F, c.df, c.tr, c.inv, c.fresh, c.k0, c.kn, c.stp, c.keep, c.less, c.lessM, c.keepF, c.prov, c.mlt0⟩
  | op :: rest, k, s, n, a, w, hm, hs, hc => by
    have hlt : k < ops.toList.length := by
      rcases Nat.lt_or_ge k ops.toList.length with q | q
      · exact q
      · rw [List.drop_eq_nil_of_le q] at hm; simp at hm
    rw [List.drop_eq_getElem_cons hlt, List.mapM_cons] at hm
    cases h1 : copOp P raws ops ops.toList[k] with
    | none => rw [h1] at hm; cases hm
    | some op' =>
      cases h2 : (ops.toList.drop (k + 1)).mapM (copOp P raws ops) with
      | none => rw [h1, h2] at hm; cases hm
      | some rest' =>
        rw [h1, h2] at hm; cases hm
        simp only [stepOps] at hs
        cases hst : stepOp cf s n op with
        | none => rw [hst] at hs; cases hs
        | some s1 =>
          rw [hst] at hs
          simp only at hs
          have hlt' : k < ops.size := by simpa using hlt
          have hget : ops[k]? = some ops.toList[k] := by simp [hlt']
          simp only [List.length_cons, List.range'_succ, wpOps, hget]
          have hsd := stepOp_sound (B := B) hcf h1 hst hc (fun id h _ => h) Q
          split
          · next hw =>
            rw [hw] at hsd
            simp only [if_true] at hsd
            exact .inl (Oper.wp_mono (fun a' w' hc' => seqOps hcf ops Q s' hQ rest (k + 1) s1 (n + stride) a' w' h2 hs (hc'.mono (fun id hid => ⟨by omega, by omega⟩))) hsd)
          · next hw =>
            simp only [Bool.not_eq_true] at hw
            rw [hw] at hsd
            simp only [Bool.false_eq_true, if_false] at hsd
            exact seqOps hcf ops Q s' hQ rest (k + 1) s1 (n + stride) _ w h2 hs (hsd.mono (fun id hid => ⟨by omega, by omega⟩))
end
end Go.Proofs.YtipnedhclbopdaaDoorEv

/- States cut to what is live; what a function hands back. -/
set_option linter.unusedVariables false
set_option linter.unusedSimpArgs false
namespace Go.Proofs.YtipnedhclbopdaaDoorEv
section
variable {P : Program} {B : Base}

theorem VRs.setL {w : World} {O : Nat → Option Nat} {F : Nat → Prop} : ∀ {ts : List PV} {cs : List Value} (i : Nat) {p : PV}, VRs w O F ts cs → (∀ v, cs[i]? = some v → VR w O F p v) → VRs w O F (ts.set i p) cs
  | _, _, _, _, .nil, _ => by simpa using VRs.nil
  | _, _, 0, _, .cons h t, k => .cons (k _ (by simp)) t
  | _, _, i + 1, _, .cons h t, k => .cons h (VRs.setL i t (fun v hv => k v (by simpa using hv)))

/-- a nil slice is an own row -/
theorem Inv.nilRow {w : World} {O : Nat → Option Nat} {M F : Nat → Prop} {h : Heap} {n : Nat} (hI : Inv w O M F h) (hn : O n = none ∧ hget h n = none) : Inv w O M F (hset h n (.row [])) := by
  refine ⟨fun id B hB => ?_, hI.mlt, hI.sub, fun i j b C D hC hD hi hj => ?_⟩
  · rw [hget_hset] at hB
    split at hB
    · next q => subst q; cases hB; exact .inl ⟨rfl, hn.1⟩
    · exact hI.blk id B hB
  · rw [hget_hset] at hC hD
    split at hC
    · next q => subst q; rw [hn.1] at hi; cases hi
    · split at hD
      · next q => subst q; rw [hn.1] at hj; cases hj
      · exact hI.inj i j b C D hC hD hi hj

theorem promote1_sound {s : St} {a : Act} {w : World} (p : Nat × Option Nat × Nat) (hc : CI B s s.next a w) : CI B (promote1 s p) (promote1 s p).next a w := by
  obtain ⟨O, M, F, c⟩ := hc
  have hself : CI B s s.next a w := ⟨O, M, F, c⟩
  unfold promote1
  split
  · next e1 e2 =>
    have hnew := c.fresh s.next (Nat.le_refl _)
    refine ⟨O, M, F, c.df, c.tr.setL _ (fun v hv => ?_), c.inv.nilRow hnew, fun id hid => ?_, c.k0, fun id hid => c.kn id (by simp only at hid ⊢; omega), c.stp, c.keep, c.less, c.lessM, c.keepF, fun id b C hC hb => ?_, c.mlt0⟩
    · obtain ⟨q, q1, q2⟩ := c.tr.get' hv
      rw [List.getD_eq_getElem?_getD, q1] at e1
      simp at e1; subst e1
      rw [q2.nil_inv]; exact .ownEmpty _ _ _ _
    · have := c.fresh id (by simp at hid; omega)
      exact ⟨this.1, by rw [hget_hset, if_neg (by simp at hid; omega)]; exact this.2⟩
    · rw [hget_hset] at hC
      split at hC
      · next q => subst q; rw [hnew.1] at hb; cases hb
      · exact c.prov id b C hC hb
  · next id o off e1 e2 =>
    cases hB : hget s.heap id with
    | none => exact hself
    | some Bk =>
      cases Bk with
      | box cs =>
        simp only
        split
        · next e3 =>
          have hnew := c.fresh s.next (Nat.le_refl _)
          obtain ⟨b, cc, el, fz, h1, h2, h3, h4, h5, h6⟩ := c.inv.blk _ _ hB
          have hI2 : Inv w O M F (hset s.heap id (.box (cs.set (o + off) (.own s.next p.2.2 0 0)))) := by
            have hbr : BR w O M F id (.box (cs.set (o + off) (.own s.next p.2.2 0 0))) := by
              refine ⟨b, cc, el, fz, h1, h2, h3, h4, h5.setL _ (fun v hv => ?_), h6⟩
              obtain ⟨q, q1, q2⟩ := h5.get' hv
              rw [e3] at q1; cases q1
              rw [q2.nil_inv]; exact .ownEmpty _ _ _ _
            exact (Inv.write (n1 := 0) (n2 := 0) c.inv (Stp.refl _ w) hB h1 h2 hbr).inv
          have hne : id ≠ s.next := by rintro rfl; rw [hnew.2] at hB; cases hB
          have hnew2 : O s.next = none ∧ hget (hset s.heap id (.box (cs.set (o + off) (.own s.next p.2.2 0 0)))) s.next = none := ⟨hnew.1, by rw [hget_hset, if_neg hne]; exact hnew.2⟩
          refine ⟨O, M, F, c.df, c.tr, hI2.nilRow hnew2, fun i hid => ?_, c.k0, fun id hid => c.kn id (by simp only at hid ⊢; omega), c.stp, c.keep, c.less, c.lessM, c.keepF, fun i b' C hC hb => ?_, c.mlt0⟩
          · simp only at hid
            have := c.fresh i (by omega)
            refine ⟨this.1, ?_⟩
            rw [hget_hset, if_neg (by omega), hget_hset, if_neg]
            · exact this.2
            · rintro rfl; rw [this.2] at hB; cases hB
          · rw [hget_hset] at hC
            split at hC
            · next q => subst q; rw [hnew.1] at hb; cases hb
            · rw [hget_hset] at hC
              split at hC
              · next q => subst q; exact c.prov _ b' _ hB hb
              · exact c.prov i b' C hC hb
        · exact hself
      | row cs => exact hself
      | froz cs => exact hself
      | mp cs => exact hself
  · exact hself
theorem promote_sound {a : Act} {w : World} : ∀ (l : List (Nat × Option Nat × Nat)) (s : St), CI B s s.next a w → CI B (promote s l) (promote s l).next a w
  | [], s, h => h
  | p :: l, s, h => promote_sound l _ (promote1_sound p h)

theorem keepT_sound {w : World} {O O' : Nat → Option Nat} {F : Nat → Prop} {σ : Nat → Option Nat} (lv : List Nat) (hσ : ∀ i j, σ i = some j → ∀ b, O i = some b → O' j = some b) : ∀ (n : Nat) (ts : List PV) (cs : List Value), VRs w O F ts cs → VRs w O' F (keepT σ lv n ts) cs
  | n, [], _, h => by cases h; exact .nil
  | n, t :: ts, _, .cons h1 h2 => by
    simp only [keepT]
    refine .cons ?_ (keepT_sound lv hσ (n + 1) ts _ h2)
    split
    · exact VR.mapId hσ h1
    · exact .undef _

/-- numbers told anew: what stays -/
theorem renum {w : World} {O : Nat → Option Nat} {M F : Nat → Prop} {h : Heap} (hI : Inv w O M F h) {S : List Nat} (hS : S.Nodup) :
    Inv w (OS O S) (fun b => M b ∧ ∃ i ∈ S, O i = some b) F (heapOf 0 (S.map fun i => (hget h i).map (Blk.mapId (idxIn S)))) ∧ (∀ i j, idxIn S i = some j → ∀ b, O i = some b → OS O S j = some b) ∧
    (∀ id, S.length ≤ id → OS O S id = none ∧ hget (heapOf 0 (S.map fun i => (hget h i).map (Blk.mapId (idxIn S)))) id = none) ∧
    (∀ id C, hget (heapOf 0 (S.map fun i => (hget h i).map (Blk.mapId (idxIn S)))) id = some C → ∃ i D, S[id]? = some i ∧ hget h i = some D ∧ OS O S id = O i) := by
  have hOS : ∀ (i j : Nat), idxIn S i = some j → ∀ b, O i = some b → OS O S j = some b := by
    intro i j hij b hb
    unfold OS; rw [idxIn_get hij]; exact hb
  have hget_c : ∀ j C, hget (heapOf 0 (S.map fun i => (hget h i).map (Blk.mapId (idxIn S)))) j = some C → ∃ i B0, S[j]? = some i ∧ hget h i = some B0 ∧ C = B0.mapId (idxIn S) := by
    intro j C hC
    rw [hget_heapOf0] at hC
    simp only [List.getElem?_map] at hC
    cases hq : S[j]? with
    | none => rw [hq] at hC; simp at hC
    | some i =>
      rw [hq] at hC
      cases hB0 : hget h i with
      | none => simp [hB0] at hC
      | some B0 => simp [hB0] at hC; exact ⟨i, B0, rfl, hB0, hC.symm⟩
  refine ⟨⟨fun j C hC => ?_, hI.mlt, fun b q => hI.sub b q.1, fun j1 j2 b C D hC hD h1 h2 => ?_⟩, hOS, fun id hid => ⟨by unfold OS; rw [List.getElem?_eq_none hid], ?_⟩, fun id C hC => ?_⟩
  · obtain ⟨i, B0, hi, hB0, rfl⟩ := hget_c j C hC
    exact (hI.blk i B0 hB0).mapId (by unfold OS; rw [hi]) hOS (fun b hb hM => ⟨hM, i, List.mem_of_getElem? hi, hb⟩) (fun b _ q => q)
  · obtain ⟨i1, B1, e1, g1, _⟩ := hget_c j1 C hC
    obtain ⟨i2, B2, e2, g2, _⟩ := hget_c j2 D hD
    unfold OS at h1 h2
    rw [e1] at h1; rw [e2] at h2
    have := hI.inj i1 i2 b _ _ g1 g2 h1 h2
    subst this
    have q1 := idxIn_of_get hS e1
    have q2 := idxIn_of_get hS e2
    rw [q1] at q2; cases q2; rfl
  · rw [hget_heapOf0, List.getElem?_eq_none (by simpa using hid)]; rfl
  · obtain ⟨i, B0, hi, hB0, _⟩ := hget_c id C hC
    exact ⟨i, B0, hi, hB0, by unfold OS; rw [hi]⟩

theorem range_prefix {k : Nat} {S : List Nat} (h : List.range k <+: S) {id : Nat} (hid : id < k) : S[id]? = some id := by
  obtain ⟨r, rfl⟩ := h
  rw [List.getElem?_append_left (by simpa using hid)]
  simp [hid]

theorem canonS_sound (lv : List Nat) (pro : List (Nat × Option Nat × Nat)) {s : St} {a : Act} {w : World} (hc : CI B s s.next a w) : CI B (canonS lv pro s) (canonS lv pro s).next a w := by
  obtain ⟨O, M, F, c⟩ := promote_sound pro s hc
  have hnd : (List.range (promote s pro).k0).Nodup := List.nodup_range
  obtain ⟨k1, k2, k3⟩ := reach_spec (promote s pro).heap 100 (keptIds (promote s pro).heap (promote s pro).k0 ++ liveIds lv 0 (promote s pro).tmps) _ hnd
  obtain ⟨g1, g2, g3, g4⟩ := renum c.inv k1
  refine ⟨_, _, F, c.df, keepT_sound lv g2 0 _ _ c.tr, g1, g3, c.k0, ?_, c.stp, fun id hid => ?_, c.less, fun b hb q => c.lessM b hb q.1, c.keepF, fun id b C hC hb => ?_, c.mlt0⟩
  · intro id hid
    have := k3.length_le
    simp at this
    have hk := c.k0
    have hid' : (reach (promote s pro).heap 100 (keptIds (promote s pro).heap (promote s pro).k0 ++ liveIds lv 0 (promote s pro).tmps) (List.range (promote s pro).k0)).length ≤ id := hid
    omega
  · have hk := c.k0
    have : (reach (promote s pro).heap 100 (keptIds (promote s pro).heap (promote s pro).k0 ++ liveIds lv 0 (promote s pro).tmps) (List.range (promote s pro).k0))[id]? = some id := range_prefix k3 (by omega)
    unfold OS; rw [this]
    exact c.keep id hid
  · obtain ⟨i, D, q1, q2, q3⟩ := g4 id C hC
    rw [q3] at hb
    exact c.prov i b D q2 hb

def copRV (P : Program) : ResultVar → Option RV
  | .tmp t => some (.t t)
  | .cell a t => match aggT P t, szT P t with
    | some g, some s => if g = true ∨ s = 1 then some (.cell a g s) else none
    | _, _ => none

/-- a result, as the program takes it -/
def resOf (a : Act) : ResultVar → Sem Value
  | .tmp t => pure (a.tmps.getD t undef)
  | .cell b t => do loadVar t (← asAddr (a.tmps.getD b undef))
theorem resVs_sound {s : St} {a : Act} {w : World} {O : Nat → Option Nat} {M F : Nat → Prop} (hI : Inv w O M F s.heap) (htr : VRs w O F s.tmps a.tmps.toList) : ∀ (rs : List ResultVar) (rvs : List RV) (vs : List PV), rs.mapM (copRV P) = some rvs → resVs s rvs = some vs →
    ∃ cs, (rs.mapM (resOf a)).run P w = .ok cs w ∧ VRs w O F vs cs
  | [], rvs, vs, h1, h2 => by simp at h1; subst h1; simp [resVs] at h2; subst h2; exact ⟨[], by simp, .nil⟩
  | r :: rs, rvs, vs, h1, h2 => by
    rw [List.mapM_cons] at h1
    cases hr : copRV P r with
    | none => rw [hr] at h1; cases h1
    | some rv =>
      cases hrs : rs.mapM (copRV P) with
      | none => rw [hr, hrs] at h1; cases h1
      | some rvs' =>
        rw [hr, hrs] at h1; cases h1
        simp only [resVs] at h2
        cases hv : resV s rv with
        | none => rw [hv] at h2; cases h2
        | some p =>
          cases hvs : resVs s rvs' with
          | none => rw [hv, hvs] at h2; cases h2
          | some ps =>
            rw [hv, hvs] at h2; cases h2
            obtain ⟨cs, k1, k2⟩ := resVs_sound hI htr rs rvs' ps hrs hvs
            have htmp : ∀ t, VR w O F (s.val (.t t)) (a.tmps.getD t undef) := fun t => TR.val (s := s) (a := a) ⟨htr⟩ (x := .tmp t) rfl
            cases r with
            | tmp t =>
              simp [copRV] at hr; subst hr
              simp [resV] at hv; subst hv
              refine ⟨_ :: cs, ?_, .cons (htmp t) k2⟩
              simp [List.mapM_cons, k1, resOf]
            | cell b t =>
              simp only [copRV] at hr
              cases hg : aggT P t with
              | none => rw [hg] at hr; cases hr
              | some g =>
                cases hz : szT P t with
                | none => rw [hg, hz] at hr; cases hr
                | some z =>
                  rw [hg, hz] at hr
                  simp only at hr
                  split at hr
                  · next h1 =>
                    cases hr
                    simp only [resV] at hv
                    split at hv
                    · next v u he =>
                      cases hv
                      obtain ⟨_, bb, off, v, q1, q2, q3⟩ := load_core (P := P) (v0 := .undef) hI hg hz h1 (htmp b) he
                      refine ⟨v :: cs, ?_, .cons q3 k2⟩
                      simp [List.mapM_cons, k1, resOf, q1, asAddr, q2]
                    · cases hv
                  · cases hr
end
end Go.Proofs.YtipnedhclbopdaaDoorEv

/- Regions that draw their order: one order serves all. -/
set_option linter.unusedVariables false
set_option linter.unusedSimpArgs false
namespace Go.Proofs.YtipnedhclbopdaaDoorEv

def deps (o : Oper) : List Nat := (o.after.toList.filter (Region.binds .any ·)).map (·.on)
def befs (acc : List (List Nat)) : List Oper → List (List Nat)
  | [] => acc
  | o :: l => befs (acc ++ [(deps o ++ (deps o).flatMap fun i => acc.getD i []).eraseDups]) l
def rdT (o : Op) : List Nat := (o.k.xs.filterMap fun | .t n => some n | _ => none) ++ (match o.guard with | some (t, _) => [t] | none => [])
def apartT (a b : Op) : Bool :=
  (match a.dst with | some d => !(rdT b).contains d && !(b.dst == some d) | none => true) && (match b.dst with | some d => !(rdT a).contains d | none => true)
def quietP (a b : Op) : Bool := a.k.free || b.k.free || (a.k.reads && b.k.reads)
/-- the pairs whose order is open -/
def openPairs (bs : List (List Nat)) (n : Nat) : List (Nat × Nat) := (List.range n).flatMap fun j => ((List.range j).filter fun i => !((bs.getD j []).contains i)).map fun i => (i, j)
def pairT (l : List Op) (p : Nat × Nat) : Bool := match l[p.1]?, l[p.2]? with | some a, some b => apartT a b | _, _ => false
def pairQ (l : List Op) (p : Nat × Nat) : Bool := match l[p.1]?, l[p.2]? with | some a, some b => quietP a b | _, _ => false
def depsBelow : Nat → List Oper → Bool
  | _, [] => true
  | k, o :: l => (deps o).all (· < k) && depsBelow (k + 1) l
def drawOk (ops : Array Oper) (l : List Op) : Bool := depsBelow 0 ops.toList && (openPairs (befs [] ops.toList) l.length).all (pairT l)
def confOf (ops : Array Oper) (l : List Op) : List (Nat × Nat) := (openPairs (befs [] ops.toList) l.length).filter fun p => !pairQ l p

theorem mem_openPairs {bs : List (List Nat)} {n i j : Nat} (hj : j < n) (hi : i < j) (hb : i ∉ bs.getD j []) : (i, j) ∈ openPairs bs n := by
  unfold openPairs
  rw [List.mem_flatMap]
  refine ⟨j, by simpa using hj, ?_⟩
  rw [List.mem_map]
  exact ⟨i, by rw [List.mem_filter]; exact ⟨by simpa using hi, by simpa using hb⟩, rfl⟩

section
variable {ops : List Oper}
def Closed (ops : List Oper) (E : Nat → Prop) : Prop := ∀ j o, ops[j]? = some o → E j → ∀ d ∈ deps o, E d
theorem befs_spec : ∀ (l : List Oper) (acc : List (List Nat)) (k0 : Nat), acc.length = k0 → l = ops.drop k0 →
    (∀ (k : Nat) (bk : List Nat), acc[k]? = some bk → ∀ i ∈ bk, ∀ E : Nat → Prop, Closed ops E → (∀ o, ops[k]? = some o → ∀ d ∈ deps o, E d) → E i) →
    ∀ (k : Nat) (bk : List Nat), (befs acc l)[k]? = some bk → ∀ i ∈ bk, ∀ E : Nat → Prop, Closed ops E → (∀ o, ops[k]? = some o → ∀ d ∈ deps o, E d) → E i
  | [], acc, k0, _, _, h => h
  | o :: l, acc, k0, hk, hl, h => by
    have hlt : k0 < ops.length := by
      rcases Nat.lt_or_ge k0 ops.length with q | q
      · exact q
      · rw [List.drop_eq_nil_of_le q] at hl; cases hl
    rw [List.drop_eq_getElem_cons hlt] at hl
    injection hl with h1 h2
    refine befs_spec l _ (k0 + 1) (by simp [hk]) h2 ?_
    intro k bk hbk i hi E hE hd
    by_cases e : k < acc.length
    · rw [List.getElem?_append_left e] at hbk
      exact h k bk hbk i hi E hE hd
    · have hkk : k = acc.length := by
        rcases Nat.lt_or_ge acc.length k with q | q
        · rw [List.getElem?_eq_none (by simp; omega)] at hbk; cases hbk
        · omega
      subst hkk
      simp at hbk
      subst hbk
      rw [List.mem_eraseDups] at hi
      have hok : ops[acc.length]? = some o := by rw [hk, List.getElem?_eq_getElem hlt, h1]
      rcases List.mem_append.1 hi with q | q
      · exact hd o hok i q
      · obtain ⟨j, hj, hij⟩ := List.mem_flatMap.1 q
        have hEj := hd o hok j hj
        cases hb : acc[j]? with
        | none => rw [hb] at hij; simp at hij
        | some bj =>
          rw [hb] at hij
          exact h j bj hb i hij E hE (fun o' ho' d hd' => hE j o' ho' hEj d hd')
theorem bef_closed {E : Nat → Prop} (hE : Closed ops E) {k i : Nat} (hi : i ∈ (befs [] ops).getD k []) (hd : ∀ o, ops[k]? = some o → ∀ d ∈ deps o, E d) : E i := by
  cases hb : (befs [] ops)[k]? with
  | none => rw [List.getD_eq_getElem?_getD, hb] at hi; simp at hi
  | some bk =>
    rw [List.getD_eq_getElem?_getD, hb] at hi
    exact befs_spec (ops := ops) ops [] 0 rfl (by simp) (by simp) k bk hb i hi E hE hd
end

/-- the last writer's value -/
def last {α : Type} (g : Nat → Option α) : Nat → Option α
  | 0 => none
  | n + 1 => match g n with | some v => some v | none => last g n
theorem last_congr {α : Type} {g g' : Nat → Option α} : ∀ n, (∀ k, k < n → g k = g' k) → last g n = last g' n
  | 0, _ => rfl
  | n + 1, h => by simp only [last, h n (Nat.lt_succ_self n), last_congr n (fun k hk => h k (Nat.lt_succ_of_lt hk))]
theorem last_at {α : Type} {g : Nat → Option α} {j : Nat} {v : α} (hv : g j = some v) : ∀ n, j < n → (∀ k, j < k → k < n → g k = none) → last g n = some v
  | 0, h, _ => by omega
  | n + 1, h, hn => by
    simp only [last]
    by_cases e : j = n
    · subst e; rw [hv]
    · rw [hn n (by omega) (Nat.lt_succ_self n)]
      exact last_at hv n (by omega) (fun k h1 h2 => hn k h1 (Nat.lt_succ_of_lt h2))
theorem last_stop {α : Type} {g : Nat → Option α} {m : Nat} : ∀ n, m ≤ n → (∀ k, m ≤ k → k < n → g k = none) → last g n = last g m
  | 0, h, _ => by have : m = 0 := by omega
                  subst this; rfl
  | n + 1, h, hn => by
    by_cases e : m = n + 1
    · subst e; rfl
    · simp only [last]
      rw [hn n (by omega) (Nat.lt_succ_self n)]
      exact last_stop n (by omega) (fun k h1 h2 => hn k h1 (Nat.lt_succ_of_lt h2))

/-- what an operation does to a state -/
theorem stepOp_eff {cf : CF} {s s' : St} {n : Nat} {o : Op} (h : stepOp cf s n o = some s') : ∃ r u, s' = { s with tmps := setOpt s.tmps o.dst r, heap := applyU s.heap u } ∧ (feet cf s n o).2 = u.map (·.1) ∧
    ∀ t : St, (∀ x ∈ rdT o, t.tmps.getD x .undef = s.tmps.getD x .undef) → (∀ id ∈ (feet cf s n o).1, hget s.heap id = hget t.heap id) → stepOp cf t n o = some { t with tmps := setOpt t.tmps o.dst r, heap := applyU t.heap u } := by
  unfold stepOp at h
  have hwd : ∀ t : St, (∀ x ∈ rdT o, t.tmps.getD x .undef = s.tmps.getD x .undef) → wantedO t o = wantedO s o := by
    intro t ht
    unfold wantedO
    cases hg : o.guard with
    | none => rfl
    | some p => obtain ⟨x, want⟩ := p; simp only; rw [ht x (by simp [rdT, hg])]
  cases hw : wantedO s o with
  | none => rw [hw] at h; cases h
  | some b =>
    rw [hw] at h
    cases b with
    | false =>
      cases h
      refine ⟨.tup [], [], rfl, by unfold feet; rw [hw]; rfl, fun t ht _ => ?_⟩
      unfold stepOp
      rw [hwd t ht, hw]
      rfl
    | true =>
      simp only at h
      cases he : evalK cf o.k n s.val s.heap with
      | none => rw [he] at h; cases h
      | some p =>
        obtain ⟨r, u⟩ := p
        rw [he] at h
        simp only at h
        cases h
        refine ⟨r, u, rfl, by unfold feet; rw [hw]; simp only; rw [he], fun t ht hid => ?_⟩
        have hx : ∀ x ∈ o.k.xs, s.val x = t.val x := by
          intro x hx
          cases x with
          | c v => rfl
          | t n =>
            simp only [St.val]
            refine (ht n ?_).symm
            unfold rdT
            exact List.mem_append_left _ (List.mem_filterMap.2 ⟨.t n, hx, rfl⟩)
        have hn : ∀ id ∈ needs o.k s.val s.heap, hget s.heap id = hget t.heap id := by
          intro id hi
          refine hid id ?_
          unfold feet; rw [hw]; exact hi
        have := (evalK_agree cf o.k n hx hn).1
        unfold stepOp
        rw [hwd t ht, hw]
        simp only
        rw [← this, he]

theorem run_states {cf : CF} : ∀ (l : List Op) (s s' : St) (n : Nat), stepOps cf s n l = some s' → ∃ S : Nat → St, S 0 = s ∧ (∀ j o, l[j]? = some o → stepOp cf (S j) (n + stride * j) o = some (S (j + 1)) ∧ (feetL cf s n l)[j]? = some (feet cf (S j) (n + stride * j) o)) ∧ s' = { S l.length with next := n + stride * l.length }
  | [], s, s', n, h => by simp [stepOps] at h; subst h; exact ⟨fun _ => s, rfl, by simp, by simp⟩
  | o :: l, s, s', n, h => by
    simp only [stepOps] at h
    cases hs : stepOp cf s n o with
    | none => rw [hs] at h; cases h
    | some s1 =>
      rw [hs] at h
      obtain ⟨S, h0, h1, h2⟩ := run_states l s1 s' (n + stride) h
      refine ⟨fun | 0 => s | j + 1 => S j, rfl, fun j o' ho => ?_, ?_⟩
      · cases j with
        | zero =>
          simp at ho; subst ho
          refine ⟨by simpa [h0] using hs, ?_⟩
          simp [feetL]
        | succ j =>
          simp at ho
          have := h1 j o' ho
          have e : n + stride * (j + 1) = n + stride + stride * j := by rw [Nat.mul_add]; omega
          refine ⟨by rw [e]; exact this.1, ?_⟩
          rw [e]
          simp only [feetL, hs, List.getElem?_cons_succ]
          exact this.2
      · rw [h2]
        have e : n + stride * (o :: l).length = n + stride + stride * l.length := by simp [Nat.mul_add]; omega
        rw [e]; rfl

theorem setOpt_getD (ts : List PV) (d : Option Nat) (r : PV) (x : Nat) (hx : x < ts.length) : (setOpt ts d r).getD x .undef = if d = some x then r else ts.getD x .undef := by
  cases d with
  | none => simp [setOpt]
  | some d =>
    simp only [setOpt, List.getD_eq_getElem?_getD, List.getElem?_set]
    by_cases e : d = x
    · subst e; simp [hx]
    · simp [e]
theorem setOpt_length (ts : List PV) (d : Option Nat) (r : PV) : (setOpt ts d r).length = ts.length := by cases d <;> simp [setOpt]
theorem uget_none {u : Upd} {id : Nat} (h : id ∉ u.map (·.1)) : uget u id = none := by
  induction u with
  | nil => rfl
  | cons p u ih =>
    obtain ⟨k, b⟩ := p
    simp at h
    simp only [uget]
    rw [ih (by simp; exact fun x hx => h.2 x hx), if_neg (Ne.symm h.1)]

/-- what is known of a run in the text's order -/
structure Track (cf : CF) (s : St) (n : Nat) (l : List Op) where
  S : Nat → St
  R : Nat → PV
  U : Nat → Upd
  F : Nat → List Nat × List Nat
  s0 : S 0 = s
  next : ∀ (j : Nat) (o : Op), l[j]? = some o → S (j + 1) = { S j with tmps := setOpt (S j).tmps o.dst (R j), heap := applyU (S j).heap (U j) }
  feet : ∀ (j : Nat) (o : Op), l[j]? = some o → (feetL cf s n l)[j]? = some (F j) ∧ (F j).2 = (U j).map (·.1)
  same : ∀ (j : Nat) (o : Op), l[j]? = some o → ∀ t : St, (∀ x ∈ rdT o, t.tmps.getD x .undef = (S j).tmps.getD x .undef) → (∀ id ∈ (F j).1, hget (S j).heap id = hget t.heap id) →
    stepOp cf t (n + stride * j) o = some { t with tmps := setOpt t.tmps o.dst (R j), heap := applyU t.heap (U j) }
  quiet : ∀ (j : Nat) (o : Op), l[j]? = some o → (o.k.free = true → F j = ([], [])) ∧ (o.k.reads = true → (F j).2 = [])

theorem feet_quiet {cf : CF} {s : St} {n : Nat} {o : Op} {s' : St} (hs : stepOp cf s n o = some s') : (o.k.free = true → feet cf s n o = ([], [])) ∧ (o.k.reads = true → (feet cf s n o).2 = []) := by
  unfold feet
  unfold stepOp at hs
  cases hw : wantedO s o with
  | none => rw [hw] at hs; cases hs
  | some b =>
    rw [hw] at hs
    cases b with
    | false => exact ⟨fun _ => rfl, fun _ => rfl⟩
    | true =>
      simp only at hs ⊢
      cases he : evalK cf o.k n s.val s.heap with
      | none => rw [he] at hs; cases hs
      | some p =>
        obtain ⟨r, u⟩ := p
        refine ⟨fun hf => ?_, fun hr => ?_⟩
        · have := free_none cf hf n s.val s.heap
          rw [this.1, this.2 r u he]; rfl
        · rw [reads_none cf hr n s.val s.heap r u he]; rfl

theorem track_of {cf : CF} {s s' : St} {n : Nat} {l : List Op} (h : stepOps cf s n l = some s') : ∃ T : Track cf s n l, s' = { T.S l.length with next := n + stride * l.length } := by
  obtain ⟨S, h0, h1, h2⟩ := run_states l s s' n h
  have key : ∀ j : Nat, ∃ p : PV × Upd, ∀ o, l[j]? = some o → S (j + 1) = { S j with tmps := setOpt (S j).tmps o.dst p.1, heap := applyU (S j).heap p.2 } ∧ (feet cf (S j) (n + stride * j) o).2 = p.2.map (·.1) ∧
      ∀ t : St, (∀ x ∈ rdT o, t.tmps.getD x .undef = (S j).tmps.getD x .undef) → (∀ id ∈ (feet cf (S j) (n + stride * j) o).1, hget (S j).heap id = hget t.heap id) → stepOp cf t (n + stride * j) o = some { t with tmps := setOpt t.tmps o.dst p.1, heap := applyU t.heap p.2 } := by
    intro j
    cases ho : l[j]? with
    | none => exact ⟨(.undef, []), fun o q => by cases q⟩
    | some o =>
      obtain ⟨r, u, q1, q2, q3⟩ := stepOp_eff (h1 j o ho).1
      exact ⟨(r, u), fun o' q => by cases q; exact ⟨q1, q2, q3⟩⟩
  have hF : ∀ j : Nat, ∃ f : List Nat × List Nat, ∀ o, l[j]? = some o → f = feet cf (S j) (n + stride * j) o := by
    intro j
    cases ho : l[j]? with
    | none => exact ⟨([], []), fun o q => by cases q⟩
    | some o => exact ⟨_, fun o' q => by cases q; rfl⟩
  refine ⟨⟨S, fun j => (key j).choose.1, fun j => (key j).choose.2, fun j => (hF j).choose, h0, fun j o ho => ((key j).choose_spec o ho).1, fun j o ho => ?_, fun j o ho => ?_, fun j o ho => ?_⟩, h2⟩
  · have e := (hF j).choose_spec o ho
    rw [e]
    exact ⟨(h1 j o ho).2, ((key j).choose_spec o ho).2.1⟩
  · have e := (hF j).choose_spec o ho
    rw [e]
    exact ((key j).choose_spec o ho).2.2
  · have e := (hF j).choose_spec o ho
    rw [e]
    exact feet_quiet (h1 j o ho).1

section
variable {cf : CF} {s : St} {n : Nat} {l : List Op} (T : Track cf s n l)
/-- what operation k leaves in a temporary, in a block -/
def Track.wT (x k : Nat) : Option PV := match l[k]? with | some o => if o.dst = some x then some (T.R k) else none | none => none
def Track.wH (id k : Nat) : Option (Option Blk) := match l[k]? with | some o => uget (T.U k) id | none => none
def on (E : Nat → Bool) {α : Type} (g : Nat → Option α) : Nat → Option α := fun k => if E k then g k else none
/-- a state in which just these operations have been carried out -/
structure Track.Cons (E : Nat → Bool) (t : St) : Prop where
  len : t.tmps.length = s.tmps.length
  tmp : ∀ x, x < s.tmps.length → t.tmps.getD x .undef = (last (on E (T.wT x)) l.length).getD (s.tmps.getD x .undef)
  blk : ∀ id, hget t.heap id = (last (on E (T.wH id)) l.length).getD (hget s.heap id)
  k0 : t.k0 = s.k0

theorem Track.len (j : Nat) (hj : j ≤ l.length) : (T.S j).tmps.length = s.tmps.length ∧ (T.S j).k0 = s.k0 := by
  induction j with
  | zero => rw [T.s0]; exact ⟨rfl, rfl⟩
  | succ j ih =>
    have hlt : j < l.length := by omega
    have := T.next j l[j] (List.getElem?_eq_getElem hlt)
    rw [this]
    simp only [setOpt_length]
    exact ih (by omega)
theorem last_below {α : Type} {g : Nat → Option α} {j m : Nat} (hj : j ≤ m) : last (on (fun k => decide (k < j)) g) m = last g j := by
  rw [last_stop m hj (fun k h1 h2 => by simp [on]; omega)]
  exact last_congr j (fun k hk => by simp [on, hk])
theorem Track.cons_below (j : Nat) (hj : j ≤ l.length) : T.Cons (fun k => decide (k < j)) (T.S j) := by
  refine ⟨(T.len j hj).1, fun x hx => ?_, fun id => ?_, (T.len j hj).2⟩
  · rw [last_below hj]
    induction j with
    | zero => rw [T.s0]; rfl
    | succ j ih =>
      have hlt : j < l.length := by omega
      have ho := List.getElem?_eq_getElem hlt
      rw [T.next j l[j] ho]
      simp only [last]
      rw [setOpt_getD _ _ _ _ (by rw [(T.len j (by omega)).1]; exact hx)]
      simp only [Track.wT, ho]
      split
      · rfl
      · exact ih (by omega)
  · rw [last_below hj]
    induction j with
    | zero => rw [T.s0]; rfl
    | succ j ih =>
      have hlt : j < l.length := by omega
      have ho := List.getElem?_eq_getElem hlt
      rw [T.next j l[j] ho]
      simp only [last]
      rw [hget_applyU]
      simp only [Track.wH, ho]
      cases uget (T.U j) id with
      | some b => rfl
      | none => exact ih (by omega)

/-- whatever order is taken: operation j, where what it waits for has been carried out -/
theorem Track.step {E : Nat → Bool} {t : St} (hc : T.Cons E t) {j : Nat} {o : Op} (ho : l[j]? = some o) (hE : E j = false)
    (hT : ∀ k o', l[k]? = some o' → k ≠ j → (E k ≠ decide (k < j)) → apartT o o' = true ∧ apartT o' o = true)
    (hH : ∀ k o', l[k]? = some o' → k ≠ j → (E k ≠ decide (k < j)) → apart (T.F k).2 (T.F j).1 = true ∧ apart (T.F k).2 (T.F j).2 = true)
    : ∃ t', stepOp cf t (n + stride * j) o = some t' ∧ T.Cons (fun k => E k || decide (k = j)) t' := by
  have hjl : j < l.length := (List.getElem?_eq_some_iff.1 ho).1
  have hb := T.cons_below j (by omega)
  have e1 : ∀ x ∈ rdT o, t.tmps.getD x .undef = (T.S j).tmps.getD x .undef := by
    intro x hx
    by_cases hlt : x < s.tmps.length
    · rw [hc.tmp x hlt, hb.tmp x hlt]
      congr 1
      refine last_congr _ (fun k hk => ?_)
      by_cases q : E k = decide (k < j)
      · simp [on, q]
      · have hkl : l[k]? = some l[k] := List.getElem?_eq_getElem hk
        by_cases hkj : k = j
        · subst hkj; simp [on, hE]
        · have := (hT k l[k] hkl hkj q).2
          have hw : T.wT x k = none := by
            simp only [Track.wT, hkl]
            rw [if_neg]
            intro hd
            unfold apartT at this
            rw [hd] at this
            simp at this
            exact absurd hx this.1.1
          simp [on, hw]
    · rw [List.getD_eq_getElem?_getD, List.getD_eq_getElem?_getD, List.getElem?_eq_none (by rw [hc.len]; omega), List.getElem?_eq_none (by rw [hb.len]; omega)]
  have e2 : ∀ id ∈ (T.F j).1, hget (T.S j).heap id = hget t.heap id := by
    intro id hid
    rw [hc.blk id, hb.blk id]
    congr 1
    refine last_congr _ (fun k hk => ?_)
    by_cases q : E k = decide (k < j)
    · simp [on, q]
    · have hkl : l[k]? = some l[k] := List.getElem?_eq_getElem hk
      by_cases hkj : k = j
      · subst hkj; simp [on, hE]
      · have h1 := (hH k l[k] hkl hkj q).1
        have hw : T.wH id k = none := by
          simp only [Track.wH, hkl]
          refine uget_none (fun hin => ?_)
          rw [← (T.feet k l[k] hkl).2] at hin
          unfold apart at h1
          rw [List.all_eq_true] at h1
          have := h1 id hin
          simp at this
          exact this hid
        simp [on, hw]
  refine ⟨_, T.same j o ho t e1 e2, ⟨by simp only [setOpt_length]; exact hc.len, fun x hx => ?_, fun id => ?_, hc.k0⟩⟩
  · simp only
    rw [setOpt_getD _ _ _ _ (by rw [hc.len]; exact hx)]
    split
    · next hd =>
      rw [last_at (v := T.R j) (j := j)]
      · rfl
      · simp [on, Track.wT, ho, hd]
      · exact hjl
      · intro k h1 h2
        by_cases q : E k = decide (k < j)
        · have : E k = false := by rw [q]; simp; omega
          have hne : ¬ k = j := by omega
          simp [on, this, hne]
        · have hkl : l[k]? = some l[k] := List.getElem?_eq_getElem h2
          have := (hT k l[k] hkl (by omega) q).1
          have hw : T.wT x k = none := by
            simp only [Track.wT, hkl]
            rw [if_neg]
            intro hd'
            unfold apartT at this
            rw [hd, hd'] at this
            simp at this
          simp [on, hw]
    · next hd =>
      rw [hc.tmp x hx]
      congr 1
      refine last_congr _ (fun k hk => ?_)
      by_cases hkj : k = j
      · subst hkj; simp [on, hE, Track.wT, ho, hd]
      · simp [on, hkj]
  · simp only
    rw [hget_applyU]
    cases hu : uget (T.U j) id with
    | some b =>
      simp only
      rw [last_at (v := b) (j := j)]
      · rfl
      · simp [on, Track.wH, ho, hu]
      · exact hjl
      · intro k h1 h2
        by_cases q : E k = decide (k < j)
        · have : E k = false := by rw [q]; simp; omega
          have hne : ¬ k = j := by omega
          simp [on, this, hne]
        · have hkl : l[k]? = some l[k] := List.getElem?_eq_getElem h2
          have h3 := (hH k l[k] hkl (by omega) q).2
          have hw : T.wH id k = none := by
            simp only [Track.wH, hkl]
            refine uget_none (fun hin => ?_)
            rw [← (T.feet k l[k] hkl).2] at hin
            unfold apart at h3
            rw [List.all_eq_true] at h3
            have := h3 id hin
            simp at this
            apply this
            rw [(T.feet j o ho).2]
            apply Classical.byContradiction
            intro hni
            rw [uget_none hni] at hu; cases hu
          simp [on, hw]
    | none =>
      simp only
      rw [hc.blk id]
      congr 1
      refine last_congr _ (fun k hk => ?_)
      by_cases hkj : k = j
      · subst hkj; simp [on, hE, Track.wH, ho, hu]
      · simp [on, hkj]
end

theorem mapM_at {α β : Type} {f : α → Option β} : ∀ {L : List α} {l : List β}, L.mapM f = some l → l.length = L.length ∧ ∀ (j : Nat) (o : α), L[j]? = some o → ∃ op, f o = some op ∧ l[j]? = some op
  | [], l, h => by simp at h; subst h; simp
  | x :: L, l, h => by
    rw [List.mapM_cons] at h
    cases h1 : f x with
    | none => rw [h1] at h; cases h
    | some y =>
      cases h2 : L.mapM f with
      | none => rw [h1, h2] at h; cases h
      | some l' =>
        rw [h1, h2] at h; cases h
        have ih := mapM_at h2
        refine ⟨by simp [ih.1], fun j o ho => ?_⟩
        cases j with
        | zero => simp at ho; subst ho; exact ⟨y, h1, by simp⟩
        | succ j => simp at ho; simpa using ih.2 j o ho
theorem apartT_symm {a b : Op} (h : apartT a b = true) : apartT b a = true := by
  unfold apartT at *
  cases ha : a.dst with
  | none =>
    cases hb : b.dst with
    | none => rfl
    | some e => rw [ha, hb] at h; simp at h ⊢; exact h
  | some d =>
    cases hb : b.dst with
    | none => rw [ha, hb] at h; simp at h ⊢; exact h
    | some e => rw [ha, hb] at h; simp at h ⊢; exact ⟨⟨h.2, fun q => h.1.2 q.symm⟩, h.1.1⟩
theorem apart_symm {a b : List Nat} (h : apart a b = true) : apart b a = true := by
  unfold apart at *
  rw [List.all_eq_true] at *
  intro x hx
  simp
  intro hxa
  have := h x hxa
  simp at this
  exact this hx
theorem apart_nil {a : List Nat} : apart a [] = true := by simp [apart]
theorem nil_apart {a : List Nat} : apart [] a = true := by simp [apart]
theorem confOk_mem {fs : List (List Nat × List Nat)} : ∀ {ps : List (Nat × Nat)}, confOk fs ps = true → ∀ {i j}, (i, j) ∈ ps → ∃ a b, fs[i]? = some a ∧ fs[j]? = some b ∧ apart a.2 b.1 = true ∧ apart a.2 b.2 = true ∧ apart a.1 b.2 = true
  | [], _, _, _, h => by cases h
  | (i', j') :: r, hc, i, j, h => by
    simp only [confOk, Bool.and_eq_true] at hc
    rcases List.mem_cons.1 h with q | q
    · injection q with q1 q2
      subst q1; subst q2
      cases h1 : fs[i]? with
      | none => rw [h1] at hc; simp at hc
      | some a =>
        cases h2 : fs[j]? with
        | none => rw [h1, h2] at hc; simp at hc
        | some b =>
          rw [h1, h2] at hc
          simp only [Bool.and_eq_true] at hc
          exact ⟨a, b, rfl, rfl, hc.1.1.1, hc.1.1.2, hc.1.2⟩
    · exact confOk_mem hc.2 q
theorem depsBelow_at : ∀ {l : List Oper} {k : Nat}, depsBelow k l = true → ∀ (j : Nat) (o : Oper), l[j]? = some o → ∀ d ∈ deps o, d < k + j
  | [], k, _, j, o, h => by simp at h
  | x :: l, k, hd, j, o, h => by
    simp only [depsBelow, Bool.and_eq_true, List.all_eq_true] at hd
    cases j with
    | zero => simp at h; subst h; intro d hdm; simpa using hd.1 d hdm
    | succ j =>
      simp at h
      intro d hdm
      have := depsBelow_at hd.2 j o h d hdm
      omega

theorem CX.congr {B : Base} {s t : St} {Fr : Nat → Prop} {a : Act} {w : World} {O : Nat → Option Nat} {M F : Nat → Prop} (h : CX B s Fr a w O M F) (h1 : t.tmps = s.tmps) (h2 : ∀ id, hget t.heap id = hget s.heap id) (h3 : t.k0 = s.k0) : CX B t Fr a w O M F :=
  ⟨h.df, by rw [h1]; exact h.tr, ⟨fun id C hC => h.inv.blk id C (by rw [← h2]; exact hC), h.inv.mlt, h.inv.sub, fun i j b C D q1 q2 => h.inv.inj i j b C D (by rw [← h2]; exact q1) (by rw [← h2]; exact q2)⟩, fun id q => ⟨(h.fresh id q).1, by rw [h2]; exact (h.fresh id q).2⟩, h3.trans h.k0, h.kn, h.stp, h.keep, h.less, h.lessM, h.keepF, fun id b C hC => h.prov id b C (by rw [← h2]; exact hC), h.mlt0⟩

section
variable {cf : CF} {s : St} {n : Nat} {l : List Op} (T : Track cf s n l)
theorem Track.fin {E : Nat → Bool} {t : St} (hc : T.Cons E t) (hall : ∀ k, k < l.length → E k = true) : t.tmps = (T.S l.length).tmps ∧ (∀ id, hget t.heap id = hget (T.S l.length).heap id) ∧ t.k0 = (T.S l.length).k0 := by
  have hb := T.cons_below l.length (Nat.le_refl _)
  refine ⟨?_, fun id => ?_, hc.k0.trans hb.k0.symm⟩
  · apply List.ext_getElem?
    intro x
    by_cases hlt : x < s.tmps.length
    · have e : t.tmps.getD x .undef = (T.S l.length).tmps.getD x .undef := by
        rw [hc.tmp x hlt, hb.tmp x hlt]
        congr 1
        exact last_congr _ (fun k hk => by simp [on, hall k hk, hk])
      have l1 : x < t.tmps.length := by rw [hc.len]; exact hlt
      have l2 : x < (T.S l.length).tmps.length := by rw [hb.len]; exact hlt
      rw [List.getD_eq_getElem?_getD, List.getD_eq_getElem?_getD, List.getElem?_eq_getElem l1, List.getElem?_eq_getElem l2] at e
      rw [List.getElem?_eq_getElem l1, List.getElem?_eq_getElem l2]
      exact congrArg some e
    · rw [List.getElem?_eq_none (by rw [hc.len]; omega), List.getElem?_eq_none (by rw [hb.len]; omega)]
  · rw [hc.blk id, hb.blk id]
    congr 1
    exact last_congr _ (fun k hk => by simp [on, hall k hk, hk])
end

def frE (n len : Nat) (E : Nat → Bool) : Nat → Prop := fun id => n ≤ id ∧ ∀ j, j < len → E j = true → ¬ (n + stride * j ≤ id ∧ id < n + stride * j + stride)
theorem frE_has {n len : Nat} {E : Nat → Bool} {j : Nat} (hE : E j = false) : ∀ id, n + stride * j ≤ id → id < n + stride * j + stride → frE n len E id := by
  intro id h1 h2
  refine ⟨by omega, fun k hk hEk hq => ?_⟩
  have hne : k ≠ j := fun e => by subst e; rw [hE] at hEk; cases hEk
  simp only [stride] at *
  omega

section
variable {P : Program} {raws : Nat → List Bool} {B : Base} {cf : CF}
theorem drawRun (hcf : CFok P cf) {ops : Array Oper} {l : List Op} (hl : ops.toList.mapM (copOp P raws ops) = some l) (hd : drawOk ops l = true) {s : St} {n : Nat} (T : Track cf s n l)
    (hconf : confOk (feetL cf s n l) (confOf ops l) = true) {Q : Exit → Act → World → Prop} (hQ : ∀ a w, CG B (T.S l.length) (fun id => n + stride * l.length ≤ id) a w → Q .normal a w) :
    ∀ (fuel : Nat) (listed : Array Bool) (t : St) (a : Act) (w : World), listed.size = ops.size → listed.toList.count false ≤ fuel → Closed ops.toList (fun k => listed.getD k false = true) → T.Cons (fun k => listed.getD k false) t → CG B t (frE n l.length (fun k => listed.getD k false)) a w → wpAny P .any ops Q fuel listed a w := by
  have hlen := (mapM_at hl).1
  have hat := (mapM_at hl).2
  unfold drawOk at hd
  rw [Bool.and_eq_true] at hd
  obtain ⟨hdb, hpt⟩ := hd
  rw [List.all_eq_true] at hpt
  have hpair : ∀ i j, i < j → j < l.length → i ∉ (befs [] ops.toList).getD j [] → ∀ a b, l[i]? = some a → l[j]? = some b → apartT a b = true ∧ apart (T.F i).2 (T.F j).1 = true ∧ apart (T.F i).2 (T.F j).2 = true ∧ apart (T.F i).1 (T.F j).2 = true := by
    intro i j hij hj hn a b ha hb
    have hm := mem_openPairs hj hij hn
    have h1 := hpt _ hm
    unfold pairT at h1
    simp only [ha, hb] at h1
    refine ⟨h1, ?_⟩
    have qa := T.quiet i a ha
    have qb := T.quiet j b hb
    cases hq : pairQ l (i, j) with
    | true =>
      unfold pairQ at hq
      simp only [ha, hb] at hq
      unfold quietP at hq
      simp only [Bool.or_eq_true, Bool.and_eq_true] at hq
      rcases hq with (q | q) | q
      · rw [qa.1 q]; exact ⟨nil_apart, nil_apart, nil_apart⟩
      · rw [qb.1 q]; exact ⟨apart_nil, apart_nil, apart_nil⟩
      · rw [qa.2 q.1, qb.2 q.2]; exact ⟨nil_apart, nil_apart, apart_nil⟩
    | false =>
      have hin : (i, j) ∈ confOf ops l := by
        unfold confOf
        rw [List.mem_filter]
        exact ⟨hm, by simp [hq]⟩
      obtain ⟨fa, fb, e1, e2, q⟩ := confOk_mem hconf hin
      rw [(T.feet i a ha).1] at e1
      rw [(T.feet j b hb).1] at e2
      cases e1; cases e2
      exact q
  have hdone : ∀ (listed : Array Bool) (t : St) (a : Act) (w : World), (∀ k, k < l.length → listed.getD k false = true) → T.Cons (fun k => listed.getD k false) t → CG B t (frE n l.length (fun k => listed.getD k false)) a w → Q .normal a w := by
    intro listed t a w hall hc hg
    obtain ⟨h1, h2, h3⟩ := T.fin hc hall
    obtain ⟨O, M, F, c⟩ := hg
    have c' := c.congr (t := T.S l.length) h1.symm (fun id => (h2 id).symm) h3.symm
    refine hQ a w (CG.mono ⟨O, M, F, c'⟩ (fun id hid => ⟨by omega, fun j hj _ hq => ?_⟩))
    simp only [stride] at *
    omega
  intro fuel
  induction fuel with
  | zero =>
    intro listed t a w hsz hcnt hcl hc hg
    have hall : ∀ k, k < l.length → listed.getD k false = true := by
      intro k hk
      have hk' : k < listed.size := by rw [hsz]; simpa [hlen] using hk
      have h0 : listed.toList.count false = 0 := by omega
      rw [List.count_eq_zero] at h0
      cases hq : listed[k] with
      | true => simp [hk', hq]
      | false => exact absurd (by rw [← hq]; exact Array.getElem_mem_toList hk') h0
    refine ⟨?_, hdone listed t a w hall hc hg⟩
    apply List.eq_nil_iff_forall_not_mem.2
    intro j hj
    obtain ⟨h1, o, ho, _⟩ := mem_ready.1 hj
    have hk : j < l.length := by rw [hlen]; simpa using (Array.getElem?_eq_some_iff.1 ho).1
    have := hall j hk
    have hk' : j < listed.size := by rw [hsz]; simpa [hlen] using hk
    simp [hk'] at this h1
    rw [this] at h1; cases h1
  | succ fuel ih =>
    intro listed t a w hsz hcnt hcl hc hg
    refine ⟨fun hr => ?_, fun j hj => ?_⟩
    · refine hdone listed t a w (fun k hk => ?_) hc hg
      induction k using Nat.strongRecOn with
      | _ k ihk =>
        apply Classical.byContradiction
        intro hnot
        have hk' : k < ops.size := by simpa [hlen] using hk
        have ho : ops[k]? = some ops[k] := Array.getElem?_eq_getElem hk'
        have : k ∈ Region.ready .any ops listed := by
          rw [mem_ready]
          refine ⟨?_, ops[k], ho, fun e he hb => ?_⟩
          · have hks : k < listed.size := by rw [hsz]; exact hk'
            simp [hks] at hnot ⊢
            exact hnot
          · have hlt := depsBelow_at hdb k ops[k] (by simp [hk']) e.on (by
              unfold deps
              rw [List.mem_map]
              exact ⟨e, List.mem_filter.2 ⟨by simpa using he, hb⟩, rfl⟩)
            exact ihk e.on (by omega) (by omega)
        rw [hr] at this
        cases this
    · obtain ⟨h1, o, ho, hall⟩ := mem_ready.1 hj
      have hjs : j < ops.size := (Array.getElem?_eq_some_iff.1 ho).1
      have hjl : j < listed.size := by rw [hsz]; exact hjs
      have hE : listed.getD j false = false := by simp [hjl] at h1 ⊢; exact h1
      have hol : ops.toList[j]? = some o := by simpa using ho
      obtain ⟨op, hop, hlj⟩ := hat j o hol
      have hjl' : j < l.length := (List.getElem?_eq_some_iff.1 hlj).1
      have hdj : ∀ o', ops.toList[j]? = some o' → ∀ d ∈ deps o', listed.getD d false = true := by
        intro o' ho' d hdm
        rw [hol] at ho'; cases ho'
        unfold deps at hdm
        obtain ⟨e, he, rfl⟩ := List.mem_map.1 hdm
        rw [List.mem_filter] at he
        exact hall e (by simpa using he.1) he.2
      have hop2 : ∀ k o', l[k]? = some o' → k ≠ j → (listed.getD k false ≠ decide (k < j)) → (apartT op o' = true ∧ apartT o' op = true) ∧ apart (T.F k).2 (T.F j).1 = true ∧ apart (T.F k).2 (T.F j).2 = true := by
        intro k o' hk hkj hq
        have hkl : k < l.length := (List.getElem?_eq_some_iff.1 hk).1
        rcases Nat.lt_or_ge k j with q | q
        · have hf : listed.getD k false = false := by
            cases hz : listed.getD k false with
            | false => rfl
            | true => exact absurd (by rw [hz]; simp [q]) hq
          have hnb : k ∉ (befs [] ops.toList).getD j [] := by
            intro hin
            have := bef_closed (ops := ops.toList) hcl hin hdj
            rw [hf] at this; cases this
          have := hpair k j q hjl' hnb o' op hk hlj
          exact ⟨⟨apartT_symm this.1, this.1⟩, this.2.1, this.2.2.1⟩
        · have hlt : j < k := by omega
          have hf : listed.getD k false = true := by
            cases hz : listed.getD k false with
            | true => rfl
            | false => exact absurd (by rw [hz]; simp; omega) hq
          have hnb : j ∉ (befs [] ops.toList).getD k [] := by
            intro hin
            have := bef_closed (ops := ops.toList) hcl hin (fun o' ho' d hd' => hcl k o' ho' hf d hd')
            rw [hE] at this; cases this
          have := hpair j k hlt hkl hnb op o' hlj hk
          exact ⟨⟨this.1, apartT_symm this.1⟩, apart_symm this.2.2.2, apart_symm this.2.2.1⟩
      obtain ⟨t', hst, hc'⟩ := T.step hc hlj hE (fun k o' h1 h2 h3 => (hop2 k o' h1 h2 h3).1) (fun k o' h1 h2 h3 => (hop2 k o' h1 h2 h3).2)
      have hsd := stepOp_sound (P := P) (B := B) hcf hop hst hg (frE_has hE) Q
      have hfun : (fun k => (listed.setIfInBounds j true).getD k false) = (fun k => listed.getD k false || decide (k = j)) := by
        funext k
        by_cases e : k = j
        · subst e; simp [hjl]
        · rw [getD_set_ne false (Ne.symm e)]; simp [e]
      have hnx : ∀ a' w', CG B t' (fun id => frE n l.length (fun k => listed.getD k false) id ∧ ¬ (n + stride * j ≤ id ∧ id < n + stride * j + stride)) a' w' → wpAny P .any ops Q fuel (listed.setIfInBounds j true) a' w' := by
        intro a' w' hg'
        refine ih _ t' a' w' (by simp [hsz]) ?_ ?_ (by rw [hfun]; exact hc') ?_
        · have hb : listed.toList[j]'(by simpa using hjl) = false := by
            simp [hjl] at hE; simpa using hE
          have hpos : 0 < listed.toList.count false := List.count_pos_iff.2 (by rw [← hb]; exact List.getElem_mem _)
          rw [Array.toList_setIfInBounds, List.count_set (by simpa using hjl), hb]
          simp only [beq_self_eq_true, if_true]
          have : (true == false) = false := rfl
          rw [this]
          simp only [Bool.false_eq_true, if_false]
          omega
        · intro k o' ho' hk d hdm
          have hk := congrFun hfun k ▸ hk
          have := congrFun hfun d
          rw [this]
          rw [Bool.or_eq_true] at hk
          rcases hk with q | q
          · rw [hcl k o' ho' q d hdm]; rfl
          · simp at q; subst q
            rw [hdj o' ho' d hdm]; rfl
        · refine hg'.mono (fun id hid => ?_)
          rw [hfun] at hid
          refine ⟨⟨hid.1, fun k hk hEk => hid.2 k hk (by simp only [hEk]; rfl)⟩, hid.2 j hjl' (by simp)⟩
      unfold wpOp
      rw [ho]
      simp only
      split
      · next hw =>
        rw [hw] at hsd
        simp only [if_true] at hsd
        exact .inl (Oper.wp_mono hnx hsd)
      · next hw =>
        simp only [Bool.not_eq_true] at hw
        rw [hw] at hsd
        simp only [Bool.false_eq_true, if_false] at hsd
        exact hnx _ _ hsd

theorem CG.drawn {s : St} {Fr : Nat → Prop} {a : Act} {w : World} (h : CG B s Fr a w) : CG B s Fr a { w with drawn := w.drawn + 1 } := by
  obtain ⟨O, M, F, c⟩ := h
  have hst : ∀ X : Nat → Prop, Stp X w { w with drawn := w.drawn + 1 } := fun X => ⟨Nat.le_refl _, fun _ _ _ => rfl, fun _ _ => rfl, rfl, rfl, rfl⟩
  refine ⟨O, M, F, c.df, VRs.step (hst F) (fun _ _ q => q) (fun _ _ q => q) c.tr, ⟨fun id C hC => BR.step (hst (fun _ => False)) (fun _ q => q.elim) (fun _ _ q => q) (fun _ _ q => q) (fun b _ => ⟨fun q => q, fun q => q⟩) (fun q => q) (c.inv.blk id C hC), c.inv.mlt.same (hst (fun _ => False)) (fun _ q => q.elim), c.inv.sub, c.inv.inj⟩, c.fresh, c.k0, c.kn, c.stp.trans (hst (fun _ => False)) (fun _ _ q => q.elim), c.keep, c.less, c.lessM, c.keepF, c.prov, c.mlt0⟩

theorem drawOps (hcf : CFok P cf) (hm : P.follows .mixedOrders = true) {id : Nat} {ops : Array Oper} {l : List Op} (hl : ops.toList.mapM (copOp P raws ops) = some l) (hd : drawOk ops l = true) {s s' : St} (hs : stepOps cf s s.next l = some s')
    (hc : confOk (feetL cf s s.next l) (confOf ops l) = true) {a : Act} {w : World} (hi : CI B s s.next a w) {Q : Exit → Act → World → Prop} (hQ : ∀ a w, CI B s' s'.next a w → Q .normal a w) : (Code.region id ops true).wp P Q a w := by
  obtain ⟨T, hT⟩ := track_of hs
  refine wp_region_any hm ?_
  have hnone : (fun k => (Array.replicate ops.size false).getD k false) = fun _ => false := by
    funext k
    by_cases h : k < ops.size <;> simp [h]
  refine drawRun hcf hl hd T hc (B := B) (fun a' w' hg => ?_) ops.size _ s a _ (by simp) ?_ ?_ ?_ ?_
  · refine hQ a' w' ?_
    rw [hT]
    obtain ⟨O, M, F, c⟩ := hg
    exact ⟨O, M, F, c.congr rfl (fun _ => rfl) rfl⟩
  · simp
  · intro j o _ hj
    have := congrFun hnone j
    rw [this] at hj; cases hj
  · rw [hnone]
    have := T.cons_below 0 (Nat.zero_le _)
    rw [T.s0] at this
    simpa using this
  · rw [hnone]
    exact (CG.drawn hi).mono (fun id hid => hid.1)
end
end Go.Proofs.YtipnedhclbopdaaDoorEv

