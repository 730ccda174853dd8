/- General words (2): an evaluator of the model's code, and that what it answers the model answers. -/
import Derived.Test.YtipnedhclbopdaaDoorEv1
import Derived.WalkSpells
import Derived.MapKept
/- Rows written out, copies, least and greatest, equality. -/
set_option linter.unusedVariables false
set_option linter.unusedSimpArgs false
namespace Go.Proofs.YtipnedhclbopdaaDoorEv
section
variable {P : Program} {o : Oper} {ρ : Operand → Value} {w w' : World} {O : Nat → Option Nat} {M F : Nat → Prop} {h : Heap} {new n1 n2 : Nat} {e : X → PV}
  (hI : Inv w O M F h) (hρ : ∀ x y, copX x = some y → VR w O F (e y) (ρ x)) (hfree : O new = none ∧ hget h new = none)

include hρ in
theorem parts1_rel : ∀ (ps : List (Nat × Operand)) (l : List (Nat × X)), ps.mapM copPart1 = some l →
    (l.map (·.1)) = ps.map (·.1) ∧ VRs w O F (l.map fun p => e p.2) (ps.map fun p => ρ p.2)
  | [], l, q => by simp at q; subst q; exact ⟨rfl, .nil⟩
  | p :: ps, l, q => by
    rw [List.mapM_cons] at q
    cases hp : copPart1 p with
    | none => rw [hp] at q; cases q
    | some b =>
      cases hr : ps.mapM copPart1 with
      | none => rw [hp, hr] at q; cases q
      | some l' =>
        rw [hp, hr] at q; cases q
        obtain ⟨k1, k2⟩ := parts1_rel ps l' hr
        unfold copPart1 at hp
        split at hp
        · next x' q2 => cases hp; exact ⟨by simp [k1], .cons (hρ _ _ q2) k2⟩
        · cases hp
theorem parts1_all2 {place : Nat → Option (Nat × Nat)} {es : Nat} (hpl : ∀ i, place i = some (i * es, es)) : ∀ (l : List (Nat × X)) (ps : List (Nat × Operand)) (vs : List PV), l.map (·.1) = ps.map (·.1) → VRs w O F vs (ps.map fun p => ρ p.2) →
    All2 (fun (b : Nat × Nat × PV) (p : Nat × Value) => place p.1 = some (b.1, b.2.1) ∧ VR w O F b.2.2 p.2) ((l.zip vs).map fun p => (p.1.1 * es, es, p.2)) (ps.map fun p => (p.1, ρ p.2))
  | [], [], vs, _, k => by cases k; exact .nil
  | [], p :: ps, vs, q, k => by simp at q
  | a :: l, [], vs, q, k => by simp at q
  | a :: l, p :: ps, vs, q, k => by
    cases k with
    | cons k1 k2 =>
      simp at q
      exact .cons ⟨by rw [hpl]; simp [q.1], k1⟩ (parts1_all2 hpl l ps _ q.2 k2)
theorem fillB_closed : ∀ (bs : List (Nat × Nat × PV)) (cs cs' : List PV), fillB cs bs = some cs' → closedL cs = true → (∀ b ∈ bs, b.2.2.closed = true) → closedL cs' = true
  | [], cs, cs', h, hc, _ => by simp [fillB] at h; subst h; exact hc
  | (off, size, v) :: bs, cs, cs', h, hc, hb => by
    simp only [fillB] at h
    split at h
    · next q =>
      refine fillB_closed bs _ cs' h ?_ (fun b hb' => hb b (List.mem_cons_of_mem _ hb'))
      unfold setRange
      refine closedL_append (closedL_append (closedL_take _ hc) ?_) (closedL_drop _ hc)
      have := hb _ (List.mem_cons_self ..)
      have q1 := q.1
      simp only at this
      cases v <;> simp_all [PV.cells, PV.closed, closedL, PV.cellish]
    · cases h

include hI hρ hfree in
theorem s_bslice {t el : TypeId} {n : Nat} {ps : Array (Nat × Operand)} {z : List PV} {l : List (Nat × X)} {i : TypeInfo} {cf : CF} {r : PV} {u : Upd} (ho : o.op = .buildSlice t n ps) (ht : P.underlying t = some (.slice el)) (hi : P.info? el = some i) (hz : zeroT P el = some z) (hpos : 0 < i.size) (hl : ps.toList.mapM copPart1 = some l)
    (he : evalK cf (.bslice i.size n z l) new e h = some (r, u)) : Res P o ρ w (After w O M F h new (new + stride) r (applyU h u)) := by
  obtain ⟨i', zv, hi', hz1, hz2, hz3, hz4, hz5, hz6⟩ := zeroT_spec hz
  rw [hi] at hi'; cases hi'
  obtain ⟨k1, k2⟩ := parts1_rel hρ _ _ hl
  simp only [evalK] at he
  cases hp : peekL h (l.map fun p => e p.2) with
  | none =>
    rw [hp] at he
    simp only at he
    split at he
    · next hsm =>
      split at he
      · next cs hf =>
        cases he
        have hall := parts1_all2 (w := w) (O := O) (F := F) (place := fun j => some (j * i.size, i.size)) (fun _ => rfl) l ps.toList (l.map fun p => e p.2) k1 k2
        have e1 : ((Array.range (n * i.size)).map (zv.cells[· % zv.cells.size]!)).toList = (List.replicate n zv.cells.toList).flatten := by
          rw [← hz2, Array.toList_map, Array.toList_range]
          exact range_mod zv.cells n
        have hzc : VRs w O F (List.replicate n z).flatten ((Array.range (n * i.size)).map (zv.cells[· % zv.cells.size]!)).toList := by
          have := (hz4 w O F).flat n
          rw [e1]; exact this
        have hone : ∀ v ∈ ((Array.range (n * i.size)).map (zv.cells[· % zv.cells.size]!)).toList, v.oneCell' = true := by
          rw [e1]; exact mem_flat hz5 n
        obtain ⟨c', q1, q2, q3⟩ := fill_sound (fun j => some (j * i.size, i.size)) (ps.toList.map fun p => (p.1, ρ p.2)) _ _ _ cs hzc hone hall hf
        have hcs : c'.size = n * i.size := by
          have h1 := q2.length
          have h2 : cs.length = n * i.size := by
            have : ∀ (bs : List (Nat × Nat × PV)) (a b : List PV), fillB a bs = some b → b.length = a.length := by
              intro bs
              induction bs with
              | nil => intro a b h; simp [fillB] at h; rw [h]
              | cons x bs ih =>
                intro a b h
                obtain ⟨off, size, v⟩ := x
                simp only [fillB] at h
                split at h
                · next q => rw [ih _ _ h]; simp [setRange]; omega
                · cases h
            rw [this _ _ _ hf]
            have hzl := hzc.length
            rw [hzl]; simp
          simp at h1; omega
        have hpa : (ps.map fun p => (p.1, ρ p.2)).toList = ps.toList.map fun p => (p.1, ρ p.2) := by simp
        have hrun : (Instr.buildSlice t n (ps.map fun p => (p.1, ρ p.2))).run P w = .ok (.slice (some ⟨w.heap.size, 0, none⟩) n n) (w.alloc (.cells c' el)) := run_buildSlice w t el n _ c' i zv ht hi hz1 (by omega) (by omega) (by rw [hpa]; exact q1)
        refine .val (v := .slice (some ⟨w.heap.size, 0, none⟩) n n) (w' := w.alloc (.cells c' el)) ?_ (after_alloc hI hfree (cells := c') (el := el) (fz := (0, 0)) (B := .box cs) rfl rfl rfl rfl fun O' M' F' k1 k2 k3 k4 k5 k6 =>
          ⟨⟨_, _, _, _, k2, k3, k6, unfroz00 _, VRs.step k5 k1 k4 q2, q3⟩, .own k2 (shape_of k6) (Nat.le_refl _) (by omega)⟩)
        simp only [execOp, ho, Sem.run_bind, hrun, Result.andThen_ok]
        rfl
      · cases he
    · cases he
  | some vs =>
    rw [hp] at he
    simp only at he
    split at he
    · next hsm =>
      split at he
      · next cs hf =>
        cases he
        have hids := peekL_ids hp
        have hI2 := hI.freezeIds hids
        have hpk := VRs.peek (F' := Less O F (idsL (l.map fun p => e p.2))) hI (fun b _ q => q.1) k2 hp (fun id hid b hO q => q.2 id hid hO)
        have hfree2 : O new = none ∧ hget (applyU h (frz h (idsL (l.map fun p => e p.2)))) new = none := ⟨hfree.1, hget_frz_none hfree.2⟩
        rw [applyU_append]
        have hall := parts1_all2 (w := w) (O := O) (F := Less O F (idsL (l.map fun p => e p.2))) (place := fun j => some (j * i.size, i.size)) (fun _ => rfl) l ps.toList vs k1 hpk.1
        have hzc : VRs w O (Less O F (idsL (l.map fun p => e p.2))) (List.replicate n z).flatten ((Array.range (n * i.size)).map (zv.cells[· % zv.cells.size]!)).toList := by
          have := (hz4 w O (Less O F (idsL (l.map fun p => e p.2)))).flat n
          have e1 : ((Array.range (n * i.size)).map (zv.cells[· % zv.cells.size]!)).toList = (List.replicate n zv.cells.toList).flatten := by
            rw [← hz2, Array.toList_map, Array.toList_range]
            exact range_mod zv.cells n
          rw [e1]; exact this
        have hone : ∀ v ∈ ((Array.range (n * i.size)).map (zv.cells[· % zv.cells.size]!)).toList, v.oneCell' = true := by
          have e1 : ((Array.range (n * i.size)).map (zv.cells[· % zv.cells.size]!)).toList = (List.replicate n zv.cells.toList).flatten := by
            rw [← hz2, Array.toList_map, Array.toList_range]
            exact range_mod zv.cells n
          rw [e1]; exact mem_flat hz5 n
        obtain ⟨c', q1, q2, q3⟩ := fill_sound (fun j => some (j * i.size, i.size)) (ps.toList.map fun p => (p.1, ρ p.2)) _ _ _ cs hzc hone hall hf
        have hcl : closedL cs = true := by
          refine fillB_closed _ _ _ hf (closedL_flat hz6 n) (fun b hb => ?_)
          obtain ⟨p, hp1, rfl⟩ := List.mem_map.1 hb
          exact closedL_iff.1 hpk.2 _ (List.of_mem_zip hp1).2
        have hcs : c'.size = n * i.size := by
          have h1 := q2.length
          have h2 : cs.length = n * i.size := by
            have : ∀ (bs : List (Nat × Nat × PV)) (a b : List PV), fillB a bs = some b → b.length = a.length := by
              intro bs
              induction bs with
              | nil => intro a b h; simp [fillB] at h; rw [h]
              | cons x bs ih =>
                intro a b h
                obtain ⟨off, size, v⟩ := x
                simp only [fillB] at h
                split at h
                · next q => rw [ih _ _ h]; simp [setRange]; omega
                · cases h
            rw [this _ _ _ hf]
            have hzl := hzc.length
            rw [hzl]; simp
          simp at h1; omega
        have hpa : (ps.map fun p => (p.1, ρ p.2)).toList = ps.toList.map fun p => (p.1, ρ p.2) := by simp
        have hrun : (Instr.buildSlice t n (ps.map fun p => (p.1, ρ p.2))).run P w = .ok (.slice (some ⟨w.heap.size, 0, none⟩) n n) (w.alloc (.cells c' el)) := by
          by_cases h0 : n * i.size = 0
          · have hn0 : n = 0 := by
              rcases Nat.mul_eq_zero.1 h0 with q | q
              · exact q
              · omega
            subst hn0
            have e0 : c' = #[] := Array.eq_empty_of_size_eq_zero (by omega)
            subst e0
            have hz0 : l.zip vs = [] := by
              cases hq : l.zip vs with
              | nil => rfl
              | cons a b =>
                rw [hq] at hf
                simp [fillB] at hf
                omega
            have hvl : vs.length = l.length := by
              have h1 := hpk.1.length
              have h2 := k2.length
              simp at h1 h2
              omega
            have hl0 : l = [] := by
              cases l with
              | nil => rfl
              | cons a b =>
                cases vs with
                | nil => simp at hvl
                | cons c d => simp at hz0
            subst hl0
            have hps0 : ps.toList = [] := by
              cases hq : ps.toList with
              | nil => rfl
              | cons a b => rw [hq] at k1; simp at k1
            have hps : ps = #[] := by rw [← Array.toArray_toList (xs := ps), hps0]
            subst hps
            simp [Instr.buildSlice, run_underlying ht, sizeOf, typeInfo, hi, newRow, Instr.fill]
            have e9 : (Array.map (fun (x : Nat) => (default : Value)) (Array.range 0)) = #[] := Array.eq_empty_of_size_eq_zero (by simp)
            rw [e9]
          · exact run_buildSlice w t el n _ c' i zv ht hi hz1 (by omega) h0 (by rw [hpa]; exact q1)
        refine .val (v := .slice (some ⟨w.heap.size, 0, none⟩) n n) (w' := w.alloc (.cells c' el)) ?_ (After.of_less hI hids (after_row hI2 hfree2 (fz := (0, 0)) (el := el) rfl rfl rfl rfl (unfroz00 _) q2 q3 hcl List.prefix_rfl (Nat.le_refl _) (by rw [hcs]; exact Nat.le_refl _)))
        simp only [execOp, ho, Sem.run_bind, hrun, Result.andThen_ok]
        rfl
      · cases he
    · cases he

theorem mm_sound (mx : Bool) : ∀ (xs : List PV) (vs : List Value) (k : IntKind) (x : Int) (r : PV), mm mx (.int k x) xs = some r → VRs w O F xs vs → ∃ v, (vs.foldlM (if mx then Builtin.max2 else Builtin.min2) (.int k x)).run P w = .ok v w ∧ VR w O F r v
  | [], vs, k, x, r, h, hv => by cases hv; simp [mm] at h; subst h; exact ⟨_, rfl, .int _ _⟩
  | c :: xs, vs, k, x, r, h, hv => by
    cases hv with
    | cons h1 h2 =>
      cases c <;> simp only [mm] at h <;> try (cases h; done)
      next k2 y =>
      have := h1.int_inv
      subst this
      obtain ⟨v, q1, q2⟩ := mm_sound mx xs _ k _ r h h2
      refine ⟨v, ?_, q2⟩
      rw [List.foldlM_cons]
      cases mx with
      | true => simpa [Builtin.max2] using q1
      | false => simpa [Builtin.min2] using q1

include hI hρ in
theorem s_minmax {mx : Bool} {xs : List X} {cf : CF} {r : PV} {u : Upd} {c : Call} (ho : o.op = .call c) (hc1 : c.callee = .builtin (if mx then .max else .min)) (hx : c.args.toList.mapM copX = some xs)
    (he : evalK cf (.minmax mx xs) new e h = some (r, u)) : u = [] ∧ Res P o ρ w (After w O M F h n1 n2 r h) := by
  have hv := mapM_cop hρ hx
  simp only [evalK] at he
  cases hxs : xs.map e with
  | nil => rw [hxs] at he; simp at he
  | cons a l =>
    rw [hxs] at he hv
    cases a <;> simp only at he <;> try (cases he; done)
    next k n =>
    cases hm : mm mx (.int k n) l with
    | none => rw [hm] at he; cases he
    | some r' =>
      rw [hm] at he; cases he
      cases hl : c.args.toList.map ρ with
      | nil => rw [hl] at hv; cases hv
      | cons b vs =>
        rw [hl] at hv
        cases hv with
        | cons h1 h2 =>
          have := h1.int_inv
          subst this
          obtain ⟨v, q1, q2⟩ := mm_sound (P := P) mx l vs k n r hm h2
          refine ⟨rfl, .pure hI (v := v) ?_ q2⟩
          have hl' : (c.args.map ρ).toList = .int k n :: vs := by simpa using hl
          cases mx with
          | true =>
            simp only [if_true] at hc1 q1
            simp [execOp, ho, resolve, hc1, invoke, builtin, Builtin.max_, hl']
            rw [hl]
            simp [q1]
          | false =>
            simp only [Bool.false_eq_true, if_false] at hc1 q1
            simp [execOp, ho, resolve, hc1, invoke, builtin, Builtin.min_, hl']
            rw [hl]
            simp [q1]

include hI hρ in
theorem s_eqS {op : BinOp} {neg : Bool} {t t' : TypeId} {x y : Operand} {x' y' : X} {cf : CF} {r : PV} {u : Upd} {fs : Array Field} (hop : op = if neg then .neq else .eql) (ht : P.underlying t = some (.struct fs)) (hT : eqT P 4 t = true) (hg : P.eqGuardType P.depth t = false) (ho : o.op = .binOp op t x y t')
    (hx : copX x = some x') (hy : copX y = some y') (he : evalK cf (.eqS neg (ksT P 4 t) x' y') new e h = some (r, u)) : u = [] ∧ Res P o ρ w (After w O M F h n1 n2 r h) := by
  have h1 := hρ _ _ hx
  have h2 := hρ _ _ hy
  simp only [evalK] at he
  cases hv : e x' <;> cases hv2 : e y' <;> rw [hv, hv2] at he <;> (try simp only at he) <;> try (cases he; done)
  next asV bs =>
  rw [hv] at h1; rw [hv2] at h2
  split at he
  · next hk =>
    cases hc : cellsEq asV bs with
    | none => rw [hc] at he; cases he
    | some q =>
      rw [hc] at he; cases he
      obtain ⟨xs, q1, q2, q3⟩ := h1.agg_inv
      obtain ⟨ys, p1, p2, p3⟩ := h2.agg_inv
      have hs : ∃ s, szT P t = some s := by
        have := hT
        unfold eqT at this
        rw [ht] at this
        cases hs : szT P t with
        | none => rw [hs] at this; simp at this
        | some s => exact ⟨s, rfl⟩
      obtain ⟨s, hs⟩ := hs
      have hkl := ksT_len 4 t s hT hs
      have hal : asV.length = s := by rw [← hkl, ← hk, List.length_map]
      have hbl : ∀ (a b : List PV) (r : Bool), cellsEq a b = some r → a.length = b.length := by
        intro a
        induction a with
        | nil => intro b r hh; cases b <;> simp [cellsEq] at hh ⊢
        | cons x a ih =>
          intro b r hh
          cases b with
          | nil => simp [cellsEq] at hh
          | cons y b =>
            simp only [cellsEq] at hh
            split at hh
            · next p q e1 e2 => simp [ih b q e2]
            · cases hh
      have hrun := eqT_sound (P := P) 4 t s asV bs xs ys q true 9996 hT hs (aggT_of.1 fs ht) q2 p2 hal (by rw [← hbl _ _ _ hc]; exact hal) hk hc
      have hrun' : (Op.equalIn 10000 t (.agg xs.toArray) (.agg ys.toArray)).run P w = .ok q w := hrun
      refine ⟨rfl, .pure hI ?_ (.bool _)⟩
      subst hop
      cases neg with
      | false => simp [execOp, ho, q1, p1, run_eqGuard_agg, hg, run_eql_struct, hrun']
      | true => simp [execOp, ho, q1, p1, run_eqGuard_agg, hg, run_neq_struct, hrun']
  · cases he

include hI hρ in
theorem s_eqNilS {op : BinOp} {neg : Bool} {t t' el : TypeId} {x y : Operand} {x' : X} {cf : CF} {r : PV} {u : Upd} (hop : op = if neg then .neq else .eql) (ht : P.underlying t = some (.slice el)) (ho : o.op = .binOp op t x y t')
    (hx : copX x = some x') (hy : isNilS y = true) (hρc : ∀ v, ρ (.const v) = v) (he : evalK cf (.eqNil false neg x') new e h = some (r, u)) : u = [] ∧ Res P o ρ w (After w O M F h n1 n2 r h) := by
  have h1 := hρ _ _ hx
  have hyv : ρ y = .slice none 0 0 := by
    unfold isNilS at hy
    split at hy
    · exact hρc _
    · cases hy
  have run : ∀ base n c, ρ x = .slice base n c → (execOp ρ o).run P w = .ok (.value (.bool (if neg then !base.isNone else base.isNone))) w := by
    intro base n c hq
    subst hop
    cases neg with
    | false => simp [execOp, ho, hq, hyv, eqGuard_ok, Lib.run_eql_slice_nil w t el base n c 0 0 ht]
    | true => simp [execOp, ho, hq, hyv, eqGuard_ok, run_neq_slice_nil_any w t el base n c 0 0 ht]
  simp only [evalK] at he
  have fin : ∀ q base n c, ρ x = .slice base n c → base.isNone = q → some (PV.bool (if neg then !q else q), ([] : Upd)) = some (r, u) → u = [] ∧ Res P o ρ w (After w O M F h n1 n2 r h) := by
    intro q base n c hs hb hq
    cases hq
    refine ⟨rfl, .pure hI (run base n c hs) ?_⟩
    rw [hb]
    exact .bool _
  cases hv : e x' <;> rw [hv] at h1 he <;> simp only [isNil, Bool.false_eq_true, if_false] at he <;> try (cases he; done)
  · exact fin true _ _ _ h1.nil_inv rfl he
  · next len tight xs =>
    by_cases hne : len = 0
    · rw [if_pos hne] at he; cases he
    · rw [if_neg hne] at he
      rcases h1.sl_inv with ⟨base, cap, hq, hz, _⟩ | ⟨b, off, cap, c, el', fz, vs, hq, _⟩
      · exact absurd hz hne
      · exact fin false _ _ _ hq rfl he
  · next id es off len =>
    by_cases hne : len = 0
    · rw [if_pos hne] at he; cases he
    · rw [if_neg hne] at he
      rcases h1.own_inv with ⟨base, hq, hz⟩ | ⟨b, el', n', cap, hq, _⟩
      · exact absurd hz hne
      · exact fin false _ _ _ hq rfl he

include hI hρ in
theorem s_eqNilF {op : BinOp} {neg : Bool} {t t' : TypeId} {a b : Array TypeId} {vr : Bool} {x y : Operand} {x' : X} {cf : CF} {r : PV} {u : Upd} (hop : op = if neg then .neq else .eql) (ht : P.underlying t = some (.func a b vr)) (ho : o.op = .binOp op t x y t')
    (hx : copX x = some x') (hy : isNilF y = true) (hρc : ∀ v, ρ (.const v) = v) (he : evalK cf (.eqNil true neg x') new e h = some (r, u)) : u = [] ∧ Res P o ρ w (After w O M F h n1 n2 r h) := by
  have h1 := hρ _ _ hx
  have hyv : ρ y = .nilFunc := by
    unfold isNilF at hy
    split at hy
    · exact hρc _
    · cases hy
  have key : ∀ v q, ρ x = v → v ≠ .nilIface → (∀ c, v ≠ .agg c) → (∀ d, (Op.equalIn (d + 1) t v .nilFunc).run P w = .ok q w) → (∀ op, binOp op t v .nilFunc = match op with | .eql => (do pure (.bool (← Op.equal t v .nilFunc))) | .neq => (do pure (.bool (!(← Op.equal t v .nilFunc)))) | _ => binOp op t v .nilFunc) →
      (execOp ρ o).run P w = .ok (.value (.bool (if neg then !q else q))) w := by
    intro v q hq hn1 hn2 hd hb
    have hd' : (Op.equal t v .nilFunc).run P w = .ok q w := hd 9999
    subst hop
    cases neg with
    | false =>
      simp only [execOp, ho, hq, hyv, Sem.run_bind, eqGuard_ok _ _ _ _ v _ hn1 hn2, Result.andThen_ok]
      simp only [Bool.false_eq_true, if_false]
      rw [hb .eql]
      simp [hd']
    | true =>
      simp only [execOp, ho, hq, hyv, Sem.run_bind, eqGuard_ok _ _ _ _ v _ hn1 hn2, Result.andThen_ok]
      simp only [if_true]
      rw [hb .neq]
      simp [hd']
  simp only [evalK] at he
  cases hv : e x' <;> rw [hv] at h1 he <;> simp only [isNil, if_true] at he <;> try (cases he; done)
  · cases he
    cases hq : ρ x <;> rw [hq] at h1 <;> cases h1
    refine ⟨rfl, .pure hI (key _ false hq (by simp) (by simp) (fun d => by simp [Op.equalIn, run_underlying ht]) (fun op => by cases op <;> simp [binOp])) (.bool _)⟩
  · cases he
    cases hq : ρ x <;> rw [hq] at h1 <;> cases h1
    refine ⟨rfl, .pure hI (key _ true hq (by simp) (by simp) (fun d => by simp [Op.equalIn, run_underlying ht]) (fun op => by cases op <;> simp [binOp])) (.bool _)⟩
end
end Go.Proofs.YtipnedhclbopdaaDoorEv

/- Rows copied onto; every operation but calls. -/
set_option linter.unusedVariables false
set_option linter.unusedSimpArgs false
namespace Go.Proofs.YtipnedhclbopdaaDoorEv
section
variable {P : Program} {o : Oper} {ρ : Operand → Value} {w w' : World} {O : Nat → Option Nat} {M F : Nat → Prop} {h : Heap} {new n1 n2 : Nat} {e : X → PV}
  (hI : Inv w O M F h) (hρ : ∀ x y, copX x = some y → VR w O F (e y) (ρ x)) (hfree : O new = none ∧ hget h new = none)

include hI in
theorem after_same {id : Nat} {B : Blk} {r : PV} {v : Value} (hB : hget h id = some B) (hv : VR w O F r v) : After w O M F h n1 n2 r (hset h id B) v w := by
  have hg : ∀ j, hget (hset h id B) j = hget h j := fun j => by rw [hget_hset]; split <;> simp_all
  exact ⟨O, M, F, hv, ⟨fun j C hC => hI.blk j C (by rw [← hg]; exact hC), hI.mlt, hI.sub, fun i j b C D hC hD => hI.inj i j b C D (by rw [← hg]; exact hC) (by rw [← hg]; exact hD)⟩, .refl _ _, fun _ _ q => q, fun _ _ => rfl, fun j _ hj => by rw [hg]; exact hj, fun _ _ q => q, fun _ _ q => q, fun _ q _ => q, fun i b B q r => .inr ⟨i, B, by rw [← hg]; exact q, r⟩⟩

theorem setRange_nil (cs : List PV) (off : Nat) : setRange cs off [] = cs := by simp [setRange]

include hI hρ in
theorem s_copy {t tx el : TypeId} {x y : Operand} {x' y' : X} {s : Nat} {cf : CF} {r : PV} {u : Upd} {c : Call} (ho : o.op = .call c) (hc1 : c.callee = .builtin .copy) (hc2 : c.args.toList = [x, y]) (hc3 : c.argTypes.toList = [t, tx])
    (ht : P.underlying t = some (.slice el)) (hs : szT P el = some s) (hx : copX x = some x') (hy : copX y = some y') (hpos : 0 < s)
    (he : evalK cf (.copy s x' y') new e h = some (r, u)) : Res P o ρ w (After w O M F h n1 n2 r (applyU h u)) := by
  have hr := hρ _ _ hx
  have hry := hρ _ _ hy
  obtain ⟨e1, cs_, e2⟩ := call2_run (P := P) (w := w) (ρ := ρ) ho hc1 hc2 hc3
  have run : ∀ {v w'}, (Builtin.copy_ #[t, tx] o.type #[ρ x, ρ y]).run P w = .ok v w' → (execOp ρ o).run P w = .ok (.value v) w' := by
    intro v w' hl
    rw [e1]
    simp [e2, invoke, builtin, hl]
  simp only [evalK] at he
  have hns : ∀ s, e y' ≠ .str s := by rintro s q; rw [q] at he; cases he
  have hmt : srcNS h (e y') = srcOf h (e y') := by
    unfold srcNS
    split
    · next q => exact absurd q (hns _)
    · rfl
  rw [hmt] at he
  cases hsr : srcOf h (e y') with
  | none => rw [hsr] at he; cases he
  | some p =>
    obtain ⟨n, ys⟩ := p
    rw [hsr] at he
    simp only at he
    split at he
    · next hl =>
      -- the source's first cells
      have src : ∃ base cap, ρ y = .slice base n cap ∧ ∀ k, k ≤ n → ∃ ms, (Builtin.firstCells s k (ρ y)).run P w = .ok ms.toArray w ∧ VRs w O F (ys.take (k * s)) ms ∧ (∀ u ∈ ms, u.oneCell' = true) ∧ closedL (ys.take (k * s)) = true := by
        rcases src_cells hI hry hsr hns with ⟨base, cap, hq, hys, hb⟩ | ⟨b, off, cap, cc, el2, fz, vs, hq, hb2, q5, q6, q7, q8⟩
        · refine ⟨base, cap, hq, fun k hk => ⟨[], ?_, by subst hys; simp; exact .nil, by simp, by subst hys; simp [closedL]⟩⟩
          subst hys
          have hn0 : n = 0 := by
            have : n * s = 0 := by simpa using hl.symm
            rcases Nat.mul_eq_zero.1 this with q | q
            · exact q
            · omega
          have : k = 0 := by omega
          subst this
          rw [hq]
          cases base with
          | none => exact run_firstCells_none w s 0 n cap
          | some a => exact run_firstCells_some w s 0 a n cap [] (by simp) (by simp)
        · refine ⟨_, cap, hq, fun k hk => ⟨vs.take (k * s), ?_, q5.take _, fun u hu => q6 u (List.mem_of_mem_take hu), closedL_take _ q7⟩⟩
          rw [hq]
          have hlen := q5.length
          have : k * s ≤ n * s := Nat.mul_le_mul_right _ hk
          exact run_firstCells_some w s k _ n cap _ (by simp; omega) (cell_of_prefix hb2 (prefix_take q8 _))
      obtain ⟨bs, cap0, hqy, hsrc⟩ := src
      cases hv : e x' <;> rw [hv] at he hr <;> (try simp only at he) <;> try (cases he; done)
      next id es off len =>
      cases hB : hget h id with
      | none => rw [hB] at he; cases he
      | some B =>
        rw [hB] at he
        cases B with
        | box cs => cases he
        | froz cs => cases he
        | mp cs => cases he
        | row cs =>
          simp only at he
          split at he
          · next hle =>
            cases he
            obtain ⟨ms, k1, k2, k3, k4⟩ := hsrc (min n len) (Nat.min_le_left _ _)
            have hmin : Nat.min n len = min n len := rfl
            rcases hr.own_inv with ⟨base, hq, hz⟩ | ⟨b, el', n', cap, hq, hO, hsh, hl2, hf⟩
            · subst hz
              have hms : ms = [] := by
                have := k2.length
                simp at this
                exact List.eq_nil_of_length_eq_zero this.symm
              subst hms
              refine .val (run (v := .int .i64 0) (w' := w) ?_) ?_
              · rw [hq]
                have k1' := k1
                simp only [Nat.min_zero] at k1'
                rw [hqy] at k1' ⊢
                cases base <;> simp [Builtin.copy_, run_underlying ht, run_sizeOf_of hs, Builtin.lenOf, Nat.min_zero, k1', storeCells, goInt]
              · simp only [Nat.min_zero, Nat.zero_mul, List.take_zero, setRange_nil]
                exact after_same hI hB (.int _ _)
            · rcases hI.blk _ _ hB with ⟨_, q⟩ | ⟨b', c', el2, fz, vs, q1, q2, q3, q4, q5, q6, q7, q8⟩
              · rw [hO] at q; cases q
              · rw [hO] at q1; cases q1
                have q5l := q5.length
                have hl8 : vs.length ≤ c'.size := by have := q8.length_le; simpa using this
                have kml := k2.length
                have hmm : min n len * s ≤ len * s := Nat.mul_le_mul_right _ (Nat.min_le_right _ _)
                simp at kml
                have hlen : off + ms.length ≤ vs.length := by omega
                have hst := run_storeCells_cells (P := P) b off ms 0 w (fun j hj => by simpa using (there_of q3 q4 off ms.length (by omega) j hj).1) (fun j hj => by simpa using (there_of q3 q4 off ms.length (by omega) j hj).2) k3
                simp only [Nat.add_zero] at hst
                refine .val (run (v := .int .i64 ((min n len : Nat) : Int)) (w' := w.setCells b off ms) ?_) ?_
                · rw [hq]
                  rw [hqy] at k1 ⊢
                  have k1' : (Builtin.firstCells s (Nat.min n len) (.slice bs n cap0)).run P w = .ok ms.toArray w := k1
                  simp [Builtin.copy_, run_underlying ht, run_sizeOf_of hs, Builtin.lenOf, k1', hst, goInt]
                · exact after_write_row hI hB hO q2 q3 q4 q5 q6 q7 q8 k2 k3 k4 hlen (fun _ _ => .int _ _)
          · cases he
    · cases he
end
end Go.Proofs.YtipnedhclbopdaaDoorEv

/- Maps, rows cleared, complex numbers. -/
set_option linter.unusedVariables false
set_option linter.unusedSimpArgs false
namespace Go.Proofs.YtipnedhclbopdaaDoorEv
open Go.MapKept
mutual
theorem VR.ofScalar {w w' : World} {o o' : Nat → Option Nat} {F F' : Nat → Prop} : ∀ {v c}, VR w o F v c → v.scalar = true → VR w' o' F' v c
  | _, _, .int k n, _ => .int k n
  | _, _, .bool b, _ => .bool b
  | _, _, .str s, _ => .str s
  | _, _, .flt k b, _ => .flt k b
  | _, _, .cpx k a b, _ => .cpx k a b
  | _, _, .agg h h1, q => .agg (VRs.ofScalar h (by simpa [PV.scalar] using q)) h1
  | _, _, .tup h, q => .tup (VRs.ofScalar h (by simpa [PV.scalar] using q))
  | _, _, .nil, _ => .nil
  | _, _, .slEmpty base cap tight h, q => by simp [PV.scalar] at q
  | _, _, .sl n hb h h1 hc ht hl hti, q => by simp [PV.scalar] at q
  | _, _, .ownEmpty id es off base, q => by simp [PV.scalar] at q
  | _, _, .own _ _ _ _, q => by simp [PV.scalar] at q
  | _, _, .ptr _ _, q => by simp [PV.scalar] at q
  | _, _, .rop n hb h h1 hc ht, q => by simp [PV.scalar] at q
  | _, _, .cp n hb h h1 ht, q => by simp [PV.scalar] at q
  | _, _, .nilp, q => by simp [PV.scalar] at q
  | _, _, .fn h1 h2, q => by simp [PV.scalar] at q
  | _, _, .nilfn, q => by simp [PV.scalar] at q
  | _, _, .map _ _, q => by simp [PV.scalar] at q
  | _, _, .undef v, _ => .undef v
theorem VRs.ofScalar {w w' : World} {o o' : Nat → Option Nat} {F F' : Nat → Prop} : ∀ {v c}, VRs w o F v c → scalarL v = true → VRs w' o' F' v c
  | _, _, .nil, _ => .nil
  | _, _, .cons h t, q => .cons (VR.ofScalar h (by simp [scalarL] at q; exact q.1)) (VRs.ofScalar t (by simp [scalarL] at q; exact q.2))
end
section
variable {P : Program} {o : Oper} {ρ : Operand → Value} {w w' : World} {O : Nat → Option Nat} {M F : Nat → Prop} {h : Heap} {new n1 n2 : Nat} {e : X → PV}
  (hI : Inv w O M F h) (hρ : ∀ x y, copX x = some y → VR w O F (e y) (ρ x)) (hfree : O new = none ∧ hget h new = none)

include hI hρ in
theorem s_clear {t el : TypeId} {x : Operand} {x' : X} {s : Nat} {z : List PV} {cf : CF} {r : PV} {u : Upd} {c : Call} (ho : o.op = .call c) (hc1 : c.callee = .builtin .clear) (hc2 : c.args.toList = [x]) (hc3 : c.argTypes.toList = [t])
    (ht : P.underlying t = some (.slice el)) (hs : szT P el = some s) (hz : zeroT P el = some z) (hx : copX x = some x')
    (he : evalK cf (.clear s z x') new e h = some (r, u)) : Res P o ρ w (After w O M F h n1 n2 r (applyU h u)) := by
  have hr := hρ _ _ hx
  obtain ⟨e1, cs_, e2⟩ := call1_run (P := P) (w := w) (ρ := ρ) ho hc1 hc2 hc3
  have run : ∀ {w'}, (Builtin.clear_ #[t] o.type #[ρ x]).run P w = .ok (.tuple #[]) w' → (execOp ρ o).run P w = .ok (.value (.tuple #[])) w' := by
    intro w' hl
    rw [e1]
    simp [e2, invoke, builtin, hl]
  have none_ : ∀ base cap, ρ x = .slice base 0 cap → (Builtin.clear_ #[t] o.type #[ρ x]).run P w = .ok (.tuple #[]) w := by
    intro base cap hq
    cases base <;> simp [Builtin.clear_, run_underlying ht, hq]
  simp only [evalK] at he
  cases hv : e x' <;> rw [hv] at he hr <;> (try simp only at he) <;> try (cases he; done)
  case nil =>
    cases he
    exact .val (run (none_ _ _ hr.nil_inv)) ⟨O, M, F, .undef _, Nxt.of_same hI _ _⟩
  case sl len tight xs =>
    cases len with
    | succ n => cases he
    | zero =>
      cases he
      rcases hr.sl_inv with ⟨base, cap, hq, _⟩ | ⟨b, off, cap, c, el, fz, vs, hq, _⟩
      · exact .val (run (none_ _ _ hq)) ⟨O, M, F, .undef _, Nxt.of_same hI _ _⟩
      · exact .val (run (none_ _ _ hq)) ⟨O, M, F, .undef _, Nxt.of_same hI _ _⟩
  case own id es off len =>
    cases hB : hget h id with
    | none => rw [hB] at he; cases he
    | some B =>
      rw [hB] at he
      cases B with
      | box cs => cases he
      | froz cs => cases he
      | mp cs => cases he
      | row cs =>
        simp only at he
        split at he
        · next hle =>
          cases he
          rcases Nat.eq_zero_or_pos len with h0 | hpos
          · subst h0
            have hq : ∃ base cap, ρ x = .slice base 0 cap := by
              rcases hr.own_inv with ⟨base, hq, _⟩ | ⟨b, el', n', cap, hq, _⟩
              · exact ⟨_, _, hq⟩
              · exact ⟨_, _, hq⟩
            obtain ⟨base, cap, hq⟩ := hq
            refine .val (run (none_ _ _ hq)) ?_
            simp only [List.replicate_zero, List.flatten_nil, setRange_nil]
            exact after_same hI hB (.undef _)
          · rcases hr.own_inv with ⟨base, hq, hz0⟩ | ⟨b, el', n', cap, hq, hO, hsh, hl2, hf⟩
            · omega
            · rcases hI.blk _ _ hB with ⟨_, q⟩ | ⟨b', c', el2, fz, vs, q1, q2, q3, q4, q5, q6, q7, q8⟩
              · rw [hO] at q; cases q
              · rw [hO] at q1; cases q1
                obtain ⟨i, zv, z1, z2, z3, z4, z5, z6, z7⟩ := zeroT_spec hz
                obtain ⟨i', z8, rfl⟩ := szT_spec hs
                rw [z1] at z8; cases z8
                have q5l := q5.length
                have hl8 : vs.length ≤ c'.size := by have := q8.length_le; simpa using this
                have hcells : (Builtin.zeroCells zv.cells len).toList = (List.replicate len zv.cells.toList).flatten := by
                  unfold Builtin.zeroCells
                  rw [Array.toList_map, Array.toList_range]
                  exact range_mod zv.cells len
                have hml : ((List.replicate len zv.cells.toList).flatten).length = len * i.size := by
                  rw [← hcells]; simp [Builtin.zeroCells, z3]
                have hlen : off + ((List.replicate len zv.cells.toList).flatten).length ≤ vs.length := by omega
                have hst := run_storeCells_cells (P := P) b off ((List.replicate len zv.cells.toList).flatten) 0 w (fun j hj => by simpa using (there_of q3 q4 off _ (by omega) j hj).1) (fun j hj => by simpa using (there_of q3 q4 off _ (by omega) j hj).2) (mem_flat z6 _)
                simp only [Nat.add_zero] at hst
                refine .val (run (w' := w.setCells b off ((List.replicate len zv.cells.toList).flatten)) ?_) ?_
                · obtain ⟨n, rfl⟩ : ∃ n, len = n + 1 := ⟨len - 1, by omega⟩
                  rw [hq]
                  simp [Builtin.clear_, run_underlying ht, zeroValue, typeInfo, z1, z2, hcells, hst]
                · exact after_write_row hI hB hO q2 q3 q4 q5 q6 q7 q8 ((z5 _ _ _).flat _) (mem_flat z6 _) (closedL_flat z7 _) hlen (fun _ _ => .undef _)
        · cases he

include hI hfree in
theorem s_mkmap {t : TypeId} (ho : o.op = .makeMap t none) : Res P o ρ w (After w O M F h new (new + stride) (.map new) (applyU h [(new, some (.mp []))])) := by
  refine .val (w' := w.alloc (.map #[] 0)) (v := .map (some w.heap.size)) ?_ ?_
  · simp [execOp, ho, Instr.makeMap]
  · have hw : (w.alloc (.map #[] 0)).heap = w.heap.push (.map #[] 0) := rfl
    refine ⟨_, _, _, ?_, Inv.alloc hI hw rfl rfl rfl hfree.1 hfree.2 (stride_pos _) ?_⟩
    · exact .map (by simp [putO]) (by simp)
    · exact ⟨w.heap.size, #[], 0, by simp [putO], .inr rfl, by rw [hw]; simp, trivial⟩

theorem isKey_of {d : TypeDesc} {x : PV} {kv : Value} (hx : VR w O F x kv) (hk : kkD d = some (kindOf x)) : conc x = some kv ∧ (∃ k n, x = .int k n) ∨ conc x = some kv ∧ (∃ b, x = .bool b) ∨ conc x = some kv ∧ ∃ s, x = .str s := by
  cases hx <;> first | (cases d <;> simp [kkD, kindOf] at hk; done) | simp [conc]
theorem cellEq_now {d : TypeDesc} {x k : PV} {kv mk : Value} {b : Bool} (hx : VR w O F x kv) (hd : kkD d = some (kindOf x)) (hc : cellEq x k = some b) (hk : conc k = some mk) : Instr.sameNow d kv mk = some b ∧ (b = true → mk = kv) ∧ conc x = some kv := by
  unfold cellEq at hc
  split at hc
  · next k1 a k2 b' =>
    cases hx
    cases hk
    split at hc
    · next e =>
      subst e
      cases hc
      cases d <;> simp [kkD, kindOf] at hd
      refine ⟨by simp [Instr.sameNow], fun q => ?_, rfl⟩
      simp at q
      rw [q]
    · cases hc
  · cases hx
    cases hk
    cases hc
    cases d <;> simp [kkD, kindOf] at hd
    refine ⟨by simp [Instr.sameNow], fun q => ?_, rfl⟩
    simp at q
    rw [q]
  · next a b' =>
    cases hx
    cases hk
    cases hc
    cases d <;> simp [kkD, kindOf] at hd
    have hab : (a.toList == b'.toList) = (a == b') := by
      cases hq : (a == b') with
      | true => rw [(bytes_beq a b').1 hq]; simp
      | false =>
        cases hq2 : (a.toList == b'.toList) with
        | false => rfl
        | true =>
          have : a = b' := by
            have q := beq_iff_eq.1 hq2
            rw [ByteArray.toList_eq, ByteArray.toList_eq] at q
            obtain ⟨⟨x⟩⟩ := a
            obtain ⟨⟨y⟩⟩ := b'
            simp at q
            rw [q]
          rw [(bytes_beq a b').2 this] at hq
          cases hq
    refine ⟨by simp [Instr.sameNow, hab], fun q => ?_, rfl⟩
    rw [hab] at q
    rw [(bytes_beq a b').1 q]
  · cases hc
/-- what is found -/
theorem mfind_now {d : TypeDesc} {x : PV} {kv : Value} (hx : VR w O F x kv) (hd : kkD d = some (kindOf x)) : ∀ (es : List (PV × PV)) (ms : List MapEntry) (i : Nat) (r : Option PV), MR es ms → mfind es x = some r →
    (r = none ∧ Instr.findNow d kv ms i = some none ∧ (∀ v' val' c, (∀ w o M, VR w o M v' val') → MR (mput es x v') (ms ++ [⟨kv, val', c⟩]))) ∨
    ∃ v j m, r = some v ∧ Instr.findNow d kv ms i = some (some (i + j, m.val)) ∧ ms[j]? = some m ∧ m.key = kv ∧ (∀ w o M, VR w o M v m.val) ∧ (∀ v' val', (∀ w o M, VR w o M v' val') → MR (mput es x v') (ms.modify j (fun e => { e with key := kv, val := val' })))
  | [], [], i, r, hm, hf => by
    cases hf
    have hck : conc x = some kv := by rcases isKey_of hx hd with ⟨q, _⟩ | ⟨q, _⟩ | ⟨q, _⟩ <;> exact q
    exact .inl ⟨rfl, rfl, fun v' val' c hv => ⟨⟨hck, hv⟩, trivial⟩⟩
  | [], m :: ms, i, r, hm, hf => hm.elim
  | p :: es, [], i, r, hm, hf => hm.elim
  | (k, u) :: es, m :: ms, i, r, hm, hf => by
    obtain ⟨⟨hk, hu⟩, hm⟩ := hm
    simp only [mfind] at hf
    split at hf
    · next hc =>
      cases hf
      obtain ⟨h1, h2, h3⟩ := cellEq_now hx hd hc hk
      refine .inr ⟨u, 0, m, rfl, by simp [Instr.findNow, h1], rfl, h2 rfl, hu, fun v' val' hv => ?_⟩
      simp only [mput, hc, if_true, List.modify_zero_cons]
      exact ⟨⟨h3, hv⟩, hm⟩
    · next hc =>
      obtain ⟨h1, h2, h3⟩ := cellEq_now hx hd hc hk
      have hne : ¬ (cellEq x k = some true) := by rw [hc]; simp
      rcases mfind_now hx hd es ms (i + 1) r hm hf with ⟨q1, q2, q3⟩ | ⟨v, j, m', q1, q2, q3, q4, q5, q6⟩
      · refine .inl ⟨q1, by simp [Instr.findNow, h1, q2], fun v' val' c hv => ?_⟩
        simp only [mput, if_neg hne, List.cons_append]
        exact ⟨⟨hk, hu⟩, q3 v' val' c hv⟩
      · refine .inr ⟨v, j + 1, m', q1, by simp [Instr.findNow, h1, q2]; omega, by simpa using q3, q4, q5, fun v' val' hv => ?_⟩
        simp only [mput, if_neg hne, List.modify_succ_cons]
        exact ⟨⟨hk, hu⟩, q6 v' val' hv⟩
    · cases hf

theorem run_checkKey1 {kt : TypeId} {d : TypeDesc} {kv : Value} {kk : Nat} (hd : P.underlying kt = some d) (hk : kkD d = some kk) (b : Bool) (n : Nat) : (Instr.checkKey b (n + 1) kt kv).run P w = .ok () w := by
  unfold Instr.checkKey
  simp only [Sem.run_bind, run_underlying hd, Result.andThen]
  cases d <;> simp [kkD] at hk <;> rfl
theorem zero1_spec {t : TypeId} {z : PV} (h : zero1 P t = some z) : ∃ v, (zeroValue t).run P w = .ok v w ∧ ∀ (w : World) (o : Nat → Option Nat) (M : Nat → Prop), VR w o M z v := by
  unfold zero1 at h
  cases hi : P.info? t with
  | none => rw [hi] at h; cases h
  | some i =>
    rw [hi] at h
    simp only [Option.bind_some] at h
    cases hz : i.zero with
    | none => rw [hz] at h; cases h
    | some v =>
      rw [hz] at h
      simp only [Option.bind_some] at h
      exact ⟨v, by simp [zeroValue, typeInfo, hi, hz], fun w o M => (VR.valOf h).1⟩
theorem VR.map_inv {id : Nat} {v : Value} (h : VR w O F (.map id) v) : ∃ b, v = .map (some b) ∧ O id = some b ∧ b < w.heap.size := by
  cases h; exact ⟨_, rfl, ‹_›, ‹_›⟩

include hI hρ in
theorem s_lookup {t kt et : TypeId} {kk : Nat} {z : PV} {ok : Bool} {m k : Operand} {m' k' : X} {cf : CF} {r : PV} {u : Upd} (ho : o.op = .lookup t m k ok) (ht : P.underlying t = some (.map kt et)) (hkk : kkT P kt = some kk) (hz : zero1 P et = some z)
    (hm : copX m = some m') (hk : copX k = some k') (he : evalK cf (.lookup kk [z] ok m' k') new e h = some (r, u)) : u = [] ∧ Res P o ρ w (After w O M F h n1 n2 r h) := by
  have hrm := hρ _ _ hm
  have hrk := hρ _ _ hk
  simp only [evalK] at he
  cases hv : e m' <;> rw [hv] at he hrm <;> (try simp only at he) <;> try (cases he; done)
  next id =>
  obtain ⟨b, hq, hO, hlt⟩ := hrm.map_inv
  cases hB : hget h id with
  | none => rw [hB] at he; cases he
  | some B =>
    rw [hB] at he
    cases B with
    | box cs => cases he
    | froz cs => cases he
    | row cs => cases he
    | mp es =>
      simp only at he
      obtain ⟨b', ms, clock, q1, q2, q3, q4⟩ := hI.blk _ _ hB
      rw [hO] at q1; cases q1
      unfold kkT at hkk
      cases hd : P.underlying kt with
      | none => rw [hd] at hkk; cases hkk
      | some d =>
        rw [hd] at hkk
        simp only [Option.bind_some] at hkk
        by_cases hkind : kindOf (e k') = kk
        · rw [if_pos hkind] at he
          rw [← hkind] at hkk
          cases hf : mfind es (e k') with
          | none => rw [hf] at he; cases he
          | some a =>
            rw [hf] at he
            rcases mfind_now hrk hkk es ms.toList 0 a q4 hf with ⟨rfl, r2, _⟩ | ⟨v, j, me, rfl, r2, r3, r4, r5, _⟩
            · simp only at he
              cases he
              obtain ⟨zv, z1, z2⟩ := zero1_spec (w := w) hz
              have run : (Instr.lookup t (ρ m) (ρ k) ok).run P w = .ok (if ok then .tuple #[zv, .bool false] else zv) w := by
                rw [hq]
                simp [Instr.lookup, run_underlying ht, MapKept.run_getObj_map q3, run_checkKey1 hd hkk, MapKept.run_findKey hd r2, z1]
              refine ⟨rfl, .pure hI (v := if ok then .tuple #[zv, .bool false] else zv) (by simp [execOp, ho, run]) ?_⟩
              cases ok with
              | true => exact .tup (.cons (z2 _ _ _) (.cons (.bool _) .nil))
              | false => exact z2 _ _ _
            · simp only at he
              cases he
              have run : (Instr.lookup t (ρ m) (ρ k) ok).run P w = .ok (if ok then .tuple #[me.val, .bool true] else me.val) w := by
                rw [hq]
                simp [Instr.lookup, run_underlying ht, MapKept.run_getObj_map q3, run_checkKey1 hd hkk, MapKept.run_findKey hd r2]
              refine ⟨rfl, .pure hI (v := if ok then .tuple #[me.val, .bool true] else me.val) (by simp [execOp, ho, run]) ?_⟩
              cases ok with
              | true => exact .tup (.cons (r5 _ _ _) (.cons (.bool _) .nil))
              | false => exact r5 _ _ _
        · rw [if_neg hkind] at he; cases he

include hI hρ in
theorem s_mapup {t kt et : TypeId} {kk : Nat} {m k x : Operand} {m' k' x' : X} {cf : CF} {r : PV} {u : Upd} (ho : o.op = .mapUpdate t m k x) (ht : P.underlying t = some (.map kt et)) (hkk : kkT P kt = some kk)
    (hm : copX m = some m') (hk : copX k = some k') (hx : copX x = some x') (he : evalK cf (.mapup kk m' k' x') new e h = some (r, u)) : Res P o ρ w (After w O M F h n1 n2 r (applyU h u)) := by
  have hrm := hρ _ _ hm
  have hrk := hρ _ _ hk
  have hrx := hρ _ _ hx
  simp only [evalK] at he
  cases hv : e m' <;> rw [hv] at he hrm <;> (try simp only at he) <;> try (cases he; done)
  next id =>
  obtain ⟨b, hq, hO, hlt⟩ := hrm.map_inv
  cases hB : hget h id with
  | none => rw [hB] at he; cases he
  | some B =>
    rw [hB] at he
    cases B with
    | box cs => cases he
    | froz cs => cases he
    | row cs => cases he
    | mp es =>
      simp only at he
      obtain ⟨b', ms, clock, q1, q2, q3, q4⟩ := hI.blk _ _ hB
      rw [hO] at q1; cases q1
      unfold kkT at hkk
      cases hd : P.underlying kt with
      | none => rw [hd] at hkk; cases hkk
      | some d =>
        rw [hd] at hkk
        simp only [Option.bind_some] at hkk
        by_cases hkind : kindOf (e k') = kk
        · rw [if_pos hkind] at he
          rw [← hkind] at hkk
          cases hf : mfind es (e k') with
          | none => rw [hf] at he; cases he
          | some a =>
            rw [hf] at he
            simp only at he
            split at he
            · next hsc =>
              cases he
              have hval : ∀ (w : World) (o : Nat → Option Nat) (M : Nat → Prop), VR w o M (e x') (ρ x) := fun w o M => VR.ofScalar hrx hsc.1
              have hIk : ∃ d', IsKey d' (ρ k) := by
                rcases isKey_of hrk hkk with ⟨c, kk2, n, hx2⟩ | ⟨c, bb, hx2⟩ | ⟨c, s, hx2⟩ <;> rw [hx2] at c <;> (simp only [conc, Option.some.injEq] at c; rw [← c])
                · exact ⟨.int kk2, rfl⟩
                · exact ⟨.bool, trivial⟩
                · exact ⟨.string, trivial⟩
              obtain ⟨d', hIk⟩ := hIk
              have fin : ∀ (ob : Obj) , (∃ ms' clock', ob = .map ms' clock' ∧ MR (mput es (e k') (e x')) ms'.toList) → After w O M F h n1 n2 .undef (applyU h [(id, some (.mp (mput es (e k') (e x'))))]) undef { w with heap := w.heap.setIfInBounds b ob } := by
                rintro ob ⟨ms', clock', rfl, hMR⟩
                have hset := heap_set (o' := .map ms' clock') q3
                have hs : Stp (fun y => y = b) w { w with heap := w.heap.setIfInBounds b (.map ms' clock') } := by
                  refine ⟨by simp, fun y _ hne => hset.2 y hne, fun y hy => ?_, rfl, rfl, rfl⟩
                  by_cases hyb : y = b
                  · subst hyb
                    unfold World.shape?
                    rw [hset.1, q3]
                  · unfold World.shape?
                    rw [hset.2 y hyb]
                exact ⟨O, M, F, .undef _, Inv.write hI hs hB hO q2 ⟨b, ms', clock', hO, q2, hset.1, hMR⟩⟩
              rcases mfind_now hrk hkk es ms.toList 0 a q4 hf with ⟨rfl, r2, r3⟩ | ⟨v, j, me, rfl, r2, r3, r4, r5, r6⟩
              · refine .inr (.inl ⟨_, ?_, fin (.map (ms.push { key := ρ k, val := ρ x, born := clock }) (clock + 1)) ⟨_, _, rfl, by simpa using r3 (e x') (ρ x) clock hval⟩⟩)
                simp [execOp, ho, hq, Instr.mapUpdate, run_underlying ht, MapKept.run_getObj_map q3, run_checkKey1 hd hkk, MapKept.run_findKey hd r2, MapKept.run_setObj_map _ q3]
              · have r3' : ms[j]? = some me := by rw [← Array.getElem?_toList]; exact r3
                refine .inr (.inl ⟨_, ?_, fin (.map (ms.modify j fun e => { e with key := ρ k, val := ρ x }) clock) ⟨_, _, rfl, by rw [Array.toList_modify]; exact r6 (e x') (ρ x) hval⟩⟩)
                simp [execOp, ho, hq, Instr.mapUpdate, run_underlying ht, MapKept.run_getObj_map q3, run_checkKey1 hd hkk, MapKept.run_findKey hd r2, MapKept.run_setObj_map _ q3, r3', r4, run_keyThatStays hIk]
            · cases he
        · rw [if_neg hkind] at he; cases he

include hI hρ in
theorem s_cbox {t : TypeId} {x : Operand} {x' : X} {cf : CF} {r : PV} {u : Upd} (ho : o.op = .box t x) (hx : copX x = some x') (he : evalK cf (.cbox x') new e h = some (r, u)) : u = [] ∧ Res P o ρ w (After w O M F h n1 n2 r h) := by
  have hr := hρ _ _ hx
  have fin : ∀ (c : Value), ρ x = c → VR w O F (e x') c → c.cells = #[c] → c.oneCell' = true → r = .cp (e x') → Res P o ρ w (After w O M F h n1 n2 r h) := by
    intro c hq hv hc h1 hr
    subst hr
    have hs : Stp (fun _ => False) w (w.alloc (.cells #[c] t)) := Stp.push rfl rfl rfl rfl
    refine .val (v := .pointer (some ⟨w.heap.size, 0, none⟩)) (w' := w.alloc (.cells #[c] t)) ?_ ⟨O, M, F, .cp (fun q => by have := hI.mlt.lt _ q; omega) (MapKept.heap_alloc w _).1 (VR.step (hs.mono (fun _ _ q => q.elim)) (fun _ _ q => q) (fun _ _ q => q) hv) h1 List.prefix_rfl, Nxt.draws hI hs _ _⟩
    simp [execOp, ho, Instr.box, newVar, newRow, hq, hc]
  simp only [evalK] at he
  split at he
  · next id off ea =>
    cases he
    refine ⟨rfl, fin (ρ x) rfl hr ?_ ?_ (by rw [ea])⟩ <;> (rw [ea] at hr; cases hq : ρ x <;> rw [hq] at hr <;> cases hr <;> simp [Value.cells, Value.oneCell'])
  · next ea =>
    cases he
    refine ⟨rfl, fin (ρ x) rfl hr ?_ ?_ (by rw [ea])⟩ <;> (rw [ea] at hr; cases hq : ρ x <;> rw [hq] at hr <;> cases hr <;> simp [Value.cells, Value.oneCell'])
  · next v ea =>
    cases he
    refine ⟨rfl, fin (ρ x) rfl hr ?_ ?_ (by rw [ea])⟩ <;> (rw [ea] at hr; cases hq : ρ x <;> rw [hq] at hr <;> cases hr <;> simp [Value.cells, Value.oneCell'])
  · next v ea =>
    cases he
    refine ⟨rfl, fin (ρ x) rfl hr ?_ ?_ (by rw [ea])⟩ <;> (rw [ea] at hr; cases hq : ρ x <;> rw [hq] at hr <;> cases hr <;> simp [Value.cells, Value.oneCell'])
  · cases he
include hI hρ in
theorem s_i2f {a b : TypeId} {k : FloatKind} {k2 : IntKind} {x : Operand} {x' : X} {n : Int} {r : PV} (ha : P.underlying a = some (.int k2)) (hb : P.underlying b = some (.float k)) (ho : o.op = .convert a b x) (hx : copX x = some x') {k3 : IntKind} (hv : e x' = .int k3 n)
    (hr : pureOf (Conv.intToFloat k n) = some r) : Res P o ρ w (After w O M F h n1 n2 r h) := by
  have h1 := hρ _ _ hx
  rw [hv] at h1
  obtain ⟨v, hv1, hv2⟩ := pure_of hr
  refine .pure hI (v := v) ?_ (VR.valOf hv2).1
  simp only [execOp, ho, h1.int_inv]
  simp [convert, run_underlying ha, run_underlying hb, hv1]
include hI hρ in
theorem s_cplx {x y : Operand} {x' y' : X} {t1 t2 : TypeId} {c : Call} {k : FloatKind} {re im : Nat} (ho : o.op = .call c) (hc1 : c.callee = .builtin .complex) (hc2 : c.args.toList = [x, y]) (hc3 : c.argTypes.toList = [t1, t2]) (hx : copX x = some x') (hy : copX y = some y')
    (h1 : e x' = .flt k re) (h2 : e y' = .flt k im) : Res P o ρ w (After w O M F h n1 n2 (.cpx k re im) h) := by
  have g1 := hρ _ _ hx
  have g2 := hρ _ _ hy
  rw [h1] at g1; rw [h2] at g2
  have e1 : ρ x = .float k re := by cases hq : ρ x <;> rw [hq] at g1 <;> cases g1; rfl
  have e2 : ρ y = .float k im := by cases hq : ρ y <;> rw [hq] at g2 <;> cases g2; rfl
  obtain ⟨q1, cs_, q2⟩ := call2_run (P := P) (w := w) (ρ := ρ) ho hc1 hc2 hc3
  refine .pure hI (v := .complex k re im) ?_ (.cpx _ _ _)
  rw [q1]
  have hb : Builtin.complex_ #[t1, t2] o.type #[.float k re, .float k im] = pure (.complex k re im) := by
    show (if k = k then _ else _) = _
    rw [if_pos rfl]
  simp [q2, invoke, builtin, e1, e2, hb]
include hI hρ in
theorem s_cpart {x : Operand} {x' : X} {t1 : TypeId} {c : Call} {k : FloatKind} {re im : Nat} {p : Bool} (ho : o.op = .call c) (hc1 : c.callee = .builtin (if p then .imag else .real)) (hc2 : c.args.toList = [x]) (hc3 : c.argTypes.toList = [t1]) (hx : copX x = some x')
    (h1 : e x' = .cpx k re im) : Res P o ρ w (After w O M F h n1 n2 (.flt k (if p then im else re)) h) := by
  have g1 := hρ _ _ hx
  rw [h1] at g1
  have e1 : ρ x = .complex k re im := by cases hq : ρ x <;> rw [hq] at g1 <;> cases g1; rfl
  obtain ⟨q1, cs_, q2⟩ := call1_run (P := P) (w := w) (ρ := ρ) ho hc1 hc2 hc3
  refine .pure hI (v := .float k (if p then im else re)) ?_ (.flt _ _)
  rw [q1]
  have hb1 : Builtin.real_ #[t1] o.type #[.complex k re im] = pure (.float k re) := rfl
  have hb2 : Builtin.imag_ #[t1] o.type #[.complex k re im] = pure (.float k im) := rfl
  cases p <;> simp [q2, invoke, builtin, hb1, hb2, e1]
end
end Go.Proofs.YtipnedhclbopdaaDoorEv

/- Every operation but a call comes to what the evaluator says. -/
set_option linter.unusedVariables false
set_option linter.unusedSimpArgs false
namespace Go.Proofs.YtipnedhclbopdaaDoorEv

def K.isCall : K → Bool
  | .call .. => true
  | .callv .. => true
  | _ => false

section
variable {P : Program} {raws : Nat → List Bool} {o : Oper} {ρ : Operand → Value} {w w' : World} {O : Nat → Option Nat} {M F : Nat → Prop} {h : Heap} {new : Nat} {e : X → PV} {k : K} {cf : CF} {r : PV} {u : Upd}

theorem opSound (hI : Inv w O M F h) (hρ : ∀ x y, copX x = some y → VR w O F (e y) (ρ x)) (hfree : O new = none ∧ hget h new = none) (hρc : ∀ v, ρ (.const v) = v)
    (hk : copK P raws o = some k) (hnc : k.isCall = false) (he : evalK cf k new e h = some (r, u)) : Res P o ρ w (After w O M F h new (new + stride) r (applyU h u)) := by
  have nil : ∀ {r}, u = [] ∧ Res P o ρ w (After w O M F h new (new + stride) r h) → Res P o ρ w (After w O M F h new (new + stride) r (applyU h u)) := by
    rintro r ⟨rfl, q⟩; exact q
  cases hop : o.op with
  | move x =>
    simp only [copK, hop, Option.bind_eq_bind, Option.bind_eq_some_iff] at hk
    obtain ⟨x', hx, hk⟩ := hk; cases hk
    simp only [evalK] at he; cases he
    exact s_mv hI hρ (.inl hop) hx
  | assign x =>
    simp only [copK, hop, Option.bind_eq_bind, Option.bind_eq_some_iff] at hk
    obtain ⟨x', hx, hk⟩ := hk; cases hk
    simp only [evalK] at he; cases he
    exact s_mv hI hρ (.inr hop) hx
  | pick c a b =>
    simp only [copK, hop, Option.bind_eq_bind, Option.bind_eq_some_iff] at hk
    obtain ⟨c', hc, a', ha, b', hb, hk⟩ := hk; cases hk
    simp only [evalK] at he
    cases hv : e c' <;> rw [hv] at he <;> (try simp only at he) <;> try (cases he; done)
    next q =>
    cases q with
    | true => simp at he; obtain ⟨rfl, rfl⟩ := he; exact s_pick hI hρ hop hc ha hb hv
    | false => simp at he; obtain ⟨rfl, rfl⟩ := he; exact s_pick hI hρ hop hc ha hb hv
  | alloc t =>
    simp only [copK, hop, Option.bind_eq_bind, Option.bind_eq_some_iff] at hk
    obtain ⟨z, hz, hk⟩ := hk; cases hk
    simp only [evalK] at he; cases he
    exact s_alloc hI hfree hop hz
  | box t x =>
    simp only [copK, hop] at hk
    split at hk
    · simp only [Option.bind_eq_bind, Option.bind_eq_some_iff] at hk
      obtain ⟨x', hx, hk⟩ := hk; cases hk
      exact nil (s_cbox hI hρ hop hx he)
    · simp only [Option.bind_eq_bind, Option.bind_eq_some_iff] at hk
      obtain ⟨x', hx, hk⟩ := hk; cases hk
      simp only [evalK] at he
      split at he
      · next hc => cases he; exact s_box hI hρ hfree hop hx hc
      · cases he
  | build t ps =>
    simp only [copK, hop] at hk
    cases hu : P.underlying t with
    | none => rw [hu] at hk; cases hk
    | some d =>
      rw [hu] at hk
      have fin : ∀ (place : Nat → Option (Nat × Nat)) (z : List PV) (l : List (Nat × Nat × X)), zeroT P t = some z → ps.toList.mapM (copPart place) = some l → K.build z l = k →
          (∀ c parts cells, (∃ i v, P.info? t = some i ∧ i.zero = some v ∧ v.cells = c) → Instr.fill place c parts = some cells → P.built t parts = some cells) → Res P o ρ w (After w O M F h new (new + stride) r (applyU h u)) := by
        intro place z l hz hl hkk hpl
        subst hkk
        simp only [evalK] at he
        split at he
        · next cs hf => cases he; exact s_build hI hρ hop hz place hpl hl hf
        · cases he
      cases d <;> simp only at hk <;> try (cases hk; done)
      · next n el =>
        simp only [Option.bind_eq_bind, Option.bind_eq_some_iff] at hk
        obtain ⟨z, hz, s, hs, l, hl, hk⟩ := hk; cases hk
        refine fin _ z l hz hl rfl ?_
        rintro c parts cells ⟨i, v, h1, h2, rfl⟩ hf
        obtain ⟨ie, h3, rfl⟩ := szT_spec hs
        simp only [Program.built, h1, hu, h2, h3]
        exact hf
      · next fs =>
        simp only [Option.bind_eq_bind, Option.bind_eq_some_iff] at hk
        obtain ⟨z, hz, pl, hpl, l, hl, hk⟩ := hk; cases hk
        refine fin _ z l hz hl rfl ?_
        rintro c parts cells ⟨i, v, h1, h2, rfl⟩ hf
        simp only [Program.built, h1, hu, h2, hpl]
        exact hf
  | buildSlice t n ps =>
    simp only [copK, hop] at hk
    split at hk
    · next el hu =>
      simp only [Option.bind_eq_bind, Option.bind_eq_some_iff] at hk
      obtain ⟨z, hz, s, hs, l, hl, hk⟩ := hk
      split at hk
      · next hpos =>
        cases hk
        obtain ⟨i, hi, rfl⟩ := szT_spec hs
        exact s_bslice hI hρ hfree hop hu hi hz hpos hl he
      · cases hk
    · cases hk
  | load t a =>
    simp only [copK, hop, Option.bind_eq_bind, Option.bind_eq_some_iff] at hk
    obtain ⟨g, hg, s, hs, hk⟩ := hk
    split at hk
    · next h1 =>
      simp only [Option.bind_eq_some_iff] at hk
      obtain ⟨x', hx, hk⟩ := hk; cases hk
      exact nil (s_load hI hρ hop hg hs h1 hx he)
    · cases hk
  | store t a x =>
    simp only [copK, hop, Option.bind_eq_bind, Option.bind_eq_some_iff] at hk
    obtain ⟨s, hs, a', ha, x', hx, hk⟩ := hk; cases hk
    exact s_store hI hρ hop hs ha hx he
  | nilCheck x =>
    simp only [copK, hop, Option.bind_eq_bind, Option.bind_eq_some_iff] at hk
    obtain ⟨x', hx, hk⟩ := hk; cases hk
    exact nil (s_nilck hI hρ hop hx he)
  | binOp op t x y t' =>
    simp only [copK, hop] at hk
    have bin : (do some (K.bin op (← copX x) (← copX y))) = some k → Res P o ρ w (After w O M F h new (new + stride) r (applyU h u)) := by
      intro hk
      simp only [Option.bind_eq_bind, Option.bind_eq_some_iff] at hk
      obtain ⟨x', hx, y', hy, hk⟩ := hk; cases hk
      simp only [evalK] at he
      split at he
      · next v hv => cases he; exact s_bin hI hρ hop hx hy hv
      · cases he
    split at hk
    · exact bin hk
    · exact bin hk
    · exact bin hk
    · next hu =>
      have eb : ∀ neg, (do some (K.eqB neg (← copX x) (← copX y))) = some k → op = (if neg then BinOp.neq else BinOp.eql) → Res P o ρ w (After w O M F h new (new + stride) r (applyU h u)) := by
        intro neg hk hopp
        simp only [Option.bind_eq_bind, Option.bind_eq_some_iff] at hk
        obtain ⟨x', hx, y', hy, hk⟩ := hk; cases hk
        simp only [evalK] at he
        split at he
        · next a b ha hb => cases he; exact s_eqB hI hρ hopp hu hop hx hy ha hb
        · cases he
      split at hk
      · exact eb false hk rfl
      · exact eb true hk rfl
      · cases hk
    · next fs hu =>
      split at hk
      · next hc =>
        simp only [Bool.and_eq_true, Bool.not_eq_true'] at hc
        have eb : ∀ neg, (do some (K.eqS neg (ksT P 4 t) (← copX x) (← copX y))) = some k → op = (if neg then BinOp.neq else BinOp.eql) → Res P o ρ w (After w O M F h new (new + stride) r (applyU h u)) := by
          intro neg hk hopp
          simp only [Option.bind_eq_bind, Option.bind_eq_some_iff] at hk
          obtain ⟨x', hx, y', hy, hk⟩ := hk; cases hk
          exact nil (s_eqS hI hρ hopp hu hc.1 hc.2 hop hx hy he)
        split at hk
        · exact eb false hk rfl
        · exact eb true hk rfl
        · cases hk
      · cases hk
    · next el hu =>
      split at hk
      · next hc =>
        have eb : ∀ neg, (do some (K.eqNil false neg (← copX x))) = some k → op = (if neg then BinOp.neq else BinOp.eql) → Res P o ρ w (After w O M F h new (new + stride) r (applyU h u)) := by
          intro neg hk hopp
          simp only [Option.bind_eq_bind, Option.bind_eq_some_iff] at hk
          obtain ⟨x', hx, hk⟩ := hk; cases hk
          exact nil (s_eqNilS hI hρ hopp hu hop hx hc hρc he)
        split at hk
        · exact eb false hk rfl
        · exact eb true hk rfl
        · cases hk
      · cases hk
    · next a b c hu =>
      split at hk
      · next hc =>
        have eb : ∀ neg, (do some (K.eqNil true neg (← copX x))) = some k → op = (if neg then BinOp.neq else BinOp.eql) → Res P o ρ w (After w O M F h new (new + stride) r (applyU h u)) := by
          intro neg hk hopp
          simp only [Option.bind_eq_bind, Option.bind_eq_some_iff] at hk
          obtain ⟨x', hx, hk⟩ := hk; cases hk
          exact nil (s_eqNilF hI hρ hopp hu hop hx hc hρc he)
        split at hk
        · exact eb false hk rfl
        · exact eb true hk rfl
        · cases hk
      · cases hk
    · cases hk
  | unOp op t x =>
    simp only [copK, hop, Option.bind_eq_bind, Option.bind_eq_some_iff] at hk
    obtain ⟨x', hx, hk⟩ := hk; cases hk
    simp only [evalK] at he
    split at he
    · next v hv => cases he; exact s_un hI hρ hop hx hv
    · cases he
  | convert a b x =>
    simp only [copK, hop] at hk
    split at hk
    · next k1 k2 h1 h2 =>
      simp only [Option.bind_eq_bind, Option.bind_eq_some_iff] at hk
      obtain ⟨x', hx, hk⟩ := hk; cases hk
      simp only [evalK] at he
      split at he
      · next k3 n hv => cases he; exact s_conv hI hρ h1 h2 hop hx hv
      · cases he
    · next h1 h2 =>
      simp only [Option.bind_eq_bind, Option.bind_eq_some_iff] at hk
      obtain ⟨x', hx, hk⟩ := hk; cases hk
      simp only [evalK] at he
      split at he
      · next s hv => cases he; exact s_convS hI hρ h1 h2 hop hx hv
      · cases he
    · next k1 k2 h1 h2 =>
      simp only [Option.bind_eq_bind, Option.bind_eq_some_iff] at hk
      obtain ⟨x', hx, hk⟩ := hk; cases hk
      simp only [evalK] at he
      split at he
      · next k3 n hv =>
        split at he
        · next v hp => cases he; exact s_i2f hI hρ h1 h2 hop hx hv hp
        · cases he
      · cases he
    · next el h1 h2 =>
      split at hk
      · next h3 =>
        simp only [Option.bind_eq_bind, Option.bind_eq_some_iff] at hk
        obtain ⟨x', hx, hk⟩ := hk; cases hk
        simp only [evalK] at he
        split at he
        · next s hv => cases he; exact s_s2b hI hρ hfree hop h1 h2 h3 hx hv
        · cases he
      · cases hk
    · next el h1 h2 =>
      split at hk
      · next h3 =>
        simp only [Option.bind_eq_bind, Option.bind_eq_some_iff] at hk
        obtain ⟨x', hx, hk⟩ := hk; cases hk
        exact nil (s_b2s hI hρ hop h1 h2 h3 hx he)
      · cases hk
    · cases hk
  | makeFunc fn a b =>
    cases fn <;> simp only [copK, hop] at hk <;> try (cases hk; done)
    simp only [Option.bind_eq_bind, Option.bind_eq_some_iff] at hk
    obtain ⟨a', ha, b', hb, hk⟩ := hk; cases hk
    simp only [evalK] at he; cases he
    exact s_mkfunc hI hρ hop ha hb
  | makeSlice t l c =>
    simp only [copK, hop] at hk
    split at hk
    · next el hu =>
      simp only [Option.bind_eq_bind, Option.bind_eq_some_iff] at hk
      obtain ⟨s, hs, hk⟩ := hk
      split at hk
      · next hc =>
        simp only [Option.bind_eq_some_iff] at hk
        obtain ⟨z, hz, l', hl, c', hcc, hk⟩ := hk; cases hk
        obtain ⟨i, hi, rfl⟩ := szT_spec hs
        have hby : i.bytes ≤ 65536 := by have := hc.2; rw [hi] at this; simpa using this
        exact s_mkslice hI hρ hfree hop hu hi hz hby hl hcc he
      · cases hk
    · cases hk
  | slice t x lo hi mx =>
    simp only [copK, hop] at hk
    split at hk
    · cases hk
    · next hmh =>
      have h4 : mx.isSome = true → hi.isSome = true := by
        intro q
        cases hi with
        | none => simp [q] at hmh
        | some _ => rfl
      split at hk
      · next hu =>
        simp only [Option.bind_eq_bind, Option.bind_eq_some_iff] at hk
        obtain ⟨x', hx, l', hl, h', hh, m', hm, hk⟩ := hk; cases hk
        exact nil (s_slice (el := 0) hI hρ hop (str := true) hu hx hl hh hm h4 he)
      · next el hu =>
        simp only [Option.bind_eq_bind, Option.bind_eq_some_iff] at hk
        obtain ⟨s, hs, x', hx, l', hl, h', hh, m', hm, hk⟩ := hk; cases hk
        exact nil (s_slice (el := el) hI hρ hop (str := false) ⟨hu, hs⟩ hx hl hh hm h4 he)
      · cases hk
  | fieldAddr t x i =>
    simp only [copK, hop] at hk
    split at hk
    · next fs hu =>
      simp only [Option.bind_eq_bind, Option.bind_eq_some_iff] at hk
      obtain ⟨f, hf, s, hs, hk⟩ := hk
      split at hk
      · next hpos =>
        simp only [Option.bind_eq_some_iff] at hk
        obtain ⟨x', hx, hk⟩ := hk; cases hk
        exact nil (s_faddr hI hρ hu hop hf hs hpos hx he)
      · cases hk
    · cases hk
  | field t x i =>
    simp only [copK, hop] at hk
    split at hk
    · next fs hu =>
      simp only [Option.bind_eq_bind, Option.bind_eq_some_iff] at hk
      obtain ⟨f, hf, g, hg, s, hs, hk⟩ := hk
      split at hk
      · next hpos =>
        simp only [Option.bind_eq_some_iff] at hk
        obtain ⟨x', hx, hk⟩ := hk; cases hk
        exact nil (s_field hI hρ hu hop hf hg hs hpos.1 hpos.2 hx he)
      · cases hk
    · cases hk
  | indexAddr t x i =>
    simp only [copK, hop] at hk
    split at hk
    · next el hu =>
      simp only [Option.bind_eq_bind, Option.bind_eq_some_iff] at hk
      obtain ⟨s, hs, x', hx, i', hi, hk⟩ := hk; cases hk
      exact nil (s_iaddr hI hρ hu hs hop hx hi he)
    · next n el hu =>
      simp only [Option.bind_eq_bind, Option.bind_eq_some_iff] at hk
      obtain ⟨s, hs, x', hx, i', hi, hk⟩ := hk; cases hk
      exact nil (s_iaddrA hI hρ hu hs hop hx hi he)
    · cases hk
  | index t x i =>
    simp only [copK, hop] at hk
    split at hk
    · next hu =>
      simp only [Option.bind_eq_bind, Option.bind_eq_some_iff] at hk
      obtain ⟨x', hx, i', hi, hk⟩ := hk; cases hk
      simp only [evalK] at he
      split at he
      · next s k n hv hn =>
        split at he
        · next h0 =>
          split at he
          · next b hb => cases he; exact s_index hI hρ hu hop hx hi hv hn h0 hb
          · cases he
        · cases he
      · cases he
    · cases hk
  | extract x i =>
    simp only [copK, hop, Option.bind_eq_bind, Option.bind_eq_some_iff] at hk
    obtain ⟨x', hx, hk⟩ := hk; cases hk
    simp only [evalK] at he
    split at he
    · next vs hv =>
      split at he
      · next v hvi => cases he; exact s_ext hI hρ hop hx hv hvi
      · cases he
    · cases he
  | call c =>
    simp only [copK, hop] at hk
    split at hk
    · simp only [Option.bind_eq_bind, Option.bind_eq_some_iff] at hk
      obtain ⟨fn, hfn, hk⟩ := hk
      split at hk
      · simp only [Option.bind_eq_some_iff] at hk
        obtain ⟨asV, has, hk⟩ := hk; cases hk; simp [K.isCall] at hnc
      · cases hk
    · simp only [Option.bind_eq_bind, Option.bind_eq_some_iff] at hk
      obtain ⟨x', hx, asV, has, hk⟩ := hk; cases hk; simp [K.isCall] at hnc
    · next hcl =>
      split at hk
      · next x t hca hct =>
        split at hk
        · next hu =>
          simp only [Option.bind_eq_bind, Option.bind_eq_some_iff] at hk
          obtain ⟨x', hx, hk⟩ := hk; cases hk
          exact nil (s_len hI hρ hop hcl hca hct hx (str := true) hu he)
        · next el hu =>
          simp only [Option.bind_eq_bind, Option.bind_eq_some_iff] at hk
          obtain ⟨x', hx, hk⟩ := hk; cases hk
          exact nil (s_len hI hρ hop hcl hca hct hx (str := false) ⟨el, hu⟩ he)
        · cases hk
      · cases hk
    · next hcl =>
      split at hk
      · next x t hca hct =>
        split at hk
        · next el hu =>
          simp only [Option.bind_eq_bind, Option.bind_eq_some_iff] at hk
          obtain ⟨x', hx, hk⟩ := hk; cases hk
          exact nil (s_cap hI hρ hop hcl hca hct hx ⟨el, hu⟩ he)
        · cases hk
      · cases hk
    · next hcl =>
      split at hk
      · next x y t tx hca hct =>
        split at hk
        · next el el2 hu hu2 =>
          simp only [Option.bind_eq_bind, Option.bind_eq_some_iff] at hk
          obtain ⟨s, hs, i, hi, z, hz, hk⟩ := hk
          split at hk
          · next hc =>
            simp only [Option.bind_eq_some_iff] at hk
            obtain ⟨x', hx, y', hy, hk⟩ := hk; cases hk
            obtain ⟨i', hi', rfl⟩ := szT_spec hs
            rw [hi] at hi'; cases hi'
            exact s_append hI hρ hfree hop hcl hca hct hu (.inl ⟨_, hu2⟩) hi hz hc.1 hc.2 hx hy he
          · cases hk
        · next el hu hu2 =>
          simp only [Option.bind_eq_bind, Option.bind_eq_some_iff] at hk
          obtain ⟨s, hs, i, hi, z, hz, hk⟩ := hk
          split at hk
          · next hc =>
            simp only [Option.bind_eq_some_iff] at hk
            obtain ⟨x', hx, y', hy, hk⟩ := hk; cases hk
            obtain ⟨i', hi', rfl⟩ := szT_spec hs
            rw [hi] at hi'; cases hi'
            exact s_append hI hρ hfree hop hcl hca hct hu (.inr hu2) hi hz (by omega) hc.2 hx hy he
          · cases hk
        · next el kk hu hu2 =>
          simp only [Option.bind_eq_bind, Option.bind_eq_some_iff] at hk
          obtain ⟨s, hs, i, hi, z, hz, hk⟩ := hk
          split at hk
          · next hc =>
            simp only [Option.bind_eq_some_iff] at hk
            obtain ⟨x', hx, y', hy, hk⟩ := hk; cases hk
            obtain ⟨i', hi', rfl⟩ := szT_spec hs
            rw [hi] at hi'; cases hi'
            exact s_appmk hI hρ hfree hop hcl hca hct hu hu2 hi hz hc.1 hc.2 hx hy he
          · cases hk
        · cases hk
      · cases hk
    · next hcl =>
      split at hk
      · next x y t tx hca hct =>
        split at hk
        · next el hu =>
          simp only [Option.bind_eq_bind, Option.bind_eq_some_iff] at hk
          obtain ⟨s, hs, hk⟩ := hk
          split at hk
          · next hpos =>
            simp only [Option.bind_eq_some_iff] at hk
            obtain ⟨x', hx, y', hy, hk⟩ := hk; cases hk
            exact s_copy hI hρ hop hcl hca hct hu hs hx hy hpos he
          · cases hk
        · cases hk
      · cases hk
    · next hcl =>
      split at hk
      · next x t hca hct =>
        split at hk
        · next el hu =>
          simp only [Option.bind_eq_bind, Option.bind_eq_some_iff] at hk
          obtain ⟨s, hs, z, hz, x', hx, hk⟩ := hk; cases hk
          exact s_clear hI hρ hop hcl hca hct hu hs hz hx he
        · cases hk
      · cases hk
    · next hcl =>
      split at hk
      · next x y t1 t2 hca hct =>
        simp only [Option.bind_eq_bind, Option.bind_eq_some_iff] at hk
        obtain ⟨x', hx, y', hy, hk⟩ := hk; cases hk
        simp only [evalK] at he
        split at he
        · next k1 a1 k2 b1 h1 h2 =>
          split at he
          · next e0 => subst e0; cases he; exact s_cplx hI hρ hop hcl hca hct hx hy h1 h2
          · cases he
        · cases he
      · cases hk
    · next hcl =>
      split at hk
      · next x t1 hca hct =>
        simp only [Option.bind_eq_bind, Option.bind_eq_some_iff] at hk
        obtain ⟨x', hx, hk⟩ := hk; cases hk
        simp only [evalK] at he
        split at he
        · next k1 a1 b1 h1 => cases he; exact s_cpart hI hρ (p := false) hop hcl hca hct hx h1
        · cases he
      · cases hk
    · next hcl =>
      split at hk
      · next x t1 hca hct =>
        simp only [Option.bind_eq_bind, Option.bind_eq_some_iff] at hk
        obtain ⟨x', hx, hk⟩ := hk; cases hk
        simp only [evalK] at he
        split at he
        · next k1 a1 b1 h1 => cases he; exact s_cpart hI hρ (p := true) hop hcl hca hct hx h1
        · cases he
      · cases hk
    · next hcl =>
      simp only [Option.bind_eq_bind, Option.bind_eq_some_iff] at hk
      obtain ⟨xs, hx, hk⟩ := hk; cases hk
      exact nil (s_minmax hI hρ hop (mx := true) hcl hx he)
    · next hcl =>
      simp only [Option.bind_eq_bind, Option.bind_eq_some_iff] at hk
      obtain ⟨xs, hx, hk⟩ := hk; cases hk
      exact nil (s_minmax hI hρ hop (mx := false) hcl hx he)
    · cases hk
  | makeMap t r0 =>
    cases r0 <;> simp only [copK, hop] at hk <;> try (cases hk; done)
    cases hk
    simp only [evalK] at he; cases he
    exact s_mkmap hI hfree hop
  | lookup t m k0 ok =>
    simp only [copK, hop] at hk
    split at hk
    · next kt et hu =>
      simp only [Option.bind_eq_bind, Option.bind_eq_some_iff] at hk
      obtain ⟨kk, hkk, z, hz, m', hm, k', hk', hk⟩ := hk; cases hk
      exact nil (s_lookup hI hρ hop hu hkk hz hm hk' he)
    · cases hk
  | mapUpdate t m k0 v =>
    simp only [copK, hop] at hk
    split at hk
    · next kt et hu =>
      simp only [Option.bind_eq_bind, Option.bind_eq_some_iff] at hk
      obtain ⟨kk, hkk, m', hm, k', hk', v', hv, hk⟩ := hk; cases hk
      exact s_mapup hI hρ hop hu hkk hm hk' hv he
    · cases hk
  | panic x => simp only [copK, hop] at hk; cases hk; simp [evalK] at he
  | makeInterface t x => simp only [copK, hop] at hk; cases hk; simp [evalK] at he
  | _ => simp only [copK, hop] at hk; cases hk
end
end Go.Proofs.YtipnedhclbopdaaDoorEv

/- Calls. -/
set_option linter.unusedVariables false
set_option linter.unusedSimpArgs false
namespace Go.Proofs.YtipnedhclbopdaaDoorEv

/-- What a function comes to. -/
def FSpec (P : Program) (f : Nat) (args : List PV) (H : List (Option Blk)) (r : PV) (H' : List (Option Blk)) : Prop :=
  ∀ (w : World) (O : Nat → Option Nat) (M F : Nat → Prop) (vs : List Value), VRs w O F args vs → Inv w O M F (heapOf 0 H) → (∀ id, H.length ≤ id → O id = none) →
    Calls P f vs.toArray w (fun e w' => ∃ v, e = .returned v ∧ ∃ O' M' F', VR w' O' F' r v ∧ Inv w' O' M' F' (heapOf 0 H') ∧ Stp M w w' ∧ (∀ id, id < H.length → O' id = O id) ∧
      (∀ b, b < w.heap.size → F' b → F b) ∧ (∀ b, b < w.heap.size → M' b → M b) ∧ (∀ b, F b → ¬ M b → F' b) ∧
      (∀ id b B, hget (heapOf 0 H') id = some B → O' id = some b → w.heap.size ≤ b ∨ ∃ j C, hget (heapOf 0 H) j = some C ∧ O j = some b))
/-- a function with a body -/
def Callable (P : Program) (f : Nat) : Prop := ∃ fn c, P.funcs[f]? = some fn ∧ fn.body = some c ∧ (fn.name == "runtime.NumGoroutine") = false
def CFok (P : Program) (cf : CF) : Prop := ∀ f args H r H', cf f args H = some (r, H') → Callable P f ∧ FSpec P f args H r H'

theorem hget_heapOf : ∀ (H : List (Option Blk)) (n k : Nat), hget (heapOf n H) k = if n ≤ k then (H[k - n]?).join else none
  | [], n, k => by simp [heapOf, hget]
  | some b :: H, n, k => by
    simp only [heapOf, hget]
    by_cases e : n = k
    · subst e; simp
    · rw [if_neg e, hget_heapOf H (n + 1) k]
      by_cases e2 : n ≤ k
      · rw [if_pos (by omega), if_pos e2, show k - n = (k - (n + 1)) + 1 by omega]; simp
      · rw [if_neg (by omega), if_neg e2]
  | none :: H, n, k => by
    simp only [heapOf]
    rw [hget_heapOf H (n + 1) k]
    by_cases e2 : n ≤ k
    · by_cases e : n = k
      · subst e; rw [if_neg (by omega)]; simp
      · rw [if_pos (by omega), if_pos e2, show k - n = (k - (n + 1)) + 1 by omega]; simp
    · rw [if_neg (by omega), if_neg e2]
theorem hget_heapOf0 (H : List (Option Blk)) (k : Nat) : hget (heapOf 0 H) k = (H[k]?).join := by rw [hget_heapOf]; simp

mutual
theorem PV.closed_of_ids : ∀ {v : PV}, v.ids = [] → v.closed = true
  | .agg cs, h => by simp only [PV.closed]; exact closedL_of_ids (by simpa [PV.ids] using h)
  | .tup cs, h => by simp only [PV.closed]; exact closedL_of_ids (by simpa [PV.ids] using h)
  | .own _ _ _ _, h => by simp [PV.ids] at h
  | .ptr _ _, h => by simp [PV.ids] at h
  | .map _, h => by simp [PV.ids] at h
  | .fn f a b, h => by
    simp [PV.ids] at h
    simp only [PV.closed, closedL_of_ids h.1, closedL_of_ids h.2, Bool.and_self]
  | .int _ _, _ => rfl
  | .bool _, _ => rfl
  | .str _, _ => rfl
  | .flt _ _, _ => rfl
  | .cpx _ _ _, _ => rfl
  | .nil, _ => rfl
  | .sl _ _ _, _ => rfl
  | .rop _, _ => rfl
  | .cp v, h => by simp only [PV.closed]; exact PV.closed_of_ids (by simpa [PV.ids] using h)
  | .nilp, _ => rfl
  | .nilfn, _ => rfl
  | .undef, _ => rfl
theorem closedL_of_ids : ∀ {vs : List PV}, idsL vs = [] → closedL vs = true
  | [], _ => rfl
  | v :: r, h => by
    simp [idsL] at h
    simp only [closedL, PV.closed_of_ids h.1, closedL_of_ids h.2, Bool.and_self]
end

theorem idxIn_get : ∀ {S : List Nat} {i j : Nat}, idxIn S i = some j → S[j]? = some i
  | [], i, j, h => by simp [idxIn] at h
  | s :: S, i, j, h => by
    simp only [idxIn] at h
    split at h
    · next e => cases h; simp [e]
    · cases hr : idxIn S i with
      | none => rw [hr] at h; cases h
      | some k => rw [hr] at h; cases h; simpa using idxIn_get hr

theorem reach_spec (h : Heap) : ∀ (n : Nat) (todo seen : List Nat), seen.Nodup → (reach h n todo seen).Nodup ∧ (∀ i ∈ reach h n todo seen, i ∈ seen ∨ ∃ B, hget h i = some B) ∧ seen <+: reach h n todo seen
  | 0, todo, seen, hn => ⟨by simpa [reach] using hn, by simp only [reach]; exact fun i hi => .inl hi, by simp [reach]⟩
  | n + 1, [], seen, hn => ⟨by simpa [reach] using hn, by simp only [reach]; exact fun i hi => .inl hi, by simp [reach]⟩
  | n + 1, i :: todo, seen, hn => by
    simp only [reach]
    split
    · exact reach_spec h n todo seen hn
    · next hc =>
      cases hB : hget h i with
      | none => exact reach_spec h n todo seen hn
      | some B =>
        have hni : i ∉ seen := by simpa using hc
        obtain ⟨k1, k2, k3⟩ := reach_spec h n (B.ids ++ todo) (seen ++ [i]) (by
          rw [List.nodup_append]
          exact ⟨hn, by simp, fun a ha b hb => by simp at hb; subst hb; rintro rfl; exact hni ha⟩)
        refine ⟨k1, fun j hj => ?_, (List.prefix_append _ _).trans k3⟩
        rcases k2 j hj with q | q
        · rcases List.mem_append.1 q with q | q
          · exact .inl q
          · simp at q; subst q; exact .inr ⟨B, hB⟩
        · exact .inr q

section
variable {w : World} {O O' : Nat → Option Nat} {M M' F F' : Nat → Prop} {h : Heap}

theorem args_sound (hI : Inv w O M F h) (hm : ∀ b, b < w.heap.size → F' b → F b) : ∀ (raw : List Bool) (vs : List PV) (cs : List Value), VRs w O F vs cs → (∀ id ∈ rowsOf h raw vs, ∀ b, O id = some b → ¬ F' b) → VRs w O F' (argsOf h raw vs) cs
  | raw, [], cs, hv, _ => by cases hv; cases raw <;> exact .nil
  | [], v :: r, cs, hv, hx => by
    cases hv with
    | cons h1 h2 =>
      simp only [argsOf]
      simp only [rowsOf] at hx
      refine .cons ?_ (args_sound hI hm [] r _ h2 (fun id hid => hx id (List.mem_append_right _ hid)))
      simp only [argOf, Bool.false_eq_true, if_false]
      cases hp : v.peek h with
      | none => exact VR.step (Stp.refl _ _) (fun _ _ q => q) hm h1
      | some c => exact (VR.peek hI hm h1 hp (fun id hid => hx id (List.mem_append_left _ (by rw [hp]; exact hid)))).1
  | b :: bs, v :: r, cs, hv, hx => by
    cases hv with
    | cons h1 h2 =>
      simp only [argsOf]
      simp only [rowsOf] at hx
      refine .cons ?_ (args_sound hI hm bs r _ h2 (fun id hid => hx id (List.mem_append_right _ hid)))
      simp only [argOf]
      cases b with
      | true => simp only [if_true]; exact VR.step (Stp.refl _ _) (fun _ _ q => q) hm h1
      | false =>
        simp only [Bool.false_eq_true, if_false]
        cases hp : v.peek h with
        | none => exact VR.step (Stp.refl _ _) (fun _ _ q => q) hm h1
        | some c => exact (VR.peek hI hm h1 hp (fun id hid => hx id (List.mem_append_left _ (by simp only [Bool.false_eq_true, if_false]; rw [hp]; exact hid)))).1
theorem rows_live : ∀ (raw : List Bool) (vs : List PV), ∀ id ∈ rowsOf h raw vs, ∃ cs, hget h id = some (.row cs) ∨ hget h id = some (.froz cs)
  | raw, [], id, hid => by cases raw <;> simp [rowsOf] at hid
  | [], v :: r, id, hid => by
    simp only [rowsOf] at hid
    rcases List.mem_append.1 hid with q | q
    · cases hp : v.peek h with
      | none => rw [hp] at q; simp at q
      | some c => rw [hp] at q; exact PV.peek_ids hp id q
    · exact rows_live [] r id q
  | b :: bs, v :: r, id, hid => by
    simp only [rowsOf] at hid
    rcases List.mem_append.1 hid with q | q
    · cases b with
      | true => simp at q
      | false =>
        simp only [Bool.false_eq_true, if_false] at q
        cases hp : v.peek h with
        | none => rw [hp] at q; simp at q
        | some c => rw [hp] at q; exact PV.peek_ids hp id q
    · exact rows_live bs r id q

/-- a block, its numbers told anew -/
theorem BR.mapId {σ : Nat → Option Nat} {i j : Nat} {B : Blk} (hB : BR w O M F i B) (hij : O' j = O i) (hσ : ∀ i j, σ i = some j → ∀ b, O i = some b → O' j = some b) (hM : ∀ b, O i = some b → M b → M' b) (hm : ∀ b, b < w.heap.size → F' b → F b) : BR w O' M' F' j (B.mapId σ) := by
  cases B with
  | box cs =>
    obtain ⟨b, c, el, fz, h1, h2, h3, h4, h5, h6⟩ := hB
    exact ⟨b, c, el, fz, hij.trans h1, hM b h1 h2, h3, h4, VRs.step (Stp.refl _ _) (fun _ _ q => q) hm (VRs.mapId hσ h5), h6⟩
  | row cs =>
    rcases hB with ⟨e, q⟩ | ⟨b, c, el, fz, vs, h1, h2, h3, h4, h5, h6, h7, h8⟩
    · exact .inl ⟨e, hij.trans q⟩
    · exact .inr ⟨b, c, el, fz, vs, hij.trans h1, hM b h1 h2, h3, h4, VRs.step (Stp.refl _ _) (fun _ _ q => q) hm (VRs.reo h5 h7), h6, h7, h8⟩
  | froz cs =>
    rcases hB with ⟨e, q⟩ | ⟨b, c, el, fz, vs, h1, h2, h3, h5, h6, h7, h8⟩
    · exact .inl ⟨e, hij.trans q⟩
    · exact .inr ⟨b, c, el, fz, vs, hij.trans h1, fun q => h2 (hm _ (heap_lt h3) q), h3, VRs.step (Stp.refl _ _) (fun _ _ q => q) hm (VRs.reo h5 h7), h6, h7, h8⟩
  | mp es =>
    obtain ⟨b, ms, k, h1, h2, h3, h4⟩ := hB
    exact ⟨b, ms, k, hij.trans h1, hM b h1 h2, h3, h4⟩
end
end Go.Proofs.YtipnedhclbopdaaDoorEv

/- A call: the caller's part. -/
set_option linter.unusedVariables false
set_option linter.unusedSimpArgs false
namespace Go.Proofs.YtipnedhclbopdaaDoorEv

theorem uget_append : ∀ (a b : Upd) (j : Nat), uget (a ++ b) j = match uget b j with | some x => some x | none => uget a j
  | [], b, j => by simp only [List.nil_append, uget]; cases uget b j <;> rfl
  | (k, x) :: a, b, j => by
    simp only [List.cons_append, uget, uget_append a b j]
    cases uget b j <;> rfl
theorem idxIn_none : ∀ {S : List Nat} {i : Nat}, idxIn S i = none → i ∉ S
  | [], i, _ => by simp
  | s :: S, i, h => by
    simp only [idxIn] at h
    split at h
    · cases h
    · next e =>
      cases hr : idxIn S i with
      | none => have := idxIn_none hr; simp [Ne.symm e, this]
      | some k => rw [hr] at h; cases h
theorem idxIn_of_get : ∀ {S : List Nat} {i j : Nat}, S.Nodup → S[j]? = some i → idxIn S i = some j
  | [], i, j, _, h => by simp at h
  | s :: S, i, 0, _, h => by simp at h; simp [idxIn, h]
  | s :: S, i, j + 1, hn, h => by
    simp at h
    have hn' := List.nodup_cons.1 hn
    have hne : ¬ s = i := by rintro rfl; exact hn'.1 (List.mem_of_getElem? h)
    simp only [idxIn, if_neg hne, idxIn_of_get hn'.2 h]
theorem uget_updsAt (σ : Nat → Option Nat) : ∀ (S : List Nat) (H : List (Option Blk)) (j : Nat), S.Nodup → uget (updsAt σ S H) j = match idxIn S j with | some k => some (((H[k]?).join).map (Blk.mapId σ)) | none => none
  | [], H, j, _ => by cases H <;> rfl
  | i :: S, [], j, hn => by
    have hn' := List.nodup_cons.1 hn
    simp only [updsAt, uget, uget_updsAt σ S [] j hn'.2, idxIn]
    by_cases e : i = j
    · subst e
      have : idxIn S i = none := by
        cases hq : idxIn S i with
        | none => rfl
        | some k => exact absurd (List.mem_of_getElem? (idxIn_get hq)) hn'.1
      simp [this]
    · simp only [if_neg e]
      cases idxIn S j <;> simp
  | i :: S, b :: H, j, hn => by
    have hn' := List.nodup_cons.1 hn
    simp only [updsAt, uget, uget_updsAt σ S H j hn'.2, idxIn]
    by_cases e : i = j
    · subst e
      have : idxIn S i = none := by
        cases hq : idxIn S i with
        | none => rfl
        | some k => exact absurd (List.mem_of_getElem? (idxIn_get hq)) hn'.1
      simp [this]
    · simp only [if_neg e]
      cases idxIn S j <;> simp
theorem uget_updsNew (σ : Nat → Option Nat) : ∀ (H : List (Option Blk)) (n j : Nat), uget (updsNew σ n H) j = if n ≤ j then ((H[j - n]?).join).map (fun b => some (b.mapId σ)) else none
  | [], n, j => by simp [updsNew, uget]
  | some b :: H, n, j => by
    simp only [updsNew, uget, uget_updsNew σ H (n + 1) j]
    by_cases e : n = j
    · subst e; rw [if_neg (by omega)]; simp
    · by_cases e2 : n ≤ j
      · rw [if_pos (by omega), if_pos e2, if_neg e, show j - n = (j - (n + 1)) + 1 by omega]
        simp only [List.getElem?_cons_succ]
        cases ((H[j - (n + 1)]?).join) <;> rfl
      · rw [if_neg (by omega), if_neg e2, if_neg e]
  | none :: H, n, j => by
    simp only [updsNew, uget_updsNew σ H (n + 1) j]
    by_cases e : n = j
    · subst e; rw [if_neg (by omega)]; simp
    · by_cases e2 : n ≤ j
      · rw [if_pos (by omega), if_pos e2, show j - n = (j - (n + 1)) + 1 by omega]
        simp only [List.getElem?_cons_succ]
      · rw [if_neg (by omega), if_neg e2]
theorem heap3 {h : Heap} {l S : List Nat} {σ : Nat → Option Nat} {H D : List (Option Blk)} {new : Nat} (hn : S.Nodup) (j : Nat) :
    hget (applyU h (frz h l ++ updsAt σ S H ++ updsNew σ new D)) j = match (if new ≤ j then (D[j - new]?).join else none) with
      | some B => some (B.mapId σ)
      | none => match idxIn S j with
        | some k => ((H[k]?).join).map (Blk.mapId σ)
        | none => hget (applyU h (frz h l)) j := by
  rw [hget_applyU, uget_append, uget_updsNew, uget_append, uget_updsAt σ S H j hn]
  by_cases e : new ≤ j
  · rw [if_pos e, if_pos e]
    cases (D[j - new]?).join with
    | some B => rfl
    | none =>
      simp only [Option.map_none]
      cases idxIn S j with
      | some k => rfl
      | none => simp only; rw [hget_applyU]
  · rw [if_neg e, if_neg e]
    simp only
    cases idxIn S j with
    | some k => rfl
    | none => simp only; rw [hget_applyU]

section
variable {P : Program} {w : World} {O : Nat → Option Nat} {M F : Nat → Prop} {h : Heap}

def OS (O : Nat → Option Nat) (S : List Nat) (j : Nat) : Option Nat := match S[j]? with | some i => O i | none => none

theorem call_core (hI : Inv w O M F h) {new : Nat} (hfree : ∀ id, new ≤ id → id < new + stride → O id = none ∧ hget h id = none) {S l : List Nat} (hS : S.Nodup) (hSl : ∀ i ∈ S, ∃ B, hget h i = some B)
    (hl : ∀ id ∈ l, ∃ cs, hget h id = some (.row cs) ∨ hget h id = some (.froz cs)) (hdis : ∀ i ∈ S, i ∉ l) {f : Nat} {args : List PV} {cs : List Value} {r : PV} {H : List (Option Blk)} (hv : VRs w (OS O S) (Less O F l) args cs)
    (hf : FSpec P f args (S.map fun i => (hget h i).map (Blk.mapId (idxIn S))) r H) (hlen : H.length ≤ S.length + stride) :
    Calls P f cs.toArray w (fun e w' => ∃ v, e = .returned v ∧ After w O M F h new (new + stride) (r.mapId (sigS S new H.length)) (applyU h (frz h l ++ updsAt (sigS S new H.length) S H ++ updsNew (sigS S new H.length) new (H.drop S.length))) v w') := by
  have hI1 := hI.freezeIds hl
  have hSne : ∀ i ∈ S, ∀ b, O i = some b → ∀ id ∈ l, O id ≠ some b := by
    intro i hi b hb id hid hO
    obtain ⟨B, hB⟩ := hSl i hi
    obtain ⟨c, hc⟩ := hl id hid
    rcases hc with hc | hc
    · have := hI.inj i id b _ _ hB hc hb hO; subst this; exact hdis _ hi hid
    · have := hI.inj i id b _ _ hB hc hb hO; subst this; exact hdis _ hi hid
  have hOS : ∀ (i j : Nat), idxIn S i = some j → ∀ b, O i = some b → OS O S j = some b := by
    intro i j hij b hb
    unfold OS; rw [idxIn_get hij]; exact hb
  have hget_c : ∀ j B, hget (heapOf 0 (S.map fun i => (hget h i).map (Blk.mapId (idxIn S)))) j = some B → ∃ i B0, S[j]? = some i ∧ hget h i = some B0 ∧ B = B0.mapId (idxIn S) := by
    intro j B hB
    rw [hget_heapOf0] at hB
    simp only [List.getElem?_map] at hB
    cases hq : S[j]? with
    | none => rw [hq] at hB; simp at hB
    | some i =>
      rw [hq] at hB
      obtain ⟨B0, hB0⟩ := hSl i (List.mem_of_getElem? hq)
      simp [hB0] at hB
      exact ⟨i, B0, rfl, hB0, hB.symm⟩
  have hIc : Inv w (OS O S) (fun b => M b ∧ ∃ i ∈ S, O i = some b) (Less O F l) (heapOf 0 (S.map fun i => (hget h i).map (Blk.mapId (idxIn S)))) := by
    refine ⟨fun j B hB => ?_, hI.mlt.mono (fun b q => q.1), fun b q => ⟨hI.sub b q.1, ?_⟩, fun j1 j2 b B C hB hC h1 h2 => ?_⟩
    · obtain ⟨i, B0, hi, hB0, rfl⟩ := hget_c j B hB
      exact (hI.blk i B0 hB0).mapId (by unfold OS; rw [hi]) hOS (fun b hb hM => ⟨hM, i, List.mem_of_getElem? hi, hb⟩) (fun b _ q => q.1)
    · obtain ⟨i, hi, hb⟩ := q.2
      exact hSne i hi b hb
    · obtain ⟨i1, B1, e1, g1, _⟩ := hget_c j1 B hB
      obtain ⟨i2, B2, e2, g2, _⟩ := hget_c j2 C hC
      unfold OS at h1 h2
      rw [e1] at h1; rw [e2] at h2
      have := hI.inj i1 i2 b _ _ g1 g2 h1 h2
      subst this
      have q1 := idxIn_of_get hS e1
      have q2 := idxIn_of_get hS e2
      rw [q1] at q2; cases q2; rfl
  refine (hf w (OS O S) _ (Less O F l) cs hv hIc (fun id hid => ?_)).mono ?_
  · simp at hid
    unfold OS; rw [List.getElem?_eq_none hid]
  rintro e w' ⟨v, rfl, O2, M2, F2, g1, g2, g3, g4, g5, g6, g7, g8⟩
  refine ⟨v, rfl, ?_⟩
  simp only [List.length_map] at g4
  -- what of the callee's blocks lies where
  have hO2S : ∀ j i, S[j]? = some i → O2 j = O i := fun j i hj => by
    have hlt : j < S.length := (List.getElem?_eq_some_iff.1 hj).1
    rw [g4 j hlt]; unfold OS; rw [hj]
  let O3 : Nat → Option Nat := fun id => if new ≤ id ∧ id < new + (H.length - S.length) then O2 (S.length + (id - new)) else O id
  have hO3new : ∀ id, new ≤ id → id < new + (H.length - S.length) → O3 id = O2 (S.length + (id - new)) := fun id a b => by simp only [O3]; rw [if_pos ⟨a, b⟩]
  have hO3old : ∀ id, ¬ (new ≤ id ∧ id < new + (H.length - S.length)) → O3 id = O id := fun id a => by simp only [O3]; rw [if_neg a]
  have hlive : ∀ id B, hget h id = some B → ¬ (new ≤ id ∧ id < new + (H.length - S.length)) := fun id B hB q => by
    have := (hfree id q.1 (by omega)).2
    rw [this] at hB; cases hB
  have hext : ∀ id b, O id = some b → O3 id = some b := fun id b hb => by
    rw [hO3old]
    · exact hb
    · intro q
      have := (hfree id q.1 (by omega)).1
      rw [this] at hb; cases hb
  have hσ : ∀ j id, sigS S new H.length j = some id → ∀ b, O2 j = some b → O3 id = some b := by
    intro j id hj b hb
    unfold sigS at hj
    split at hj
    · next hlt =>
      rw [hO2S j id hj] at hb
      exact hext id b hb
    · next hge =>
      split at hj
      · next hlt2 =>
        cases hj
        rw [hO3new _ (by omega) (by omega)]
        rw [show S.length + (new + (j - S.length) - new) = j by omega]; exact hb
      · cases hj
  have hF : ∀ b, b < w.heap.size → F2 b → Less O F l b := g5
  have hM3 : ∀ b, b < w.heap.size → M2 b → M b := fun b hb q => (g6 b hb q).1
  let M3 : Nat → Prop := fun b => (Less O M l b ∧ ¬ ∃ i ∈ S, O i = some b) ∨ M2 b
  have hstpF : Stp (fun b => M b ∧ ∃ i ∈ S, O i = some b) w w' := g3
  -- a block of the new state: the callee's, or one of before
  have hcase : ∀ id B, hget (applyU h (frz h l ++ updsAt (sigS S new H.length) S H ++ updsNew (sigS S new H.length) new (H.drop S.length))) id = some B →
      (∃ j B0, hget (heapOf 0 H) j = some B0 ∧ B = B0.mapId (sigS S new H.length) ∧ sigS S new H.length j = some id ∧ O3 id = O2 j) ∨
      (id ∉ S ∧ ¬ (new ≤ id ∧ id < new + stride) ∧ hget (applyU h (frz h l)) id = some B) := by
    intro id B hB
    rw [heap3 hS] at hB
    have old : (match idxIn S id with | some k => ((H[k]?).join).map (Blk.mapId (sigS S new H.length)) | none => hget (applyU h (frz h l)) id) = some B → (∃ j B0, hget (heapOf 0 H) j = some B0 ∧ B = B0.mapId (sigS S new H.length) ∧ sigS S new H.length j = some id ∧ O3 id = O2 j) ∨
      (id ∉ S ∧ ¬ (new ≤ id ∧ id < new + stride) ∧ hget (applyU h (frz h l)) id = some B) := by
      intro hB
      cases hq : idxIn S id with
      | some k =>
        rw [hq] at hB
        simp only at hB
        have hk := idxIn_get hq
        have hklt : k < S.length := (List.getElem?_eq_some_iff.1 hk).1
        cases hj : (H[k]?).join with
        | none => rw [hj] at hB; cases hB
        | some B0 =>
          rw [hj] at hB; simp at hB
          obtain ⟨B1, hB1⟩ := hSl id (List.mem_of_getElem? hk)
          refine .inl ⟨k, B0, by rw [hget_heapOf0]; exact hj, hB.symm, by unfold sigS; rw [if_pos hklt]; exact hk, ?_⟩
          rw [hO3old id (hlive id B1 hB1), hO2S k id hk]
      | none =>
        rw [hq] at hB
        simp only at hB
        refine .inr ⟨idxIn_none hq, fun q => ?_, hB⟩
        obtain ⟨D, hD⟩ := frz_live hB
        have := (hfree id q.1 q.2).2
        rw [this] at hD; cases hD
    by_cases e : new ≤ id
    · rw [if_pos e] at hB
      cases hj : ((H.drop S.length)[id - new]?).join with
      | none => rw [hj] at hB; exact old hB
      | some B0 =>
        rw [hj] at hB
        simp only [Option.some.injEq] at hB
        have hj' : (H[S.length + (id - new)]?).join = some B0 := by rw [← hj, List.getElem?_drop]
        have hlt : S.length + (id - new) < H.length := by
          rcases Nat.lt_or_ge (S.length + (id - new)) H.length with q | q
          · exact q
          · rw [List.getElem?_eq_none q] at hj'; cases hj'
        refine .inl ⟨S.length + (id - new), B0, by rw [hget_heapOf0]; exact hj', hB.symm, ?_, ?_⟩
        · unfold sigS
          rw [if_neg (by omega), if_pos hlt]
          congr 1; omega
        · exact hO3new id e (by omega)
    · rw [if_neg e] at hB
      exact old hB
  refine ⟨O3, M3, F2, VR.mapId hσ g1, ⟨⟨fun id B hB => ?_, g2.mlt, fun b q => ?_, fun id1 id2 b B C hB hC h1 h2 => ?_⟩, g3.mono (fun b _ q => q.1), hext, fun id q => ?_, fun id q hid => ?_, fun b hb q => (hF b hb q).1, fun b hb q => ?_, fun b q1 q2 => ?_, fun id b B hB hb => ?_⟩⟩
  · rcases hcase id B hB with ⟨j, B0, k1, rfl, k3, k4⟩ | ⟨k1, k2, k3⟩
    · exact (g2.blk j B0 k1).mapId k4 hσ (fun b _ q => .inr q) (fun _ _ q => q)
    · have a1 : ∀ b, (M b ∧ ∃ i ∈ S, O i = some b) → Less O F l b := by
        rintro b ⟨q1, i, hi, hO⟩
        exact ⟨hI.sub b q1, hSne i hi b hO⟩
      have a2 : ∀ b, O id = some b → ¬ ∃ i ∈ S, O i = some b := by
        rintro b hb ⟨i, hi, hO⟩
        obtain ⟨D, hD⟩ := frz_live k3
        obtain ⟨B1, hB1⟩ := hSl i hi
        have := hI.inj i id b _ _ hB1 hD hO hb
        subst this; exact k1 hi
      have a3 : O id = none → O3 id = none := fun q => by
        rw [hO3old id (fun q' => k2 ⟨q'.1, by omega⟩)]; exact q
      exact BR.step hstpF a1 hext hF (fun b hb => ⟨fun q => a2 b hb q.2, fun q => .inl ⟨q, a2 b hb⟩⟩) a3 (hI1.blk id B k3)
  · rcases q with ⟨q1, q2⟩ | q
    · exact g7 b ⟨hI.sub b q1.1, q1.2⟩ (fun q' => q2 q'.2)
    · exact g2.sub b q
  · -- blocks apart
    have hold : ∀ id B b, id ∉ S → ¬ (new ≤ id ∧ id < new + stride) → hget (applyU h (frz h l)) id = some B → O3 id = some b → b < w.heap.size ∧ ∀ j B0, hget (heapOf 0 H) j = some B0 → O2 j ≠ some b := by
      intro id B b k1 k2 k3 hb
      rw [hO3old id (fun q => k2 ⟨q.1, by omega⟩)] at hb
      have hlt := (hI1.blk id B k3).lt hb
      refine ⟨hlt, fun j B0 hj hO => ?_⟩
      obtain ⟨D, hD⟩ := frz_live k3
      rcases g8 j b B0 hj hO with q | ⟨j0, C0, q1, q2⟩
      · omega
      · obtain ⟨i, B1, e1, e2, _⟩ := hget_c j0 C0 q1
        unfold OS at q2; rw [e1] at q2
        have := hI.inj i id b _ _ e2 hD q2 hb
        subst this; exact k1 (List.mem_of_getElem? e1)
    rcases hcase id1 B hB with ⟨j1, B1, k1, _, k3, k4⟩ | ⟨k1, k2, k3⟩
    · rcases hcase id2 C hC with ⟨j2, B2, p1, _, p3, p4⟩ | ⟨p1, p2, p3⟩
      · rw [k4] at h1; rw [p4] at h2
        have := g2.inj j1 j2 b _ _ k1 p1 h1 h2
        subst this
        rw [k3] at p3; cases p3; rfl
      · rw [k4] at h1
        exact absurd h1 ((hold id2 C b p1 p2 p3 h2).2 j1 B1 k1)
    · rcases hcase id2 C hC with ⟨j2, B2, p1, _, p3, p4⟩ | ⟨p1, p2, p3⟩
      · rw [p4] at h2
        exact absurd h2 ((hold id1 B b k1 k2 k3 h1).2 j2 B2 p1)
      · rw [hO3old id1 (fun q => k2 ⟨q.1, by omega⟩)] at h1
        rw [hO3old id2 (fun q => p2 ⟨q.1, by omega⟩)] at h2
        exact hI1.inj id1 id2 b _ _ k3 p3 h1 h2
  · exact hO3old id (fun q' => q ⟨q'.1, by omega⟩)
  · cases hg : hget (applyU h (frz h l ++ updsAt (sigS S new H.length) S H ++ updsNew (sigS S new H.length) new (H.drop S.length))) id with
    | none => rfl
    | some B =>
      rcases hcase id B hg with ⟨j, B0, k1, _, k3, k4⟩ | ⟨k1, k2, k3⟩
      · unfold sigS at k3
        split at k3
        · obtain ⟨B1, hB1⟩ := hSl id (List.mem_of_getElem? k3)
          rw [hB1] at hid; cases hid
        · split at k3
          · cases k3; exact absurd ⟨by omega, by omega⟩ q
          · cases k3
      · obtain ⟨D, hD⟩ := frz_live k3
        rw [hD] at hid; cases hid
  · rcases q with q | q
    · exact q.1.1
    · exact hM3 b hb q
  · exact g7 b (less_keeps hI hl q1 q2) (fun q => q2 q.1)
  · rcases hcase id B hB with ⟨j, B0, k1, _, k3, k4⟩ | ⟨k1, k2, k3⟩
    · rw [k4] at hb
      rcases g8 j b B0 k1 hb with q | ⟨j0, C0, q1, q2⟩
      · exact .inl q
      · obtain ⟨i, B1, e1, e2, _⟩ := hget_c j0 C0 q1
        unfold OS at q2; rw [e1] at q2
        exact .inr ⟨i, B1, e2, q2⟩
    · obtain ⟨D, hD⟩ := frz_live k3
      rw [hO3old id (fun q => k2 ⟨q.1, by omega⟩)] at hb
      exact .inr ⟨id, D, hD, hb⟩
end
end Go.Proofs.YtipnedhclbopdaaDoorEv

