/- General words (2): an evaluator of the model's code, and that what it answers the model answers. -/
import Derived.Test.YtklanpanmndakaaEv1
import Derived.WalkSpells
import Derived.Conc.MuLone
/- Rows written out, copies, least and greatest, equality. -/
set_option linter.unusedVariables false
set_option linter.unusedSimpArgs false
namespace Go.Proofs.YtklanpanmndakaaEv
section
variable {P : Program} {o : Oper} {ρ : Operand → Value} {w w' : World} {O : Nat → Option Nat} {M F : Nat → Prop} {h : Heap} {new n1 n2 : Nat} {e : X → PV}
  (hI : Inv w O M F h) (hρ : ∀ x y, copX x = some y → VR w O F (e y) (ρ x)) (hfree : O new = none ∧ hget h new = none)

include hρ in
theorem parts1_rel : ∀ (ps : List (Nat × Operand)) (l : List (Nat × X)), ps.mapM copPart1 = some l →
    (l.map (·.1)) = ps.map (·.1) ∧ VRs w O F (l.map fun p => e p.2) (ps.map fun p => ρ p.2)
  | [], l, q => by simp at q; subst q; exact ⟨rfl, .nil⟩
  | p :: ps, l, q => by
    rw [List.mapM_cons] at q
    cases hp : copPart1 p with
    | none => rw [hp] at q; cases q
    | some b =>
      cases hr : ps.mapM copPart1 with
      | none => rw [hp, hr] at q; cases q
      | some l' =>
        rw [hp, hr] at q; cases q
        obtain ⟨k1, k2⟩ := parts1_rel ps l' hr
        unfold copPart1 at hp
        split at hp
        · next x' q2 => cases hp; exact ⟨by simp [k1], .cons (hρ _ _ q2) k2⟩
        · cases hp
theorem parts1_all2 {place : Nat → Option (Nat × Nat)} {es : Nat} (hpl : ∀ i, place i = some (i * es, es)) : ∀ (l : List (Nat × X)) (ps : List (Nat × Operand)) (vs : List PV), l.map (·.1) = ps.map (·.1) → VRs w O F vs (ps.map fun p => ρ p.2) →
    All2 (fun (b : Nat × Nat × PV) (p : Nat × Value) => place p.1 = some (b.1, b.2.1) ∧ VR w O F b.2.2 p.2) ((l.zip vs).map fun p => (p.1.1 * es, es, p.2)) (ps.map fun p => (p.1, ρ p.2))
  | [], [], vs, _, k => by cases k; exact .nil
  | [], p :: ps, vs, q, k => by simp at q
  | a :: l, [], vs, q, k => by simp at q
  | a :: l, p :: ps, vs, q, k => by
    cases k with
    | cons k1 k2 =>
      simp at q
      exact .cons ⟨by rw [hpl]; simp [q.1], k1⟩ (parts1_all2 hpl l ps _ q.2 k2)
theorem fillB_closed : ∀ (bs : List (Nat × Nat × PV)) (cs cs' : List PV), fillB cs bs = some cs' → closedL cs = true → (∀ b ∈ bs, b.2.2.closed = true) → closedL cs' = true
  | [], cs, cs', h, hc, _ => by simp [fillB] at h; subst h; exact hc
  | (off, size, v) :: bs, cs, cs', h, hc, hb => by
    simp only [fillB] at h
    split at h
    · next q =>
      refine fillB_closed bs _ cs' h ?_ (fun b hb' => hb b (List.mem_cons_of_mem _ hb'))
      unfold setRange
      refine closedL_append (closedL_append (closedL_take _ hc) ?_) (closedL_drop _ hc)
      have := hb _ (List.mem_cons_self ..)
      have q1 := q.1
      simp only at this
      cases v <;> simp_all [PV.cells, PV.closed, closedL, PV.cellish]
    · cases h

include hI hρ hfree in
theorem s_bslice {t el : TypeId} {n : Nat} {ps : Array (Nat × Operand)} {z : List PV} {l : List (Nat × X)} {i : TypeInfo} {cf : CF} {r : PV} {u : Upd} (ho : o.op = .buildSlice t n ps) (ht : P.underlying t = some (.slice el)) (hi : P.info? el = some i) (hz : zeroT P el = some z) (hpos : 0 < i.size) (hl : ps.toList.mapM copPart1 = some l)
    (he : evalK cf (.bslice i.size n z l) new e h = some (r, u)) : Res P o ρ w (After w O M F h new (new + stride) r (applyU h u)) := by
  obtain ⟨i', zv, hi', hz1, hz2, hz3, hz4, hz5, hz6⟩ := zeroT_spec hz
  rw [hi] at hi'; cases hi'
  obtain ⟨k1, k2⟩ := parts1_rel hρ _ _ hl
  simp only [evalK] at he
  cases hp : peekL h (l.map fun p => e p.2) with
  | none => rw [hp] at he; cases he
  | some vs =>
    rw [hp] at he
    simp only at he
    split at he
    · next hsm =>
      split at he
      · next cs hf =>
        cases he
        have hids := peekL_ids hp
        have hI2 := hI.freezeIds hids
        have hpk := VRs.peek (F' := Less O F (idsL (l.map fun p => e p.2))) hI (fun b _ q => q.1) k2 hp (fun id hid b hO q => q.2 id hid hO)
        have hfree2 : O new = none ∧ hget (applyU h (frz h (idsL (l.map fun p => e p.2)))) new = none := ⟨hfree.1, hget_frz_none hfree.2⟩
        rw [applyU_append]
        have hall := parts1_all2 (w := w) (O := O) (F := Less O F (idsL (l.map fun p => e p.2))) (place := fun j => some (j * i.size, i.size)) (fun _ => rfl) l ps.toList vs k1 hpk.1
        have hzc : VRs w O (Less O F (idsL (l.map fun p => e p.2))) (List.replicate n z).flatten ((Array.range (n * i.size)).map (zv.cells[· % zv.cells.size]!)).toList := by
          have := (hz4 w O (Less O F (idsL (l.map fun p => e p.2)))).flat n
          have e1 : ((Array.range (n * i.size)).map (zv.cells[· % zv.cells.size]!)).toList = (List.replicate n zv.cells.toList).flatten := by
            rw [← hz2, Array.toList_map, Array.toList_range]
            exact range_mod zv.cells n
          rw [e1]; exact this
        have hone : ∀ v ∈ ((Array.range (n * i.size)).map (zv.cells[· % zv.cells.size]!)).toList, v.oneCell' = true := by
          have e1 : ((Array.range (n * i.size)).map (zv.cells[· % zv.cells.size]!)).toList = (List.replicate n zv.cells.toList).flatten := by
            rw [← hz2, Array.toList_map, Array.toList_range]
            exact range_mod zv.cells n
          rw [e1]; exact mem_flat hz5 n
        obtain ⟨c', q1, q2, q3⟩ := fill_sound (fun j => some (j * i.size, i.size)) (ps.toList.map fun p => (p.1, ρ p.2)) _ _ _ cs hzc hone hall hf
        have hcl : closedL cs = true := by
          refine fillB_closed _ _ _ hf (closedL_flat hz6 n) (fun b hb => ?_)
          obtain ⟨p, hp1, rfl⟩ := List.mem_map.1 hb
          exact closedL_iff.1 hpk.2 _ (List.of_mem_zip hp1).2
        have hcs : c'.size = n * i.size := by
          have h1 := q2.length
          have h2 : cs.length = n * i.size := by
            have : ∀ (bs : List (Nat × Nat × PV)) (a b : List PV), fillB a bs = some b → b.length = a.length := by
              intro bs
              induction bs with
              | nil => intro a b h; simp [fillB] at h; rw [h]
              | cons x bs ih =>
                intro a b h
                obtain ⟨off, size, v⟩ := x
                simp only [fillB] at h
                split at h
                · next q => rw [ih _ _ h]; simp [setRange]; omega
                · cases h
            rw [this _ _ _ hf]
            have hzl := hzc.length
            rw [hzl]; simp
          simp at h1; omega
        have hpa : (ps.map fun p => (p.1, ρ p.2)).toList = ps.toList.map fun p => (p.1, ρ p.2) := by simp
        have hrun : (Instr.buildSlice t n (ps.map fun p => (p.1, ρ p.2))).run P w = .ok (.slice (some ⟨w.heap.size, 0, none⟩) n n) (w.alloc (.cells c' el)) := by
          by_cases h0 : n * i.size = 0
          · have hn0 : n = 0 := by
              rcases Nat.mul_eq_zero.1 h0 with q | q
              · exact q
              · omega
            subst hn0
            have e0 : c' = #[] := Array.eq_empty_of_size_eq_zero (by omega)
            subst e0
            have hz0 : l.zip vs = [] := by
              cases hq : l.zip vs with
              | nil => rfl
              | cons a b =>
                rw [hq] at hf
                simp [fillB] at hf
                omega
            have hvl : vs.length = l.length := by
              have h1 := hpk.1.length
              have h2 := k2.length
              simp at h1 h2
              omega
            have hl0 : l = [] := by
              cases l with
              | nil => rfl
              | cons a b =>
                cases vs with
                | nil => simp at hvl
                | cons c d => simp at hz0
            subst hl0
            have hps0 : ps.toList = [] := by
              cases hq : ps.toList with
              | nil => rfl
              | cons a b => rw [hq] at k1; simp at k1
            have hps : ps = #[] := by rw [← Array.toArray_toList (xs := ps), hps0]
            subst hps
            simp [Instr.buildSlice, run_underlying ht, sizeOf, typeInfo, hi, newRow, Instr.fill]
            have e9 : (Array.map (fun (x : Nat) => (default : Value)) (Array.range 0)) = #[] := Array.eq_empty_of_size_eq_zero (by simp)
            rw [e9]
          · exact run_buildSlice w t el n _ c' i zv ht hi hz1 (by omega) h0 (by rw [hpa]; exact q1)
        refine .val (v := .slice (some ⟨w.heap.size, 0, none⟩) n n) (w' := w.alloc (.cells c' el)) ?_ (After.of_less hI hids (after_row hI2 hfree2 (fz := (0, 0)) (el := el) rfl rfl rfl rfl (unfroz00 _) q2 q3 hcl List.prefix_rfl (Nat.le_refl _) (by rw [hcs]; exact Nat.le_refl _)))
        simp only [execOp, ho, Sem.run_bind, hrun, Result.andThen_ok]
        rfl
      · cases he
    · cases he

theorem mm_sound (mx : Bool) : ∀ (xs : List PV) (vs : List Value) (k : IntKind) (x : Int) (r : PV), mm mx (.int k x) xs = some r → VRs w O F xs vs → ∃ v, (vs.foldlM (if mx then Builtin.max2 else Builtin.min2) (.int k x)).run P w = .ok v w ∧ VR w O F r v
  | [], vs, k, x, r, h, hv => by cases hv; simp [mm] at h; subst h; exact ⟨_, rfl, .int _ _⟩
  | c :: xs, vs, k, x, r, h, hv => by
    cases hv with
    | cons h1 h2 =>
      cases c <;> simp only [mm] at h <;> try (cases h; done)
      next k2 y =>
      have := h1.int_inv
      subst this
      obtain ⟨v, q1, q2⟩ := mm_sound mx xs _ k _ r h h2
      refine ⟨v, ?_, q2⟩
      rw [List.foldlM_cons]
      cases mx with
      | true => simpa [Builtin.max2] using q1
      | false => simpa [Builtin.min2] using q1

include hI hρ in
theorem s_minmax {mx : Bool} {xs : List X} {cf : CF} {r : PV} {u : Upd} {c : Call} (ho : o.op = .call c) (hc1 : c.callee = .builtin (if mx then .max else .min)) (hx : c.args.toList.mapM copX = some xs)
    (he : evalK cf (.minmax mx xs) new e h = some (r, u)) : u = [] ∧ Res P o ρ w (After w O M F h n1 n2 r h) := by
  have hv := mapM_cop hρ hx
  simp only [evalK] at he
  cases hxs : xs.map e with
  | nil => rw [hxs] at he; simp at he
  | cons a l =>
    rw [hxs] at he hv
    cases a <;> simp only at he <;> try (cases he; done)
    next k n =>
    cases hm : mm mx (.int k n) l with
    | none => rw [hm] at he; cases he
    | some r' =>
      rw [hm] at he; cases he
      cases hl : c.args.toList.map ρ with
      | nil => rw [hl] at hv; cases hv
      | cons b vs =>
        rw [hl] at hv
        cases hv with
        | cons h1 h2 =>
          have := h1.int_inv
          subst this
          obtain ⟨v, q1, q2⟩ := mm_sound (P := P) mx l vs k n r hm h2
          refine ⟨rfl, .pure hI (v := v) ?_ q2⟩
          have hl' : (c.args.map ρ).toList = .int k n :: vs := by simpa using hl
          cases mx with
          | true =>
            simp only [if_true] at hc1 q1
            simp [execOp, ho, resolve, hc1, invoke, builtin, Builtin.max_, hl']
            rw [hl]
            simp [q1]
          | false =>
            simp only [Bool.false_eq_true, if_false] at hc1 q1
            simp [execOp, ho, resolve, hc1, invoke, builtin, Builtin.min_, hl']
            rw [hl]
            simp [q1]

include hI hρ in
theorem s_eqS {op : BinOp} {neg : Bool} {t t' : TypeId} {x y : Operand} {x' y' : X} {cf : CF} {r : PV} {u : Upd} {fs : Array Field} (hop : op = if neg then .neq else .eql) (ht : P.underlying t = some (.struct fs)) (hT : eqT P 4 t = true) (hg : P.eqGuardType P.depth t = false) (ho : o.op = .binOp op t x y t')
    (hx : copX x = some x') (hy : copX y = some y') (he : evalK cf (.eqS neg (ksT P 4 t) x' y') new e h = some (r, u)) : u = [] ∧ Res P o ρ w (After w O M F h n1 n2 r h) := by
  have h1 := hρ _ _ hx
  have h2 := hρ _ _ hy
  simp only [evalK] at he
  cases hv : e x' <;> cases hv2 : e y' <;> rw [hv, hv2] at he <;> (try simp only at he) <;> try (cases he; done)
  next as bs =>
  rw [hv] at h1; rw [hv2] at h2
  split at he
  · next hk =>
    cases hc : cellsEq as bs with
    | none => rw [hc] at he; cases he
    | some q =>
      rw [hc] at he; cases he
      obtain ⟨xs, q1, q2, q3⟩ := h1.agg_inv
      obtain ⟨ys, p1, p2, p3⟩ := h2.agg_inv
      have hs : ∃ s, szT P t = some s := by
        have := hT
        unfold eqT at this
        rw [ht] at this
        cases hs : szT P t with
        | none => rw [hs] at this; simp at this
        | some s => exact ⟨s, rfl⟩
      obtain ⟨s, hs⟩ := hs
      have hkl := ksT_len 4 t s hT hs
      have hal : as.length = s := by rw [← hkl, ← hk, List.length_map]
      have hbl : ∀ (a b : List PV) (r : Bool), cellsEq a b = some r → a.length = b.length := by
        intro a
        induction a with
        | nil => intro b r hh; cases b <;> simp [cellsEq] at hh ⊢
        | cons x a ih =>
          intro b r hh
          cases b with
          | nil => simp [cellsEq] at hh
          | cons y b =>
            simp only [cellsEq] at hh
            split at hh
            · next p q e1 e2 => simp [ih b q e2]
            · cases hh
      have hrun := eqT_sound (P := P) 4 t s as bs xs ys q true 9996 hT hs (aggT_of.1 fs ht) q2 p2 hal (by rw [← hbl _ _ _ hc]; exact hal) hk hc
      have hrun' : (Op.equalIn 10000 t (.agg xs.toArray) (.agg ys.toArray)).run P w = .ok q w := hrun
      refine ⟨rfl, .pure hI ?_ (.bool _)⟩
      subst hop
      cases neg with
      | false => simp [execOp, ho, q1, p1, run_eqGuard_agg, hg, run_eql_struct, hrun']
      | true => simp [execOp, ho, q1, p1, run_eqGuard_agg, hg, run_neq_struct, hrun']
  · cases he

include hI hρ in
theorem s_eqNilS {op : BinOp} {neg : Bool} {t t' el : TypeId} {x y : Operand} {x' : X} {cf : CF} {r : PV} {u : Upd} (hop : op = if neg then .neq else .eql) (ht : P.underlying t = some (.slice el)) (ho : o.op = .binOp op t x y t')
    (hx : copX x = some x') (hy : isNilS y = true) (hρc : ∀ v, ρ (.const v) = v) (he : evalK cf (.eqNil false neg x') new e h = some (r, u)) : u = [] ∧ Res P o ρ w (After w O M F h n1 n2 r h) := by
  have h1 := hρ _ _ hx
  have hyv : ρ y = .slice none 0 0 := by
    unfold isNilS at hy
    split at hy
    · exact hρc _
    · cases hy
  have run : ∀ base n c, ρ x = .slice base n c → (execOp ρ o).run P w = .ok (.value (.bool (if neg then !base.isNone else base.isNone))) w := by
    intro base n c hq
    subst hop
    cases neg with
    | false => simp [execOp, ho, hq, hyv, eqGuard_ok, Lib.run_eql_slice_nil w t el base n c 0 0 ht]
    | true => simp [execOp, ho, hq, hyv, eqGuard_ok, run_neq_slice_nil_any w t el base n c 0 0 ht]
  simp only [evalK] at he
  have fin : ∀ q base n c, ρ x = .slice base n c → base.isNone = q → some (PV.bool (if neg then !q else q), ([] : Upd)) = some (r, u) → u = [] ∧ Res P o ρ w (After w O M F h n1 n2 r h) := by
    intro q base n c hs hb hq
    cases hq
    refine ⟨rfl, .pure hI (run base n c hs) ?_⟩
    rw [hb]
    exact .bool _
  cases hv : e x' <;> rw [hv] at h1 he <;> simp only [isNil, Bool.false_eq_true, if_false] at he <;> try (cases he; done)
  · exact fin true _ _ _ h1.nil_inv rfl he
  · next len tight xs =>
    by_cases hne : len = 0
    · rw [if_pos hne] at he; cases he
    · rw [if_neg hne] at he
      rcases h1.sl_inv with ⟨base, cap, hq, hz, _⟩ | ⟨b, off, cap, c, el', fz, vs, hq, _⟩
      · exact absurd hz hne
      · exact fin false _ _ _ hq rfl he
  · next id es off len =>
    by_cases hne : len = 0
    · rw [if_pos hne] at he; cases he
    · rw [if_neg hne] at he
      rcases h1.own_inv with ⟨base, hq, hz⟩ | ⟨b, el', n', cap, hq, _⟩
      · exact absurd hz hne
      · exact fin false _ _ _ hq rfl he

include hI hρ in
theorem s_eqNilF {op : BinOp} {neg : Bool} {t t' : TypeId} {a b : Array TypeId} {vr : Bool} {x y : Operand} {x' : X} {cf : CF} {r : PV} {u : Upd} (hop : op = if neg then .neq else .eql) (ht : P.underlying t = some (.func a b vr)) (ho : o.op = .binOp op t x y t')
    (hx : copX x = some x') (hy : isNilF y = true) (hρc : ∀ v, ρ (.const v) = v) (he : evalK cf (.eqNil true neg x') new e h = some (r, u)) : u = [] ∧ Res P o ρ w (After w O M F h n1 n2 r h) := by
  have h1 := hρ _ _ hx
  have hyv : ρ y = .nilFunc := by
    unfold isNilF at hy
    split at hy
    · exact hρc _
    · cases hy
  have key : ∀ v q, ρ x = v → v ≠ .nilIface → (∀ c, v ≠ .agg c) → (∀ d, (Op.equalIn (d + 1) t v .nilFunc).run P w = .ok q w) → (∀ op, binOp op t v .nilFunc = match op with | .eql => (do pure (.bool (← Op.equal t v .nilFunc))) | .neq => (do pure (.bool (!(← Op.equal t v .nilFunc)))) | _ => binOp op t v .nilFunc) →
      (execOp ρ o).run P w = .ok (.value (.bool (if neg then !q else q))) w := by
    intro v q hq hn1 hn2 hd hb
    have hd' : (Op.equal t v .nilFunc).run P w = .ok q w := hd 9999
    subst hop
    cases neg with
    | false =>
      simp only [execOp, ho, hq, hyv, Sem.run_bind, eqGuard_ok _ _ _ _ v _ hn1 hn2, Result.andThen_ok]
      simp only [Bool.false_eq_true, if_false]
      rw [hb .eql]
      simp [hd']
    | true =>
      simp only [execOp, ho, hq, hyv, Sem.run_bind, eqGuard_ok _ _ _ _ v _ hn1 hn2, Result.andThen_ok]
      simp only [if_true]
      rw [hb .neq]
      simp [hd']
  simp only [evalK] at he
  cases hv : e x' <;> rw [hv] at h1 he <;> simp only [isNil, if_true] at he <;> try (cases he; done)
  · cases he
    cases hq : ρ x <;> rw [hq] at h1 <;> cases h1
    refine ⟨rfl, .pure hI (key _ false hq (by simp) (by simp) (fun d => by simp [Op.equalIn, run_underlying ht]) (fun op => by cases op <;> simp [binOp])) (.bool _)⟩
  · cases he
    cases hq : ρ x <;> rw [hq] at h1 <;> cases h1
    refine ⟨rfl, .pure hI (key _ true hq (by simp) (by simp) (fun d => by simp [Op.equalIn, run_underlying ht]) (fun op => by cases op <;> simp [binOp])) (.bool _)⟩
end
end Go.Proofs.YtklanpanmndakaaEv

/- Rows copied onto; every operation but calls. -/
set_option linter.unusedVariables false
set_option linter.unusedSimpArgs false
namespace Go.Proofs.YtklanpanmndakaaEv
section
variable {P : Program} {o : Oper} {ρ : Operand → Value} {w w' : World} {O : Nat → Option Nat} {M F : Nat → Prop} {h : Heap} {new n1 n2 : Nat} {e : X → PV}
  (hI : Inv w O M F h) (hρ : ∀ x y, copX x = some y → VR w O F (e y) (ρ x)) (hfree : O new = none ∧ hget h new = none)

include hI in
theorem after_same {id : Nat} {B : Blk} {r : PV} {v : Value} (hB : hget h id = some B) (hv : VR w O F r v) : After w O M F h n1 n2 r (hset h id B) v w := by
  have hg : ∀ j, hget (hset h id B) j = hget h j := fun j => by rw [hget_hset]; split <;> simp_all
  exact ⟨O, M, F, hv, ⟨fun j C hC => hI.blk j C (by rw [← hg]; exact hC), hI.mlt, hI.sub, fun i j b C D hC hD => hI.inj i j b C D (by rw [← hg]; exact hC) (by rw [← hg]; exact hD)⟩, .refl _ _, fun _ _ q => q, fun _ _ => rfl, fun j _ hj => by rw [hg]; exact hj, fun _ _ q => q, fun _ _ q => q, fun _ q _ => q, fun i b B q r => .inr ⟨i, B, by rw [← hg]; exact q, r⟩⟩

theorem setRange_nil (cs : List PV) (off : Nat) : setRange cs off [] = cs := by simp [setRange]

include hI hρ in
theorem s_copy {t tx el : TypeId} {x y : Operand} {x' y' : X} {s : Nat} {cf : CF} {r : PV} {u : Upd} {c : Call} (ho : o.op = .call c) (hc1 : c.callee = .builtin .copy) (hc2 : c.args.toList = [x, y]) (hc3 : c.argTypes.toList = [t, tx])
    (ht : P.underlying t = some (.slice el)) (hs : szT P el = some s) (hx : copX x = some x') (hy : copX y = some y') (hpos : 0 < s)
    (he : evalK cf (.copy s x' y') new e h = some (r, u)) : Res P o ρ w (After w O M F h n1 n2 r (applyU h u)) := by
  have hr := hρ _ _ hx
  have hry := hρ _ _ hy
  obtain ⟨e1, cs_, e2⟩ := call2_run (P := P) (w := w) (ρ := ρ) ho hc1 hc2 hc3
  have run : ∀ {v w'}, (Builtin.copy_ #[t, tx] o.type #[ρ x, ρ y]).run P w = .ok v w' → (execOp ρ o).run P w = .ok (.value v) w' := by
    intro v w' hl
    rw [e1]
    simp [e2, invoke, builtin, hl]
  simp only [evalK] at he
  have hns : ∀ s, e y' ≠ .str s := by rintro s q; rw [q] at he; cases he
  have hmt : srcNS h (e y') = srcOf h (e y') := by
    unfold srcNS
    split
    · next q => exact absurd q (hns _)
    · rfl
  rw [hmt] at he
  cases hsr : srcOf h (e y') with
  | none => rw [hsr] at he; cases he
  | some p =>
    obtain ⟨n, ys⟩ := p
    rw [hsr] at he
    simp only at he
    split at he
    · next hl =>
      -- the source's first cells
      have src : ∃ base cap, ρ y = .slice base n cap ∧ ∀ k, k ≤ n → ∃ ms, (Builtin.firstCells s k (ρ y)).run P w = .ok ms.toArray w ∧ VRs w O F (ys.take (k * s)) ms ∧ (∀ u ∈ ms, u.oneCell' = true) ∧ closedL (ys.take (k * s)) = true := by
        rcases src_cells hI hry hsr hns with ⟨base, cap, hq, hys, hb⟩ | ⟨b, off, cap, cc, el2, fz, vs, hq, hb2, q5, q6, q7, q8⟩
        · refine ⟨base, cap, hq, fun k hk => ⟨[], ?_, by subst hys; simp; exact .nil, by simp, by subst hys; simp [closedL]⟩⟩
          subst hys
          have hn0 : n = 0 := by
            have : n * s = 0 := by simpa using hl.symm
            rcases Nat.mul_eq_zero.1 this with q | q
            · exact q
            · omega
          have : k = 0 := by omega
          subst this
          rw [hq]
          cases base with
          | none => exact run_firstCells_none w s 0 n cap
          | some a => exact run_firstCells_some w s 0 a n cap [] (by simp) (by simp)
        · refine ⟨_, cap, hq, fun k hk => ⟨vs.take (k * s), ?_, q5.take _, fun u hu => q6 u (List.mem_of_mem_take hu), closedL_take _ q7⟩⟩
          rw [hq]
          have hlen := q5.length
          have : k * s ≤ n * s := Nat.mul_le_mul_right _ hk
          exact run_firstCells_some w s k _ n cap _ (by simp; omega) (cell_of_prefix hb2 (prefix_take q8 _))
      obtain ⟨bs, cap0, hqy, hsrc⟩ := src
      cases hv : e x' <;> rw [hv] at he hr <;> (try simp only at he) <;> try (cases he; done)
      next id es off len =>
      cases hB : hget h id with
      | none => rw [hB] at he; cases he
      | some B =>
        rw [hB] at he
        cases B with
        | box cs => cases he
        | froz cs => cases he
        | mp cs => cases he
        | row cs =>
          simp only at he
          split at he
          · next hle =>
            cases he
            obtain ⟨ms, k1, k2, k3, k4⟩ := hsrc (min n len) (Nat.min_le_left _ _)
            have hmin : Nat.min n len = min n len := rfl
            rcases hr.own_inv with ⟨base, hq, hz⟩ | ⟨b, el', n', cap, hq, hO, hsh, hl2, hf⟩
            · subst hz
              have hms : ms = [] := by
                have := k2.length
                simp at this
                exact List.eq_nil_of_length_eq_zero this.symm
              subst hms
              refine .val (run (v := .int .i64 0) (w' := w) ?_) ?_
              · rw [hq]
                have k1' := k1
                simp only [Nat.min_zero] at k1'
                rw [hqy] at k1' ⊢
                cases base <;> simp [Builtin.copy_, run_underlying ht, run_sizeOf_of hs, Builtin.lenOf, Nat.min_zero, k1', storeCells, goInt]
              · simp only [Nat.min_zero, Nat.zero_mul, List.take_zero, setRange_nil]
                exact after_same hI hB (.int _ _)
            · rcases hI.blk _ _ hB with ⟨_, q⟩ | ⟨b', c', el2, fz, vs, q1, q2, q3, q4, q5, q6, q7, q8⟩
              · rw [hO] at q; cases q
              · rw [hO] at q1; cases q1
                have q5l := q5.length
                have hl8 : vs.length ≤ c'.size := by have := q8.length_le; simpa using this
                have kml := k2.length
                have hmm : min n len * s ≤ len * s := Nat.mul_le_mul_right _ (Nat.min_le_right _ _)
                simp at kml
                have hlen : off + ms.length ≤ vs.length := by omega
                have hst := run_storeCells_cells (P := P) b off ms 0 w (fun j hj => by simpa using (there_of q3 q4 off ms.length (by omega) j hj).1) (fun j hj => by simpa using (there_of q3 q4 off ms.length (by omega) j hj).2) k3
                simp only [Nat.add_zero] at hst
                refine .val (run (v := .int .i64 ((min n len : Nat) : Int)) (w' := w.setCells b off ms) ?_) ?_
                · rw [hq]
                  rw [hqy] at k1 ⊢
                  have k1' : (Builtin.firstCells s (Nat.min n len) (.slice bs n cap0)).run P w = .ok ms.toArray w := k1
                  simp [Builtin.copy_, run_underlying ht, run_sizeOf_of hs, Builtin.lenOf, k1', hst, goInt]
                · exact after_write_row hI hB hO q2 q3 q4 q5 q6 q7 q8 k2 k3 k4 hlen (fun _ _ => .int _ _)
          · cases he
    · cases he
end
end Go.Proofs.YtklanpanmndakaaEv

/- Every operation but a call comes to what the evaluator says. -/
set_option linter.unusedVariables false
set_option linter.unusedSimpArgs false
namespace Go.Proofs.YtklanpanmndakaaEv

def K.isCall : K → Bool
  | .call .. => true
  | .callv .. => true
  | _ => false

section
variable {P : Program} {raws : Nat → List Bool} {o : Oper} {ρ : Operand → Value} {w w' : World} {O : Nat → Option Nat} {M F : Nat → Prop} {h : Heap} {new : Nat} {e : X → PV} {k : K} {cf : CF} {r : PV} {u : Upd}

theorem opSound (hI : Inv w O M F h) (hρ : ∀ x y, copX x = some y → VR w O F (e y) (ρ x)) (hfree : O new = none ∧ hget h new = none) (hρc : ∀ v, ρ (.const v) = v)
    (hk : copK P raws o = some k) (hnc : k.isCall = false) (he : evalK cf k new e h = some (r, u)) : Res P o ρ w (After w O M F h new (new + stride) r (applyU h u)) := by
  have nil : ∀ {r}, u = [] ∧ Res P o ρ w (After w O M F h new (new + stride) r h) → Res P o ρ w (After w O M F h new (new + stride) r (applyU h u)) := by
    rintro r ⟨rfl, q⟩; exact q
  cases hop : o.op with
  | move x =>
    simp only [copK, hop, Option.bind_eq_bind, Option.bind_eq_some_iff] at hk
    obtain ⟨x', hx, hk⟩ := hk; cases hk
    simp only [evalK] at he; cases he
    exact s_mv hI hρ (.inl hop) hx
  | assign x =>
    simp only [copK, hop, Option.bind_eq_bind, Option.bind_eq_some_iff] at hk
    obtain ⟨x', hx, hk⟩ := hk; cases hk
    simp only [evalK] at he; cases he
    exact s_mv hI hρ (.inr hop) hx
  | pick c a b =>
    simp only [copK, hop, Option.bind_eq_bind, Option.bind_eq_some_iff] at hk
    obtain ⟨c', hc, a', ha, b', hb, hk⟩ := hk; cases hk
    simp only [evalK] at he
    cases hv : e c' <;> rw [hv] at he <;> (try simp only at he) <;> try (cases he; done)
    next q =>
    cases q with
    | true => simp at he; obtain ⟨rfl, rfl⟩ := he; exact s_pick hI hρ hop hc ha hb hv
    | false => simp at he; obtain ⟨rfl, rfl⟩ := he; exact s_pick hI hρ hop hc ha hb hv
  | alloc t =>
    simp only [copK, hop, Option.bind_eq_bind, Option.bind_eq_some_iff] at hk
    obtain ⟨z, hz, hk⟩ := hk; cases hk
    simp only [evalK] at he; cases he
    exact s_alloc hI hfree hop hz
  | box t x =>
    simp only [copK, hop, Option.bind_eq_bind, Option.bind_eq_some_iff] at hk
    obtain ⟨x', hx, hk⟩ := hk; cases hk
    simp only [evalK] at he
    split at he
    · next hc => cases he; exact s_box hI hρ hfree hop hx hc
    · cases he
  | build t ps =>
    simp only [copK, hop] at hk
    cases hu : P.underlying t with
    | none => rw [hu] at hk; cases hk
    | some d =>
      rw [hu] at hk
      have fin : ∀ (place : Nat → Option (Nat × Nat)) (z : List PV) (l : List (Nat × Nat × X)), zeroT P t = some z → ps.toList.mapM (copPart place) = some l → K.build z l = k →
          (∀ c parts cells, (∃ i v, P.info? t = some i ∧ i.zero = some v ∧ v.cells = c) → Instr.fill place c parts = some cells → P.built t parts = some cells) → Res P o ρ w (After w O M F h new (new + stride) r (applyU h u)) := by
        intro place z l hz hl hkk hpl
        subst hkk
        simp only [evalK] at he
        split at he
        · next cs hf => cases he; exact s_build hI hρ hop hz place hpl hl hf
        · cases he
      cases d <;> simp only at hk <;> try (cases hk; done)
      · next n el =>
        simp only [Option.bind_eq_bind, Option.bind_eq_some_iff] at hk
        obtain ⟨z, hz, s, hs, l, hl, hk⟩ := hk; cases hk
        refine fin _ z l hz hl rfl ?_
        rintro c parts cells ⟨i, v, h1, h2, rfl⟩ hf
        obtain ⟨ie, h3, rfl⟩ := szT_spec hs
        simp only [Program.built, h1, hu, h2, h3]
        exact hf
      · next fs =>
        simp only [Option.bind_eq_bind, Option.bind_eq_some_iff] at hk
        obtain ⟨z, hz, pl, hpl, l, hl, hk⟩ := hk; cases hk
        refine fin _ z l hz hl rfl ?_
        rintro c parts cells ⟨i, v, h1, h2, rfl⟩ hf
        simp only [Program.built, h1, hu, h2, hpl]
        exact hf
  | buildSlice t n ps =>
    simp only [copK, hop] at hk
    split at hk
    · next el hu =>
      simp only [Option.bind_eq_bind, Option.bind_eq_some_iff] at hk
      obtain ⟨z, hz, s, hs, l, hl, hk⟩ := hk
      split at hk
      · next hpos =>
        cases hk
        obtain ⟨i, hi, rfl⟩ := szT_spec hs
        exact s_bslice hI hρ hfree hop hu hi hz hpos hl he
      · cases hk
    · cases hk
  | load t a =>
    simp only [copK, hop, Option.bind_eq_bind, Option.bind_eq_some_iff] at hk
    obtain ⟨g, hg, s, hs, hk⟩ := hk
    split at hk
    · next h1 =>
      simp only [Option.bind_eq_some_iff] at hk
      obtain ⟨x', hx, hk⟩ := hk; cases hk
      exact nil (s_load hI hρ hop hg hs h1 hx he)
    · cases hk
  | store t a x =>
    simp only [copK, hop, Option.bind_eq_bind, Option.bind_eq_some_iff] at hk
    obtain ⟨s, hs, a', ha, x', hx, hk⟩ := hk; cases hk
    exact s_store hI hρ hop hs ha hx he
  | nilCheck x =>
    simp only [copK, hop, Option.bind_eq_bind, Option.bind_eq_some_iff] at hk
    obtain ⟨x', hx, hk⟩ := hk; cases hk
    exact nil (s_nilck hI hρ hop hx he)
  | binOp op t x y t' =>
    simp only [copK, hop] at hk
    have bin : (do some (K.bin op (← copX x) (← copX y))) = some k → Res P o ρ w (After w O M F h new (new + stride) r (applyU h u)) := by
      intro hk
      simp only [Option.bind_eq_bind, Option.bind_eq_some_iff] at hk
      obtain ⟨x', hx, y', hy, hk⟩ := hk; cases hk
      simp only [evalK] at he
      split at he
      · next v hv => cases he; exact s_bin hI hρ hop hx hy hv
      · cases he
    split at hk
    · exact bin hk
    · exact bin hk
    · exact bin hk
    · next hu =>
      have eb : ∀ neg, (do some (K.eqB neg (← copX x) (← copX y))) = some k → op = (if neg then BinOp.neq else BinOp.eql) → Res P o ρ w (After w O M F h new (new + stride) r (applyU h u)) := by
        intro neg hk hopp
        simp only [Option.bind_eq_bind, Option.bind_eq_some_iff] at hk
        obtain ⟨x', hx, y', hy, hk⟩ := hk; cases hk
        simp only [evalK] at he
        split at he
        · next a b ha hb => cases he; exact s_eqB hI hρ hopp hu hop hx hy ha hb
        · cases he
      split at hk
      · exact eb false hk rfl
      · exact eb true hk rfl
      · cases hk
    · next fs hu =>
      split at hk
      · next hc =>
        simp only [Bool.and_eq_true, Bool.not_eq_true'] at hc
        have eb : ∀ neg, (do some (K.eqS neg (ksT P 4 t) (← copX x) (← copX y))) = some k → op = (if neg then BinOp.neq else BinOp.eql) → Res P o ρ w (After w O M F h new (new + stride) r (applyU h u)) := by
          intro neg hk hopp
          simp only [Option.bind_eq_bind, Option.bind_eq_some_iff] at hk
          obtain ⟨x', hx, y', hy, hk⟩ := hk; cases hk
          exact nil (s_eqS hI hρ hopp hu hc.1 hc.2 hop hx hy he)
        split at hk
        · exact eb false hk rfl
        · exact eb true hk rfl
        · cases hk
      · cases hk
    · next el hu =>
      split at hk
      · next hc =>
        have eb : ∀ neg, (do some (K.eqNil false neg (← copX x))) = some k → op = (if neg then BinOp.neq else BinOp.eql) → Res P o ρ w (After w O M F h new (new + stride) r (applyU h u)) := by
          intro neg hk hopp
          simp only [Option.bind_eq_bind, Option.bind_eq_some_iff] at hk
          obtain ⟨x', hx, hk⟩ := hk; cases hk
          exact nil (s_eqNilS hI hρ hopp hu hop hx hc hρc he)
        split at hk
        · exact eb false hk rfl
        · exact eb true hk rfl
        · cases hk
      · cases hk
    · next a b c hu =>
      split at hk
      · next hc =>
        have eb : ∀ neg, (do some (K.eqNil true neg (← copX x))) = some k → op = (if neg then BinOp.neq else BinOp.eql) → Res P o ρ w (After w O M F h new (new + stride) r (applyU h u)) := by
          intro neg hk hopp
          simp only [Option.bind_eq_bind, Option.bind_eq_some_iff] at hk
          obtain ⟨x', hx, hk⟩ := hk; cases hk
          exact nil (s_eqNilF hI hρ hopp hu hop hx hc hρc he)
        split at hk
        · exact eb false hk rfl
        · exact eb true hk rfl
        · cases hk
      · cases hk
    · cases hk
  | unOp op t x =>
    simp only [copK, hop, Option.bind_eq_bind, Option.bind_eq_some_iff] at hk
    obtain ⟨x', hx, hk⟩ := hk; cases hk
    simp only [evalK] at he
    split at he
    · next v hv => cases he; exact s_un hI hρ hop hx hv
    · cases he
  | convert a b x =>
    simp only [copK, hop] at hk
    split at hk
    · next k1 k2 h1 h2 =>
      simp only [Option.bind_eq_bind, Option.bind_eq_some_iff] at hk
      obtain ⟨x', hx, hk⟩ := hk; cases hk
      simp only [evalK] at he
      split at he
      · next k3 n hv => cases he; exact s_conv hI hρ h1 h2 hop hx hv
      · cases he
    · next h1 h2 =>
      simp only [Option.bind_eq_bind, Option.bind_eq_some_iff] at hk
      obtain ⟨x', hx, hk⟩ := hk; cases hk
      simp only [evalK] at he
      split at he
      · next s hv => cases he; exact s_convS hI hρ h1 h2 hop hx hv
      · cases he
    · next el h1 h2 =>
      split at hk
      · next h3 =>
        simp only [Option.bind_eq_bind, Option.bind_eq_some_iff] at hk
        obtain ⟨x', hx, hk⟩ := hk; cases hk
        simp only [evalK] at he
        split at he
        · next s hv => cases he; exact s_s2b hI hρ hfree hop h1 h2 h3 hx hv
        · cases he
      · cases hk
    · next el h1 h2 =>
      split at hk
      · next h3 =>
        simp only [Option.bind_eq_bind, Option.bind_eq_some_iff] at hk
        obtain ⟨x', hx, hk⟩ := hk; cases hk
        exact nil (s_b2s hI hρ hop h1 h2 h3 hx he)
      · cases hk
    · cases hk
  | makeFunc fn a b =>
    cases fn <;> simp only [copK, hop] at hk <;> try (cases hk; done)
    simp only [Option.bind_eq_bind, Option.bind_eq_some_iff] at hk
    obtain ⟨a', ha, b', hb, hk⟩ := hk; cases hk
    simp only [evalK] at he; cases he
    exact s_mkfunc hI hρ hop ha hb
  | makeSlice t l c =>
    simp only [copK, hop] at hk
    split at hk
    · next el hu =>
      simp only [Option.bind_eq_bind, Option.bind_eq_some_iff] at hk
      obtain ⟨s, hs, hk⟩ := hk
      split at hk
      · next hc =>
        simp only [Option.bind_eq_some_iff] at hk
        obtain ⟨z, hz, l', hl, c', hcc, hk⟩ := hk; cases hk
        obtain ⟨i, hi, rfl⟩ := szT_spec hs
        have hby : i.bytes ≤ 65536 := by have := hc.2; rw [hi] at this; simpa using this
        exact s_mkslice hI hρ hfree hop hu hi hz hby hl hcc he
      · cases hk
    · cases hk
  | slice t x lo hi mx =>
    simp only [copK, hop] at hk
    split at hk
    · cases hk
    · next hmh =>
      have h4 : mx.isSome = true → hi.isSome = true := by
        intro q
        cases hi with
        | none => simp [q] at hmh
        | some _ => rfl
      split at hk
      · next hu =>
        simp only [Option.bind_eq_bind, Option.bind_eq_some_iff] at hk
        obtain ⟨x', hx, l', hl, h', hh, m', hm, hk⟩ := hk; cases hk
        exact nil (s_slice (el := 0) hI hρ hop (str := true) hu hx hl hh hm h4 he)
      · next el hu =>
        simp only [Option.bind_eq_bind, Option.bind_eq_some_iff] at hk
        obtain ⟨s, hs, x', hx, l', hl, h', hh, m', hm, hk⟩ := hk; cases hk
        exact nil (s_slice (el := el) hI hρ hop (str := false) ⟨hu, hs⟩ hx hl hh hm h4 he)
      · cases hk
  | fieldAddr t x i =>
    simp only [copK, hop] at hk
    split at hk
    · next fs hu =>
      simp only [Option.bind_eq_bind, Option.bind_eq_some_iff] at hk
      obtain ⟨f, hf, s, hs, hk⟩ := hk
      split at hk
      · next hpos =>
        simp only [Option.bind_eq_some_iff] at hk
        obtain ⟨x', hx, hk⟩ := hk; cases hk
        exact nil (s_faddr hI hρ hu hop hf hs hpos hx he)
      · cases hk
    · cases hk
  | field t x i =>
    simp only [copK, hop] at hk
    split at hk
    · next fs hu =>
      simp only [Option.bind_eq_bind, Option.bind_eq_some_iff] at hk
      obtain ⟨f, hf, g, hg, s, hs, hk⟩ := hk
      split at hk
      · next hpos =>
        simp only [Option.bind_eq_some_iff] at hk
        obtain ⟨x', hx, hk⟩ := hk; cases hk
        exact nil (s_field hI hρ hu hop hf hg hs hpos.1 hpos.2 hx he)
      · cases hk
    · cases hk
  | indexAddr t x i =>
    simp only [copK, hop] at hk
    split at hk
    · next el hu =>
      simp only [Option.bind_eq_bind, Option.bind_eq_some_iff] at hk
      obtain ⟨s, hs, x', hx, i', hi, hk⟩ := hk; cases hk
      exact nil (s_iaddr hI hρ hu hs hop hx hi he)
    · next n el hu =>
      simp only [Option.bind_eq_bind, Option.bind_eq_some_iff] at hk
      obtain ⟨s, hs, x', hx, i', hi, hk⟩ := hk; cases hk
      exact nil (s_iaddrA hI hρ hu hs hop hx hi he)
    · cases hk
  | index t x i =>
    simp only [copK, hop] at hk
    split at hk
    · next hu =>
      simp only [Option.bind_eq_bind, Option.bind_eq_some_iff] at hk
      obtain ⟨x', hx, i', hi, hk⟩ := hk; cases hk
      simp only [evalK] at he
      split at he
      · next s k n hv hn =>
        split at he
        · next h0 =>
          split at he
          · next b hb => cases he; exact s_index hI hρ hu hop hx hi hv hn h0 hb
          · cases he
        · cases he
      · cases he
    · cases hk
  | extract x i =>
    simp only [copK, hop, Option.bind_eq_bind, Option.bind_eq_some_iff] at hk
    obtain ⟨x', hx, hk⟩ := hk; cases hk
    simp only [evalK] at he
    split at he
    · next vs hv =>
      split at he
      · next v hvi => cases he; exact s_ext hI hρ hop hx hv hvi
      · cases he
    · cases he
  | call c =>
    simp only [copK, hop] at hk
    split at hk
    · simp only [Option.bind_eq_bind, Option.bind_eq_some_iff] at hk
      obtain ⟨fn, hfn, hk⟩ := hk
      split at hk
      · simp only [Option.bind_eq_some_iff] at hk
        obtain ⟨as, has, hk⟩ := hk; cases hk; simp [K.isCall] at hnc
      · cases hk
    · simp only [Option.bind_eq_bind, Option.bind_eq_some_iff] at hk
      obtain ⟨x', hx, as, has, hk⟩ := hk; cases hk; simp [K.isCall] at hnc
    · next hcl =>
      split at hk
      · next x t hca hct =>
        split at hk
        · next hu =>
          simp only [Option.bind_eq_bind, Option.bind_eq_some_iff] at hk
          obtain ⟨x', hx, hk⟩ := hk; cases hk
          exact nil (s_len hI hρ hop hcl hca hct hx (str := true) hu he)
        · next el hu =>
          simp only [Option.bind_eq_bind, Option.bind_eq_some_iff] at hk
          obtain ⟨x', hx, hk⟩ := hk; cases hk
          exact nil (s_len hI hρ hop hcl hca hct hx (str := false) ⟨el, hu⟩ he)
        · cases hk
      · cases hk
    · next hcl =>
      split at hk
      · next x t hca hct =>
        split at hk
        · next el hu =>
          simp only [Option.bind_eq_bind, Option.bind_eq_some_iff] at hk
          obtain ⟨x', hx, hk⟩ := hk; cases hk
          exact nil (s_cap hI hρ hop hcl hca hct hx ⟨el, hu⟩ he)
        · cases hk
      · cases hk
    · next hcl =>
      split at hk
      · next x y t tx hca hct =>
        split at hk
        · next el el2 hu hu2 =>
          simp only [Option.bind_eq_bind, Option.bind_eq_some_iff] at hk
          obtain ⟨s, hs, i, hi, z, hz, hk⟩ := hk
          split at hk
          · next hc =>
            simp only [Option.bind_eq_some_iff] at hk
            obtain ⟨x', hx, y', hy, hk⟩ := hk; cases hk
            obtain ⟨i', hi', rfl⟩ := szT_spec hs
            rw [hi] at hi'; cases hi'
            exact s_append hI hρ hfree hop hcl hca hct hu (.inl ⟨_, hu2⟩) hi hz hc.1 hc.2 hx hy he
          · cases hk
        · next el hu hu2 =>
          simp only [Option.bind_eq_bind, Option.bind_eq_some_iff] at hk
          obtain ⟨s, hs, i, hi, z, hz, hk⟩ := hk
          split at hk
          · next hc =>
            simp only [Option.bind_eq_some_iff] at hk
            obtain ⟨x', hx, y', hy, hk⟩ := hk; cases hk
            obtain ⟨i', hi', rfl⟩ := szT_spec hs
            rw [hi] at hi'; cases hi'
            exact s_append hI hρ hfree hop hcl hca hct hu (.inr hu2) hi hz (by omega) hc.2 hx hy he
          · cases hk
        · next el kk hu hu2 =>
          simp only [Option.bind_eq_bind, Option.bind_eq_some_iff] at hk
          obtain ⟨s, hs, i, hi, z, hz, hk⟩ := hk
          split at hk
          · next hc =>
            simp only [Option.bind_eq_some_iff] at hk
            obtain ⟨x', hx, y', hy, hk⟩ := hk; cases hk
            obtain ⟨i', hi', rfl⟩ := szT_spec hs
            rw [hi] at hi'; cases hi'
            exact s_appmk hI hρ hfree hop hcl hca hct hu hu2 hi hz hc.1 hc.2 hx hy he
          · cases hk
        · cases hk
      · cases hk
    · next hcl =>
      split at hk
      · next x y t tx hca hct =>
        split at hk
        · next el hu =>
          simp only [Option.bind_eq_bind, Option.bind_eq_some_iff] at hk
          obtain ⟨s, hs, hk⟩ := hk
          split at hk
          · next hpos =>
            simp only [Option.bind_eq_some_iff] at hk
            obtain ⟨x', hx, y', hy, hk⟩ := hk; cases hk
            exact s_copy hI hρ hop hcl hca hct hu hs hx hy hpos he
          · cases hk
        · cases hk
      · cases hk
    · next hcl =>
      simp only [Option.bind_eq_bind, Option.bind_eq_some_iff] at hk
      obtain ⟨xs, hx, hk⟩ := hk; cases hk
      exact nil (s_minmax hI hρ hop (mx := true) hcl hx he)
    · next hcl =>
      simp only [Option.bind_eq_bind, Option.bind_eq_some_iff] at hk
      obtain ⟨xs, hx, hk⟩ := hk; cases hk
      exact nil (s_minmax hI hρ hop (mx := false) hcl hx he)
    · cases hk
  | panic x => simp only [copK, hop] at hk; cases hk; simp [evalK] at he
  | makeInterface t x => simp only [copK, hop] at hk; cases hk; simp [evalK] at he
  | _ => simp only [copK, hop] at hk; cases hk
end
end Go.Proofs.YtklanpanmndakaaEv

/- Calls. -/
set_option linter.unusedVariables false
set_option linter.unusedSimpArgs false
namespace Go.Proofs.YtklanpanmndakaaEv

/-- What a function comes to. -/
def FSpec (P : Program) (f : Nat) (args : List PV) (H : List (Option Blk)) (r : PV) (H' : List (Option Blk)) : Prop :=
  ∀ (w : World) (O : Nat → Option Nat) (M F : Nat → Prop) (vs : List Value), VRs w O F args vs → Inv w O M F (heapOf 0 H) → (∀ id, H.length ≤ id → O id = none) →
    Calls P f vs.toArray w (fun e w' => ∃ v, e = .returned v ∧ ∃ O' M' F', VR w' O' F' r v ∧ Inv w' O' M' F' (heapOf 0 H') ∧ Stp M w w' ∧ (∀ id, id < H.length → O' id = O id) ∧
      (∀ b, b < w.heap.size → F' b → F b) ∧ (∀ b, b < w.heap.size → M' b → M b) ∧ (∀ b, F b → ¬ M b → F' b) ∧
      (∀ id b B, hget (heapOf 0 H') id = some B → O' id = some b → w.heap.size ≤ b ∨ ∃ j C, hget (heapOf 0 H) j = some C ∧ O j = some b))
/-- a function with a body -/
def Callable (P : Program) (f : Nat) : Prop := ∃ fn c, P.funcs[f]? = some fn ∧ fn.body = some c ∧ (fn.name == "runtime.NumGoroutine") = false
def CFok (P : Program) (cf : CF) : Prop := ∀ f args H r H', cf f args H = some (r, H') → Callable P f ∧ FSpec P f args H r H'

theorem hget_heapOf : ∀ (H : List (Option Blk)) (n k : Nat), hget (heapOf n H) k = if n ≤ k then (H[k - n]?).join else none
  | [], n, k => by simp [heapOf, hget]
  | some b :: H, n, k => by
    simp only [heapOf, hget]
    by_cases e : n = k
    · subst e; simp
    · rw [if_neg e, hget_heapOf H (n + 1) k]
      by_cases e2 : n ≤ k
      · rw [if_pos (by omega), if_pos e2, show k - n = (k - (n + 1)) + 1 by omega]; simp
      · rw [if_neg (by omega), if_neg e2]
  | none :: H, n, k => by
    simp only [heapOf]
    rw [hget_heapOf H (n + 1) k]
    by_cases e2 : n ≤ k
    · by_cases e : n = k
      · subst e; rw [if_neg (by omega)]; simp
      · rw [if_pos (by omega), if_pos e2, show k - n = (k - (n + 1)) + 1 by omega]; simp
    · rw [if_neg (by omega), if_neg e2]
theorem hget_heapOf0 (H : List (Option Blk)) (k : Nat) : hget (heapOf 0 H) k = (H[k]?).join := by rw [hget_heapOf]; simp

mutual
theorem PV.closed_of_ids : ∀ {v : PV}, v.ids = [] → v.closed = true
  | .agg cs, h => by simp only [PV.closed]; exact closedL_of_ids (by simpa [PV.ids] using h)
  | .tup cs, h => by simp only [PV.closed]; exact closedL_of_ids (by simpa [PV.ids] using h)
  | .own _ _ _ _, h => by simp [PV.ids] at h
  | .ptr _ _, h => by simp [PV.ids] at h
  | .map _, h => by simp [PV.ids] at h
  | .fn f a b, h => by
    simp [PV.ids] at h
    simp only [PV.closed, closedL_of_ids h.1, closedL_of_ids h.2, Bool.and_self]
  | .int _ _, _ => rfl
  | .bool _, _ => rfl
  | .str _, _ => rfl
  | .flt _ _, _ => rfl
  | .cpx _ _ _, _ => rfl
  | .nil, _ => rfl
  | .sl _ _ _, _ => rfl
  | .rop _, _ => rfl
  | .nilp, _ => rfl
  | .nilfn, _ => rfl
  | .undef, _ => rfl
theorem closedL_of_ids : ∀ {vs : List PV}, idsL vs = [] → closedL vs = true
  | [], _ => rfl
  | v :: r, h => by
    simp [idsL] at h
    simp only [closedL, PV.closed_of_ids h.1, closedL_of_ids h.2, Bool.and_self]
end
mutual
theorem VR.ofScalar {w : World} {o o' : Nat → Option Nat} {F F' : Nat → Prop} : ∀ {v c}, VR w o F v c → v.scalar = true → VR w o' F' v c
  | _, _, .int k n, _ => .int k n
  | _, _, .bool b, _ => .bool b
  | _, _, .str s, _ => .str s
  | _, _, .flt k b, _ => .flt k b
  | _, _, .cpx k a b, _ => .cpx k a b
  | _, _, .agg h h1, q => .agg (VRs.ofScalar h (by simpa [PV.scalar] using q)) h1
  | _, _, .tup h, q => .tup (VRs.ofScalar h (by simpa [PV.scalar] using q))
  | _, _, .nil, _ => .nil
  | _, _, .slEmpty base cap tight h, q => by simp [PV.scalar] at q
  | _, _, .sl n hb h h1 hc ht hl hti, q => by simp [PV.scalar] at q
  | _, _, .ownEmpty id es off base, q => by simp [PV.scalar] at q
  | _, _, .own _ _ _ _, q => by simp [PV.scalar] at q
  | _, _, .ptr _ _, q => by simp [PV.scalar] at q
  | _, _, .rop n hb h h1 hc ht, q => by simp [PV.scalar] at q
  | _, _, .nilp, q => by simp [PV.scalar] at q
  | _, _, .fn h1 h2, q => by simp [PV.scalar] at q
  | _, _, .nilfn, q => by simp [PV.scalar] at q
  | _, _, .map _ _, q => by simp [PV.scalar] at q
  | _, _, .undef v, _ => .undef v
theorem VRs.ofScalar {w : World} {o o' : Nat → Option Nat} {F F' : Nat → Prop} : ∀ {v c}, VRs w o F v c → scalarL v = true → VRs w o' F' v c
  | _, _, .nil, _ => .nil
  | _, _, .cons h t, q => .cons (VR.ofScalar h (by simp [scalarL] at q; exact q.1)) (VRs.ofScalar t (by simp [scalarL] at q; exact q.2))
end

theorem idxIn_get : ∀ {S : List Nat} {i j : Nat}, idxIn S i = some j → S[j]? = some i
  | [], i, j, h => by simp [idxIn] at h
  | s :: S, i, j, h => by
    simp only [idxIn] at h
    split at h
    · next e => cases h; simp [e]
    · cases hr : idxIn S i with
      | none => rw [hr] at h; cases h
      | some k => rw [hr] at h; cases h; simpa using idxIn_get hr

theorem reach_spec (h : Heap) : ∀ (n : Nat) (todo seen : List Nat), seen.Nodup → (reach h n todo seen).Nodup ∧ (∀ i ∈ reach h n todo seen, i ∈ seen ∨ ∃ B, hget h i = some B) ∧ seen <+: reach h n todo seen
  | 0, todo, seen, hn => ⟨by simpa [reach] using hn, by simp only [reach]; exact fun i hi => .inl hi, by simp [reach]⟩
  | n + 1, [], seen, hn => ⟨by simpa [reach] using hn, by simp only [reach]; exact fun i hi => .inl hi, by simp [reach]⟩
  | n + 1, i :: todo, seen, hn => by
    simp only [reach]
    split
    · exact reach_spec h n todo seen hn
    · next hc =>
      cases hB : hget h i with
      | none => exact reach_spec h n todo seen hn
      | some B =>
        have hni : i ∉ seen := by simpa using hc
        obtain ⟨k1, k2, k3⟩ := reach_spec h n (B.ids ++ todo) (seen ++ [i]) (by
          rw [List.nodup_append]
          exact ⟨hn, by simp, fun a ha b hb => by simp at hb; subst hb; rintro rfl; exact hni ha⟩)
        refine ⟨k1, fun j hj => ?_, (List.prefix_append _ _).trans k3⟩
        rcases k2 j hj with q | q
        · rcases List.mem_append.1 q with q | q
          · exact .inl q
          · simp at q; subst q; exact .inr ⟨B, hB⟩
        · exact .inr q

section
variable {w : World} {O O' : Nat → Option Nat} {M M' F F' : Nat → Prop} {h : Heap}

theorem args_sound (hI : Inv w O M F h) (hm : ∀ b, b < w.heap.size → F' b → F b) : ∀ (raw : List Bool) (vs : List PV) (cs : List Value), VRs w O F vs cs → (∀ id ∈ rowsOf h raw vs, ∀ b, O id = some b → ¬ F' b) → VRs w O F' (argsOf h raw vs) cs
  | raw, [], cs, hv, _ => by cases hv; cases raw <;> exact .nil
  | [], v :: r, cs, hv, hx => by
    cases hv with
    | cons h1 h2 =>
      simp only [argsOf]
      simp only [rowsOf] at hx
      refine .cons ?_ (args_sound hI hm [] r _ h2 (fun id hid => hx id (List.mem_append_right _ hid)))
      simp only [argOf, Bool.false_eq_true, if_false]
      cases hp : v.peek h with
      | none => exact VR.step (Stp.refl _ _) (fun _ _ q => q) hm h1
      | some c => exact (VR.peek hI hm h1 hp (fun id hid => hx id (List.mem_append_left _ (by rw [hp]; exact hid)))).1
  | b :: bs, v :: r, cs, hv, hx => by
    cases hv with
    | cons h1 h2 =>
      simp only [argsOf]
      simp only [rowsOf] at hx
      refine .cons ?_ (args_sound hI hm bs r _ h2 (fun id hid => hx id (List.mem_append_right _ hid)))
      simp only [argOf]
      cases b with
      | true => simp only [if_true]; exact VR.step (Stp.refl _ _) (fun _ _ q => q) hm h1
      | false =>
        simp only [Bool.false_eq_true, if_false]
        cases hp : v.peek h with
        | none => exact VR.step (Stp.refl _ _) (fun _ _ q => q) hm h1
        | some c => exact (VR.peek hI hm h1 hp (fun id hid => hx id (List.mem_append_left _ (by simp only [Bool.false_eq_true, if_false]; rw [hp]; exact hid)))).1
theorem rows_live : ∀ (raw : List Bool) (vs : List PV), ∀ id ∈ rowsOf h raw vs, ∃ cs, hget h id = some (.row cs) ∨ hget h id = some (.froz cs)
  | raw, [], id, hid => by cases raw <;> simp [rowsOf] at hid
  | [], v :: r, id, hid => by
    simp only [rowsOf] at hid
    rcases List.mem_append.1 hid with q | q
    · cases hp : v.peek h with
      | none => rw [hp] at q; simp at q
      | some c => rw [hp] at q; exact PV.peek_ids hp id q
    · exact rows_live [] r id q
  | b :: bs, v :: r, id, hid => by
    simp only [rowsOf] at hid
    rcases List.mem_append.1 hid with q | q
    · cases b with
      | true => simp at q
      | false =>
        simp only [Bool.false_eq_true, if_false] at q
        cases hp : v.peek h with
        | none => rw [hp] at q; simp at q
        | some c => rw [hp] at q; exact PV.peek_ids hp id q
    · exact rows_live bs r id q

/-- a block, its numbers told anew -/
theorem BR.mapId {σ : Nat → Option Nat} {i j : Nat} {B : Blk} (hB : BR w O M F i B) (hij : O' j = O i) (hσ : ∀ i j, σ i = some j → ∀ b, O i = some b → O' j = some b) (hM : ∀ b, O i = some b → M b → M' b) (hm : ∀ b, b < w.heap.size → F' b → F b) : BR w O' M' F' j (B.mapId σ) := by
  cases B with
  | box cs =>
    obtain ⟨b, c, el, fz, h1, h2, h3, h4, h5, h6⟩ := hB
    exact ⟨b, c, el, fz, hij.trans h1, hM b h1 h2, h3, h4, VRs.step (Stp.refl _ _) (fun _ _ q => q) hm (VRs.mapId hσ h5), h6⟩
  | row cs =>
    rcases hB with ⟨e, q⟩ | ⟨b, c, el, fz, vs, h1, h2, h3, h4, h5, h6, h7, h8⟩
    · exact .inl ⟨e, hij.trans q⟩
    · exact .inr ⟨b, c, el, fz, vs, hij.trans h1, hM b h1 h2, h3, h4, VRs.step (Stp.refl _ _) (fun _ _ q => q) hm (VRs.reo h5 h7), h6, h7, h8⟩
  | froz cs =>
    rcases hB with ⟨e, q⟩ | ⟨b, c, el, fz, vs, h1, h2, h3, h5, h6, h7, h8⟩
    · exact .inl ⟨e, hij.trans q⟩
    · exact .inr ⟨b, c, el, fz, vs, hij.trans h1, fun q => h2 (hm _ (heap_lt h3) q), h3, VRs.step (Stp.refl _ _) (fun _ _ q => q) hm (VRs.reo h5 h7), h6, h7, h8⟩
  | mp es =>
    obtain ⟨b, ms, k, h1, h2, h3, h4⟩ := hB
    exact ⟨b, ms, k, hij.trans h1, hM b h1 h2, h3, h4⟩
end
end Go.Proofs.YtklanpanmndakaaEv

/- A call: the caller's part. -/
set_option linter.unusedVariables false
set_option linter.unusedSimpArgs false
namespace Go.Proofs.YtklanpanmndakaaEv

theorem uget_append : ∀ (a b : Upd) (j : Nat), uget (a ++ b) j = match uget b j with | some x => some x | none => uget a j
  | [], b, j => by simp only [List.nil_append, uget]; cases uget b j <;> rfl
  | (k, x) :: a, b, j => by
    simp only [List.cons_append, uget, uget_append a b j]
    cases uget b j <;> rfl
theorem idxIn_none : ∀ {S : List Nat} {i : Nat}, idxIn S i = none → i ∉ S
  | [], i, _ => by simp
  | s :: S, i, h => by
    simp only [idxIn] at h
    split at h
    · cases h
    · next e =>
      cases hr : idxIn S i with
      | none => have := idxIn_none hr; simp [Ne.symm e, this]
      | some k => rw [hr] at h; cases h
theorem idxIn_of_get : ∀ {S : List Nat} {i j : Nat}, S.Nodup → S[j]? = some i → idxIn S i = some j
  | [], i, j, _, h => by simp at h
  | s :: S, i, 0, _, h => by simp at h; simp [idxIn, h]
  | s :: S, i, j + 1, hn, h => by
    simp at h
    have hn' := List.nodup_cons.1 hn
    have hne : ¬ s = i := by rintro rfl; exact hn'.1 (List.mem_of_getElem? h)
    simp only [idxIn, if_neg hne, idxIn_of_get hn'.2 h]
theorem uget_updsAt (σ : Nat → Option Nat) : ∀ (S : List Nat) (H : List (Option Blk)) (j : Nat), S.Nodup → uget (updsAt σ S H) j = match idxIn S j with | some k => some (((H[k]?).join).map (Blk.mapId σ)) | none => none
  | [], H, j, _ => by cases H <;> rfl
  | i :: S, [], j, hn => by
    have hn' := List.nodup_cons.1 hn
    simp only [updsAt, uget, uget_updsAt σ S [] j hn'.2, idxIn]
    by_cases e : i = j
    · subst e
      have : idxIn S i = none := by
        cases hq : idxIn S i with
        | none => rfl
        | some k => exact absurd (List.mem_of_getElem? (idxIn_get hq)) hn'.1
      simp [this]
    · simp only [if_neg e]
      cases idxIn S j <;> simp
  | i :: S, b :: H, j, hn => by
    have hn' := List.nodup_cons.1 hn
    simp only [updsAt, uget, uget_updsAt σ S H j hn'.2, idxIn]
    by_cases e : i = j
    · subst e
      have : idxIn S i = none := by
        cases hq : idxIn S i with
        | none => rfl
        | some k => exact absurd (List.mem_of_getElem? (idxIn_get hq)) hn'.1
      simp [this]
    · simp only [if_neg e]
      cases idxIn S j <;> simp
theorem uget_updsNew (σ : Nat → Option Nat) : ∀ (H : List (Option Blk)) (n j : Nat), uget (updsNew σ n H) j = if n ≤ j then ((H[j - n]?).join).map (fun b => some (b.mapId σ)) else none
  | [], n, j => by simp [updsNew, uget]
  | some b :: H, n, j => by
    simp only [updsNew, uget, uget_updsNew σ H (n + 1) j]
    by_cases e : n = j
    · subst e; rw [if_neg (by omega)]; simp
    · by_cases e2 : n ≤ j
      · rw [if_pos (by omega), if_pos e2, if_neg e, show j - n = (j - (n + 1)) + 1 by omega]
        simp only [List.getElem?_cons_succ]
        cases ((H[j - (n + 1)]?).join) <;> rfl
      · rw [if_neg (by omega), if_neg e2, if_neg e]
  | none :: H, n, j => by
    simp only [updsNew, uget_updsNew σ H (n + 1) j]
    by_cases e : n = j
    · subst e; rw [if_neg (by omega)]; simp
    · by_cases e2 : n ≤ j
      · rw [if_pos (by omega), if_pos e2, show j - n = (j - (n + 1)) + 1 by omega]
        simp only [List.getElem?_cons_succ]
      · rw [if_neg (by omega), if_neg e2]
theorem heap3 {h : Heap} {l S : List Nat} {σ : Nat → Option Nat} {H D : List (Option Blk)} {new : Nat} (hn : S.Nodup) (j : Nat) :
    hget (applyU h (frz h l ++ updsAt σ S H ++ updsNew σ new D)) j = match (if new ≤ j then (D[j - new]?).join else none) with
      | some B => some (B.mapId σ)
      | none => match idxIn S j with
        | some k => ((H[k]?).join).map (Blk.mapId σ)
        | none => hget (applyU h (frz h l)) j := by
  rw [hget_applyU, uget_append, uget_updsNew, uget_append, uget_updsAt σ S H j hn]
  by_cases e : new ≤ j
  · rw [if_pos e, if_pos e]
    cases (D[j - new]?).join with
    | some B => rfl
    | none =>
      simp only [Option.map_none]
      cases idxIn S j with
      | some k => rfl
      | none => simp only; rw [hget_applyU]
  · rw [if_neg e, if_neg e]
    simp only
    cases idxIn S j with
    | some k => rfl
    | none => simp only; rw [hget_applyU]

section
variable {P : Program} {w : World} {O : Nat → Option Nat} {M F : Nat → Prop} {h : Heap}

def OS (O : Nat → Option Nat) (S : List Nat) (j : Nat) : Option Nat := match S[j]? with | some i => O i | none => none

theorem call_core (hI : Inv w O M F h) {new : Nat} (hfree : ∀ id, new ≤ id → id < new + stride → O id = none ∧ hget h id = none) {S l : List Nat} (hS : S.Nodup) (hSl : ∀ i ∈ S, ∃ B, hget h i = some B)
    (hl : ∀ id ∈ l, ∃ cs, hget h id = some (.row cs) ∨ hget h id = some (.froz cs)) (hdis : ∀ i ∈ S, i ∉ l) {f : Nat} {args : List PV} {cs : List Value} {r : PV} {H : List (Option Blk)} (hv : VRs w (OS O S) (Less O F l) args cs)
    (hf : FSpec P f args (S.map fun i => (hget h i).map (Blk.mapId (idxIn S))) r H) (hlen : H.length ≤ S.length + stride) :
    Calls P f cs.toArray w (fun e w' => ∃ v, e = .returned v ∧ After w O M F h new (new + stride) (r.mapId (sigS S new H.length)) (applyU h (frz h l ++ updsAt (sigS S new H.length) S H ++ updsNew (sigS S new H.length) new (H.drop S.length))) v w') := by
  have hI1 := hI.freezeIds hl
  have hSne : ∀ i ∈ S, ∀ b, O i = some b → ∀ id ∈ l, O id ≠ some b := by
    intro i hi b hb id hid hO
    obtain ⟨B, hB⟩ := hSl i hi
    obtain ⟨c, hc⟩ := hl id hid
    rcases hc with hc | hc
    · have := hI.inj i id b _ _ hB hc hb hO; subst this; exact hdis _ hi hid
    · have := hI.inj i id b _ _ hB hc hb hO; subst this; exact hdis _ hi hid
  have hOS : ∀ (i j : Nat), idxIn S i = some j → ∀ b, O i = some b → OS O S j = some b := by
    intro i j hij b hb
    unfold OS; rw [idxIn_get hij]; exact hb
  have hget_c : ∀ j B, hget (heapOf 0 (S.map fun i => (hget h i).map (Blk.mapId (idxIn S)))) j = some B → ∃ i B0, S[j]? = some i ∧ hget h i = some B0 ∧ B = B0.mapId (idxIn S) := by
    intro j B hB
    rw [hget_heapOf0] at hB
    simp only [List.getElem?_map] at hB
    cases hq : S[j]? with
    | none => rw [hq] at hB; simp at hB
    | some i =>
      rw [hq] at hB
      obtain ⟨B0, hB0⟩ := hSl i (List.mem_of_getElem? hq)
      simp [hB0] at hB
      exact ⟨i, B0, rfl, hB0, hB.symm⟩
  have hIc : Inv w (OS O S) (fun b => M b ∧ ∃ i ∈ S, O i = some b) (Less O F l) (heapOf 0 (S.map fun i => (hget h i).map (Blk.mapId (idxIn S)))) := by
    refine ⟨fun j B hB => ?_, fun b q => hI.mlt b q.1, fun b q => ⟨hI.sub b q.1, ?_⟩, fun j1 j2 b B C hB hC h1 h2 => ?_⟩
    · obtain ⟨i, B0, hi, hB0, rfl⟩ := hget_c j B hB
      exact (hI.blk i B0 hB0).mapId (by unfold OS; rw [hi]) hOS (fun b hb hM => ⟨hM, i, List.mem_of_getElem? hi, hb⟩) (fun b _ q => q.1)
    · obtain ⟨i, hi, hb⟩ := q.2
      exact hSne i hi b hb
    · obtain ⟨i1, B1, e1, g1, _⟩ := hget_c j1 B hB
      obtain ⟨i2, B2, e2, g2, _⟩ := hget_c j2 C hC
      unfold OS at h1 h2
      rw [e1] at h1; rw [e2] at h2
      have := hI.inj i1 i2 b _ _ g1 g2 h1 h2
      subst this
      have q1 := idxIn_of_get hS e1
      have q2 := idxIn_of_get hS e2
      rw [q1] at q2; cases q2; rfl
  refine (hf w (OS O S) _ (Less O F l) cs hv hIc (fun id hid => ?_)).mono ?_
  · simp at hid
    unfold OS; rw [List.getElem?_eq_none hid]
  rintro e w' ⟨v, rfl, O2, M2, F2, g1, g2, g3, g4, g5, g6, g7, g8⟩
  refine ⟨v, rfl, ?_⟩
  simp only [List.length_map] at g4
  -- what of the callee's blocks lies where
  have hO2S : ∀ j i, S[j]? = some i → O2 j = O i := fun j i hj => by
    have hlt : j < S.length := (List.getElem?_eq_some_iff.1 hj).1
    rw [g4 j hlt]; unfold OS; rw [hj]
  let O3 : Nat → Option Nat := fun id => if new ≤ id ∧ id < new + (H.length - S.length) then O2 (S.length + (id - new)) else O id
  have hO3new : ∀ id, new ≤ id → id < new + (H.length - S.length) → O3 id = O2 (S.length + (id - new)) := fun id a b => by simp only [O3]; rw [if_pos ⟨a, b⟩]
  have hO3old : ∀ id, ¬ (new ≤ id ∧ id < new + (H.length - S.length)) → O3 id = O id := fun id a => by simp only [O3]; rw [if_neg a]
  have hlive : ∀ id B, hget h id = some B → ¬ (new ≤ id ∧ id < new + (H.length - S.length)) := fun id B hB q => by
    have := (hfree id q.1 (by omega)).2
    rw [this] at hB; cases hB
  have hext : ∀ id b, O id = some b → O3 id = some b := fun id b hb => by
    rw [hO3old]
    · exact hb
    · intro q
      have := (hfree id q.1 (by omega)).1
      rw [this] at hb; cases hb
  have hσ : ∀ j id, sigS S new H.length j = some id → ∀ b, O2 j = some b → O3 id = some b := by
    intro j id hj b hb
    unfold sigS at hj
    split at hj
    · next hlt =>
      rw [hO2S j id hj] at hb
      exact hext id b hb
    · next hge =>
      split at hj
      · next hlt2 =>
        cases hj
        rw [hO3new _ (by omega) (by omega)]
        rw [show S.length + (new + (j - S.length) - new) = j by omega]; exact hb
      · cases hj
  have hF : ∀ b, b < w.heap.size → F2 b → Less O F l b := g5
  have hM3 : ∀ b, b < w.heap.size → M2 b → M b := fun b hb q => (g6 b hb q).1
  let M3 : Nat → Prop := fun b => (Less O M l b ∧ ¬ ∃ i ∈ S, O i = some b) ∨ M2 b
  have hstpF : Stp (fun b => M b ∧ ∃ i ∈ S, O i = some b) w w' := g3
  -- a block of the new state: the callee's, or one of before
  have hcase : ∀ id B, hget (applyU h (frz h l ++ updsAt (sigS S new H.length) S H ++ updsNew (sigS S new H.length) new (H.drop S.length))) id = some B →
      (∃ j B0, hget (heapOf 0 H) j = some B0 ∧ B = B0.mapId (sigS S new H.length) ∧ sigS S new H.length j = some id ∧ O3 id = O2 j) ∨
      (id ∉ S ∧ ¬ (new ≤ id ∧ id < new + stride) ∧ hget (applyU h (frz h l)) id = some B) := by
    intro id B hB
    rw [heap3 hS] at hB
    have old : (match idxIn S id with | some k => ((H[k]?).join).map (Blk.mapId (sigS S new H.length)) | none => hget (applyU h (frz h l)) id) = some B → (∃ j B0, hget (heapOf 0 H) j = some B0 ∧ B = B0.mapId (sigS S new H.length) ∧ sigS S new H.length j = some id ∧ O3 id = O2 j) ∨
      (id ∉ S ∧ ¬ (new ≤ id ∧ id < new + stride) ∧ hget (applyU h (frz h l)) id = some B) := by
      intro hB
      cases hq : idxIn S id with
      | some k =>
        rw [hq] at hB
        simp only at hB
        have hk := idxIn_get hq
        have hklt : k < S.length := (List.getElem?_eq_some_iff.1 hk).1
        cases hj : (H[k]?).join with
        | none => rw [hj] at hB; cases hB
        | some B0 =>
          rw [hj] at hB; simp at hB
          obtain ⟨B1, hB1⟩ := hSl id (List.mem_of_getElem? hk)
          refine .inl ⟨k, B0, by rw [hget_heapOf0]; exact hj, hB.symm, by unfold sigS; rw [if_pos hklt]; exact hk, ?_⟩
          rw [hO3old id (hlive id B1 hB1), hO2S k id hk]
      | none =>
        rw [hq] at hB
        simp only at hB
        refine .inr ⟨idxIn_none hq, fun q => ?_, hB⟩
        obtain ⟨D, hD⟩ := frz_live hB
        have := (hfree id q.1 q.2).2
        rw [this] at hD; cases hD
    by_cases e : new ≤ id
    · rw [if_pos e] at hB
      cases hj : ((H.drop S.length)[id - new]?).join with
      | none => rw [hj] at hB; exact old hB
      | some B0 =>
        rw [hj] at hB
        simp only [Option.some.injEq] at hB
        have hj' : (H[S.length + (id - new)]?).join = some B0 := by rw [← hj, List.getElem?_drop]
        have hlt : S.length + (id - new) < H.length := by
          rcases Nat.lt_or_ge (S.length + (id - new)) H.length with q | q
          · exact q
          · rw [List.getElem?_eq_none q] at hj'; cases hj'
        refine .inl ⟨S.length + (id - new), B0, by rw [hget_heapOf0]; exact hj', hB.symm, ?_, ?_⟩
        · unfold sigS
          rw [if_neg (by omega), if_pos hlt]
          congr 1; omega
        · exact hO3new id e (by omega)
    · rw [if_neg e] at hB
      exact old hB
  refine ⟨O3, M3, F2, VR.mapId hσ g1, ⟨⟨fun id B hB => ?_, fun b q => g2.mlt b q, fun b q => ?_, fun id1 id2 b B C hB hC h1 h2 => ?_⟩, g3.mono (fun b _ q => q.1), hext, fun id q => ?_, fun id q hid => ?_, fun b hb q => (hF b hb q).1, fun b hb q => ?_, fun b q1 q2 => ?_, fun id b B hB hb => ?_⟩⟩
  · rcases hcase id B hB with ⟨j, B0, k1, rfl, k3, k4⟩ | ⟨k1, k2, k3⟩
    · exact (g2.blk j B0 k1).mapId k4 hσ (fun b _ q => .inr q) (fun _ _ q => q)
    · have a1 : ∀ b, (M b ∧ ∃ i ∈ S, O i = some b) → Less O F l b := by
        rintro b ⟨q1, i, hi, hO⟩
        exact ⟨hI.sub b q1, hSne i hi b hO⟩
      have a2 : ∀ b, O id = some b → ¬ ∃ i ∈ S, O i = some b := by
        rintro b hb ⟨i, hi, hO⟩
        obtain ⟨D, hD⟩ := frz_live k3
        obtain ⟨B1, hB1⟩ := hSl i hi
        have := hI.inj i id b _ _ hB1 hD hO hb
        subst this; exact k1 hi
      have a3 : O id = none → O3 id = none := fun q => by
        rw [hO3old id (fun q' => k2 ⟨q'.1, by omega⟩)]; exact q
      exact BR.step hstpF a1 hext hF (fun b hb => ⟨fun q => a2 b hb q.2, fun q => .inl ⟨q, a2 b hb⟩⟩) a3 (hI1.blk id B k3)
  · rcases q with ⟨q1, q2⟩ | q
    · exact g7 b ⟨hI.sub b q1.1, q1.2⟩ (fun q' => q2 q'.2)
    · exact g2.sub b q
  · -- blocks apart
    have hold : ∀ id B b, id ∉ S → ¬ (new ≤ id ∧ id < new + stride) → hget (applyU h (frz h l)) id = some B → O3 id = some b → b < w.heap.size ∧ ∀ j B0, hget (heapOf 0 H) j = some B0 → O2 j ≠ some b := by
      intro id B b k1 k2 k3 hb
      rw [hO3old id (fun q => k2 ⟨q.1, by omega⟩)] at hb
      have hlt := (hI1.blk id B k3).lt hb
      refine ⟨hlt, fun j B0 hj hO => ?_⟩
      obtain ⟨D, hD⟩ := frz_live k3
      rcases g8 j b B0 hj hO with q | ⟨j0, C0, q1, q2⟩
      · omega
      · obtain ⟨i, B1, e1, e2, _⟩ := hget_c j0 C0 q1
        unfold OS at q2; rw [e1] at q2
        have := hI.inj i id b _ _ e2 hD q2 hb
        subst this; exact k1 (List.mem_of_getElem? e1)
    rcases hcase id1 B hB with ⟨j1, B1, k1, _, k3, k4⟩ | ⟨k1, k2, k3⟩
    · rcases hcase id2 C hC with ⟨j2, B2, p1, _, p3, p4⟩ | ⟨p1, p2, p3⟩
      · rw [k4] at h1; rw [p4] at h2
        have := g2.inj j1 j2 b _ _ k1 p1 h1 h2
        subst this
        rw [k3] at p3; cases p3; rfl
      · rw [k4] at h1
        exact absurd h1 ((hold id2 C b p1 p2 p3 h2).2 j1 B1 k1)
    · rcases hcase id2 C hC with ⟨j2, B2, p1, _, p3, p4⟩ | ⟨p1, p2, p3⟩
      · rw [p4] at h2
        exact absurd h2 ((hold id1 B b k1 k2 k3 h1).2 j2 B2 p1)
      · rw [hO3old id1 (fun q => k2 ⟨q.1, by omega⟩)] at h1
        rw [hO3old id2 (fun q => p2 ⟨q.1, by omega⟩)] at h2
        exact hI1.inj id1 id2 b _ _ k3 p3 h1 h2
  · exact hO3old id (fun q' => q ⟨q'.1, by omega⟩)
  · cases hg : hget (applyU h (frz h l ++ updsAt (sigS S new H.length) S H ++ updsNew (sigS S new H.length) new (H.drop S.length))) id with
    | none => rfl
    | some B =>
      rcases hcase id B hg with ⟨j, B0, k1, _, k3, k4⟩ | ⟨k1, k2, k3⟩
      · unfold sigS at k3
        split at k3
        · obtain ⟨B1, hB1⟩ := hSl id (List.mem_of_getElem? k3)
          rw [hB1] at hid; cases hid
        · split at k3
          · cases k3; exact absurd ⟨by omega, by omega⟩ q
          · cases k3
      · obtain ⟨D, hD⟩ := frz_live k3
        rw [hD] at hid; cases hid
  · rcases q with q | q
    · exact q.1.1
    · exact hM3 b hb q
  · exact g7 b (less_keeps hI hl q1 q2) (fun q => q2 q.1)
  · rcases hcase id B hB with ⟨j, B0, k1, _, k3, k4⟩ | ⟨k1, k2, k3⟩
    · rw [k4] at hb
      rcases g8 j b B0 k1 hb with q | ⟨j0, C0, q1, q2⟩
      · exact .inl q
      · obtain ⟨i, B1, e1, e2, _⟩ := hget_c j0 C0 q1
        unfold OS at q2; rw [e1] at q2
        exact .inr ⟨i, B1, e2, q2⟩
    · obtain ⟨D, hD⟩ := frz_live k3
      rw [hO3old id (fun q => k2 ⟨q.1, by omega⟩)] at hb
      exact .inr ⟨id, D, hD, hb⟩
end
end Go.Proofs.YtklanpanmndakaaEv

/- Calls; regions. -/
set_option linter.unusedVariables false
set_option linter.unusedSimpArgs false
namespace Go.Proofs.YtklanpanmndakaaEv
section
variable {P : Program} {w : World} {O : Nat → Option Nat} {M F : Nat → Prop} {h : Heap}

theorem sigS_nil (new n : Nat) : sigS [] new n = sigN new n := by
  funext j; unfold sigS sigN; simp
theorem updsAt_nil (σ : Nat → Option Nat) (H : List (Option Blk)) : updsAt σ [] H = [] := by cases H <;> rfl

theorem doCall_sound {cf : CF} (hcf : CFok P cf) (hI : Inv w O M F h) {new : Nat} (hfree : ∀ id, new ≤ id → id < new + stride → O id = none ∧ hget h id = none) {f : Nat} {borrow : Bool} {raw : List Bool} {vs : List PV} {cs : List Value} {r : PV} {u : Upd}
    (hv : VRs w O F vs cs) (hd : doCall cf new h f borrow raw vs = some (r, u)) :
    Callable P f ∧ Calls P f cs.toArray w (fun e w' => ∃ v, e = .returned v ∧ After w O M F h new (new + stride) r (applyU h u) v w') := by
  have hl := rows_live (h := h) raw vs
  have hargs := args_sound hI (F' := Less O F (rowsOf h raw vs)) (fun b _ q => q.1) raw vs cs hv (fun id hid b hb q => q.2 id hid hb)
  unfold doCall at hd
  simp only at hd
  split at hd
  · next hids =>
    have hcl := closedL_of_ids hids
    cases hc : cf f (argsOf h raw vs) [] with
    | none => rw [hc] at hd; cases hd
    | some p =>
      obtain ⟨r0, H⟩ := p
      rw [hc] at hd
      simp only at hd
      have hf := hcf _ _ _ _ _ hc
      split at hd
      · split at hd
        · next hsc =>
          cases hd
          refine ⟨hf.1, (hf.2 w (fun _ => none) (fun _ => False) (Less O F (rowsOf h raw vs)) cs (VRs.reo hargs hcl) ⟨fun id B hB => by simp [heapOf, hget] at hB, fun b q => hI.mlt b q.1, fun b q => q.elim, fun i j b B C hB => by simp [heapOf, hget] at hB⟩ (fun _ _ => rfl)).mono ?_⟩
          rintro e w' ⟨v, rfl, O2, M2, F2, g1, g2, g3, _⟩
          exact ⟨v, rfl, O, M, F, VR.ofScalar g1 hsc, Nxt.draws hI g3 _ _⟩
        · cases hd
      · split at hd
        · next hlen =>
          cases hd
          have hv2 : VRs w (OS O []) (Less O F (rowsOf h raw vs)) (argsOf h raw vs) cs := VRs.reo hargs hcl
          have := call_core hI hfree (S := []) (by simp) (by simp) hl (by simp) hv2 (by simpa using hf.2) (by simpa using hlen)
          rw [sigS_nil, updsAt_nil] at this
          exact ⟨hf.1, by simpa using this⟩
        · cases hd
  · next is hids =>
    split at hd
    · cases hd
    · split at hd
      · cases hd
      · next hdis =>
        split at hd
        · cases hd
        · next r0 H hc =>
          have hf := hcf _ _ _ _ _ hc
          split at hd
          · next hlen =>
            cases hd
            obtain ⟨k1, k2, k3⟩ := reach_spec h 100 (idsL (argsOf h raw vs)) [] (by simp)
            have hSl : ∀ i ∈ reach h 100 (idsL (argsOf h raw vs)) [], ∃ B, hget h i = some B := fun i hi => (k2 i hi).elim (fun q => by simp at q) id
            refine ⟨hf.1, call_core hI hfree (S := reach h 100 (idsL (argsOf h raw vs)) []) k1 hSl hl (fun i hi q => ?_) (VRs.mapId (fun i j hij b hb => by unfold OS; rw [idxIn_get hij]; exact hb) hargs) hf.2 hlen⟩
            apply hdis
            rw [List.any_eq_true]
            exact ⟨i, q, by simpa using hi⟩
          · cases hd

theorem callFunc_run {f : Nat} (hc : Callable P f) (args : Array Value) (w : World) : (callFunc f args).run P w = .ok (.enter f args) w := by
  obtain ⟨fn, c, h1, h2, h3⟩ := hc
  have h3' : ¬ fn.name = "runtime.NumGoroutine" := by simpa using h3
  simp [callFunc, h1, h2, h3']

variable {o : Oper} {ρ : Operand → Value} {e : X → PV}
theorem s_call {raws : Nat → List Bool} {cf : CF} (hcf : CFok P cf) (hI : Inv w O M F h) (hρ : ∀ x y, copX x = some y → VR w O F (e y) (ρ x)) (hρf : ∀ f, ρ (.func f) = .func (.func f) #[] #[]) {new : Nat} (hfree : ∀ id, new ≤ id → id < new + stride → O id = none ∧ hget h id = none)
    {k : K} {r : PV} {u : Upd} (hk : copK P raws o = some k) (hc : k.isCall = true) {c : Call} (hop : o.op = .call c) (he : evalK cf k new e h = some (r, u)) : Res P o ρ w (After w O M F h new (new + stride) r (applyU h u)) := by
  · simp only [copK, hop] at hk
    split at hk
    · next f hcl =>
      simp only [Option.bind_eq_bind, Option.bind_eq_some_iff] at hk
      obtain ⟨fn, hfn, hk⟩ := hk
      split at hk
      · simp only [Option.bind_eq_some_iff] at hk
        obtain ⟨as, has, hk⟩ := hk; cases hk
        simp only [evalK] at he
        have hv := mapM_cop hρ has
        obtain ⟨hca, hcalls⟩ := doCall_sound hcf hI hfree hv he
        refine .inr (.inr ⟨f, (c.args.toList.map ρ).toArray, ?_, hcalls⟩)
        simp only [execOp, hop, resolve, hcl, hρf, Deferred.ofValue, Sem.run_bind]
        simp [invoke, callFunc_run hca, map_arr]
      · cases hk
    · next x hcl hnf =>
      simp only [Option.bind_eq_bind, Option.bind_eq_some_iff] at hk
      obtain ⟨x', hx, as, has, hk⟩ := hk; cases hk
      simp only [evalK] at he
      split at he
      · next g a b hg =>
        have hr := hρ _ _ hx
        rw [hg] at hr
        have hv := mapM_cop hρ has
        cases hq : ρ x <;> rw [hq] at hr <;> cases hr
        next fs cs k1 k2 =>
        obtain ⟨hca, hcalls⟩ := doCall_sound hcf hI hfree ((k1.append hv).append k2) he
        refine .inr (.inr ⟨g, (fs ++ c.args.toList.map ρ ++ cs).toArray, ?_, hcalls⟩)
        simp only [execOp, hop, resolve, hnf, hq, Deferred.ofValue, Sem.run_bind]
        simp [invoke, callFunc_run hca, map_arr]
      · cases he
    · split at hk
      · split at hk
        · simp only [Option.bind_eq_bind, Option.bind_eq_some_iff] at hk
          obtain ⟨x', hx, hk⟩ := hk; cases hk; simp [K.isCall] at hc
        · simp only [Option.bind_eq_bind, Option.bind_eq_some_iff] at hk
          obtain ⟨x', hx, hk⟩ := hk; cases hk; simp [K.isCall] at hc
        · cases hk
      · cases hk
    · split at hk
      · split at hk
        · simp only [Option.bind_eq_bind, Option.bind_eq_some_iff] at hk
          obtain ⟨x', hx, hk⟩ := hk; cases hk; simp [K.isCall] at hc
        · cases hk
      · cases hk
    · split at hk
      · split at hk
        · simp only [Option.bind_eq_bind, Option.bind_eq_some_iff] at hk
          obtain ⟨s, hs, i, hi, z, hz, hk⟩ := hk
          split at hk
          · simp only [Option.bind_eq_some_iff] at hk
            obtain ⟨x', hx, y', hy, hk⟩ := hk; cases hk; simp [K.isCall] at hc
          · cases hk
        · simp only [Option.bind_eq_bind, Option.bind_eq_some_iff] at hk
          obtain ⟨s, hs, i, hi, z, hz, hk⟩ := hk
          split at hk
          · simp only [Option.bind_eq_some_iff] at hk
            obtain ⟨x', hx, y', hy, hk⟩ := hk; cases hk; simp [K.isCall] at hc
          · cases hk
        · simp only [Option.bind_eq_bind, Option.bind_eq_some_iff] at hk
          obtain ⟨s, hs, i, hi, z, hz, hk⟩ := hk
          split at hk
          · simp only [Option.bind_eq_some_iff] at hk
            obtain ⟨x', hx, y', hy, hk⟩ := hk; cases hk; simp [K.isCall] at hc
          · cases hk
        · cases hk
      · cases hk
    · split at hk
      · split at hk
        · simp only [Option.bind_eq_bind, Option.bind_eq_some_iff] at hk
          obtain ⟨s, hs, hk⟩ := hk
          split at hk
          · simp only [Option.bind_eq_some_iff] at hk
            obtain ⟨x', hx, y', hy, hk⟩ := hk; cases hk; simp [K.isCall] at hc
          · cases hk
        · cases hk
      · cases hk
    · simp only [Option.bind_eq_bind, Option.bind_eq_some_iff] at hk
      obtain ⟨xs, hx, hk⟩ := hk; cases hk; simp [K.isCall] at hc
    · simp only [Option.bind_eq_bind, Option.bind_eq_some_iff] at hk
      obtain ⟨xs, hx, hk⟩ := hk; cases hk; simp [K.isCall] at hc
    · cases hk
end
end Go.Proofs.YtklanpanmndakaaEv

/- Code as the evaluator's; one operation after the other. -/
set_option linter.unusedVariables false
set_option linter.unusedSimpArgs false
namespace Go.Proofs.YtklanpanmndakaaEv

def isCallOp : Go.Op → Bool
  | .call _ => true
  | _ => false
def copOp (P : Program) (raws : Nat → List Bool) (ops : Array Oper) (o : Oper) : Option Op :=
  match copK P raws o with
  | none => none
  | some k => if k.isCall && !isCallOp o.op then none else
    match o.guard with
    | none => some ⟨o.dst, k, none⟩
    | some (j, want) => match (ops[j]?).bind (·.dst) with
      | some t => some ⟨o.dst, k, some (t, want)⟩
      | none => none

/-- where a call began -/
structure Base where
  w0 : World
  O0 : Nat → Option Nat
  M0 : Nat → Prop
  F0 : Nat → Prop
  k0 : Nat
  h0 : Heap

structure CX (B : Base) (s : St) (Fr : Nat → Prop) (a : Act) (w : World) (O : Nat → Option Nat) (M F : Nat → Prop) : Prop where
  df : a.defers = []
  tr : VRs w O F s.tmps a.tmps.toList
  inv : Inv w O M F s.heap
  fresh : ∀ id, Fr id → O id = none ∧ hget s.heap id = none
  k0 : s.k0 = B.k0
  kn : ∀ id, Fr id → B.k0 ≤ id
  stp : Stp B.M0 B.w0 w
  keep : ∀ id, id < B.k0 → O id = B.O0 id
  less : ∀ b, b < B.w0.heap.size → F b → B.F0 b
  lessM : ∀ b, b < B.w0.heap.size → M b → B.M0 b
  keepF : ∀ b, B.F0 b → ¬ B.M0 b → F b
  prov : ∀ id b C, hget s.heap id = some C → O id = some b → B.w0.heap.size ≤ b ∨ ∃ j D, hget B.h0 j = some D ∧ B.O0 j = some b
  mlt0 : ∀ b, B.F0 b → b < B.w0.heap.size
def CG (B : Base) (s : St) (Fr : Nat → Prop) (a : Act) (w : World) : Prop := ∃ O M F, CX B s Fr a w O M F
def CI (B : Base) (s : St) (n : Nat) (a : Act) (w : World) : Prop := CG B s (fun id => n ≤ id) a w
theorem CG.mono {B : Base} {s : St} {Fr Fr' : Nat → Prop} {a : Act} {w : World} (h : CG B s Fr a w) (hf : ∀ id, Fr' id → Fr id) : CG B s Fr' a w := by
  obtain ⟨O, M, F, c⟩ := h
  exact ⟨O, M, F, c.df, c.tr, c.inv, fun id q => c.fresh id (hf id q), c.k0, fun id q => c.kn id (hf id q), c.stp, c.keep, c.less, c.lessM, c.keepF, c.prov, c.mlt0⟩

section
variable {P : Program} {raws : Nat → List Bool} {B : Base} {cf : CF}

theorem put_list (a : Act) (d : Option Tmp) (v : Value) : (a.put d v).tmps.toList = (match d with | some d => a.tmps.toList.set d v | none => a.tmps.toList) ∧ (a.put d v).defers = a.defers := by
  cases d <;> simp [Act.put]
theorem VRs.put {w : World} {O : Nat → Option Nat} {F : Nat → Prop} {ts : List PV} {a : Act} {d : Option Nat} {r : PV} {v : Value} (h : VRs w O F ts a.tmps.toList) (hv : VR w O F r v) : VRs w O F (setOpt ts d r) (a.put d v).tmps.toList := by
  rw [(put_list a d v).1]
  cases d with
  | none => exact h
  | some d => exact h.set d hv

/-- on from an operation -/
theorem CX.on {s : St} {Fr : Nat → Prop} {n : Nat} {a : Act} {w : World} {O : Nat → Option Nat} {M F : Nat → Prop} (hc : CX B s Fr a w O M F) (hR : ∀ id, n ≤ id → id < n + stride → Fr id) {d : Option Nat} {r : PV} {h' : Heap} {v : Value} {w' : World} (ha : After w O M F s.heap n (n + stride) r h' v w') :
    CG B { s with tmps := setOpt s.tmps d r, heap := h' } (fun id => Fr id ∧ ¬ (n ≤ id ∧ id < n + stride)) (a.put d v) w' := by
  obtain ⟨O', M', F', h1, h2⟩ := ha
  refine ⟨O', M', F', ?_⟩
  have hlt0 := hc.stp.size
  refine ⟨(put_list a d v).2.trans hc.df, (VRs.step (h2.stp.mono (fun b _ q => hc.inv.sub b q)) h2.ext h2.less hc.tr).put h1, h2.inv, fun id hid => ?_, hc.k0, fun id hid => hc.kn id hid.1, hc.stp.trans h2.stp hc.lessM, fun id hid => ?_, fun b hb q => hc.less b hb (h2.less b (Nat.lt_of_lt_of_le hb hlt0) q), fun b hb q => hc.lessM b hb (h2.lessM b (Nat.lt_of_lt_of_le hb hlt0) q), fun b q1 q2 => h2.keepF b (hc.keepF b q1 q2) (fun q => q2 (hc.lessM b (hc.mlt0 b q1) q)), fun id b C hC hb => ?_, hc.mlt0⟩
  · have := hc.fresh id hid.1
    exact ⟨(h2.out id hid.2).trans this.1, h2.hout id hid.2 this.2⟩
  · rw [h2.out id (fun q => ?_)]
    · exact hc.keep id hid
    · have := hc.kn id (hR id q.1 q.2); omega
  · rcases h2.prov id b C hC hb with q | ⟨j, D, q1, q2⟩
    · exact .inl (by omega)
    · exact hc.prov j b D q1 q2
theorem CX.skip {s : St} {Fr : Nat → Prop} {n : Nat} {a : Act} {w : World} {O : Nat → Option Nat} {M F : Nat → Prop} (hc : CX B s Fr a w O M F) (hR : ∀ id, n ≤ id → id < n + stride → Fr id) (d : Option Nat) : CG B { s with tmps := setOpt s.tmps d (.tup []) } (fun id => Fr id ∧ ¬ (n ≤ id ∧ id < n + stride)) (a.put d undef) w :=
  hc.on hR (d := d) (h' := s.heap) ⟨O, M, F, VR.tup (vs := []) .nil, Nxt.of_same hc.inv _ _⟩

theorem eval_const (a : Act) (v : Value) : a.eval (.const v) = v := rfl
theorem eval_func (a : Act) (f : Nat) : a.eval (.func f) = .func (.func f) #[] #[] := rfl

theorem wanted_sound {s : St} {a : Act} {w : World} {O : Nat → Option Nat} {F : Nat → Prop} {ops : Array Oper} {o : Oper} {op : Op} {b : Bool} (htr : VRs w O F s.tmps a.tmps.toList) (hop : copOp P raws ops o = some op) (hw : wantedO s op = some b) : Region.wanted o (yielded ops a.tmps) = b := by
  unfold copOp at hop
  cases hk : copK P raws o with
  | none => rw [hk] at hop; cases hop
  | some k =>
    rw [hk] at hop
    simp only at hop
    split at hop
    · cases hop
    · cases hg : o.guard with
      | none =>
        rw [hg] at hop; cases hop
        simp [wantedO] at hw; subst hw
        simp [Region.wanted, hg]
      | some p =>
        obtain ⟨j, want⟩ := p
        rw [hg] at hop
        simp only at hop
        cases ht : (ops[j]?).bind (·.dst) with
        | none => rw [ht] at hop; cases hop
        | some t =>
          rw [ht] at hop; cases hop
          simp only [wantedO] at hw
          simp only [Region.wanted, hg, yielded, ht, Option.bind_some]
          cases hq : s.tmps[t]? with
          | none => simp [List.getD_eq_getElem?_getD, hq] at hw
          | some p =>
            obtain ⟨v, h1, h2⟩ := htr.get hq
            simp only [List.getD_eq_getElem?_getD, hq, Option.getD_some] at hw
            have h1' : a.tmps[t]? = some v := by simpa using h1
            rw [h1']
            cases p <;> simp at hw
            next c =>
              cases h2
              simp only
              subst hw
              cases c <;> cases want <;> rfl
            next c =>
              cases h2
              subst hw
              rfl

theorem stepOp_sound (hcf : CFok P cf) {s s' : St} {n : Nat} {a : Act} {w : World} {ops : Array Oper} {o : Oper} {op : Op} (hop : copOp P raws ops o = some op) (hs : stepOp cf s n op = some s') {Fr : Nat → Prop} (hc : CG B s Fr a w) (hR : ∀ id, n ≤ id → id < n + stride → Fr id) (Q : Exit → Act → World → Prop) :
    if Region.wanted o (yielded ops a.tmps) then o.wp P a w (CG B s' (fun id => Fr id ∧ ¬ (n ≤ id ∧ id < n + stride))) Q else CG B s' (fun id => Fr id ∧ ¬ (n ≤ id ∧ id < n + stride)) (a.put o.dst undef) w := by
  obtain ⟨O, M, F, hc⟩ := hc
  unfold stepOp at hs
  cases hw : wantedO s op with
  | none => rw [hw] at hs; cases hs
  | some b =>
    rw [hw] at hs
    have hwd := wanted_sound hc.tr hop hw
    have hop0 := hop
    unfold copOp at hop
    cases hk : copK P raws o with
    | none => rw [hk] at hop; cases hop
    | some k =>
      rw [hk] at hop
      simp only at hop
      split at hop
      · cases hop
      · next hcall =>
        have hok : op.k = k ∧ op.dst = o.dst := by
          cases hg : o.guard with
          | none => rw [hg] at hop; cases hop; exact ⟨rfl, rfl⟩
          | some p =>
            obtain ⟨j, want⟩ := p
            rw [hg] at hop
            simp only at hop
            cases ht : (ops[j]?).bind (·.dst) with
            | none => rw [ht] at hop; cases hop
            | some t => rw [ht] at hop; cases hop; exact ⟨rfl, rfl⟩
        obtain ⟨hkk, hdd⟩ := hok
        cases b with
        | false =>
          simp only at hs
          cases hs
          rw [hwd]
          simp only [Bool.false_eq_true, if_false]
          rw [hdd]
          exact hc.skip hR o.dst
        | true =>
          simp only at hs
          rw [hwd]
          simp only [if_true]
          cases he : evalK cf op.k n s.val s.heap with
          | none => rw [he] at hs; cases hs
          | some p =>
            obtain ⟨r, u⟩ := p
            rw [he] at hs
            simp only at hs
            cases hs
            rw [hkk] at he
            have hρ : ∀ x y, copX x = some y → VR w O F (s.val y) (a.eval x) := fun x y hx => TR.val ⟨hc.tr⟩ hx
            have hres : Res P o a.eval w (After w O M F s.heap n (n + stride) r (applyU s.heap u)) := by
              cases hcl : k.isCall with
              | false => exact opSound hc.inv hρ (hc.fresh n (hR n (Nat.le_refl _) (stride_pos _))) (eval_const a) hk hcl he
              | true =>
                rw [hcl] at hcall
                simp at hcall
                cases hopp : o.op <;> rw [hopp] at hcall <;> simp [isCallOp] at hcall
                exact s_call hcf hc.inv hρ (eval_func a) (fun id h1 h2 => hc.fresh id (hR id h1 h2)) hk hcl hopp he
            refine hres.wp fun v w' hv => ?_
            rw [hdd]
            exact hc.on hR hv

theorem stepOps_next {cf : CF} : ∀ (l : List Op) (s s' : St) (n : Nat), stepOps cf s n l = some s' → s'.next = n + stride * l.length
  | [], s, s', n, h => by simp [stepOps] at h; subst h; simp
  | o :: l, s, s', n, h => by
    simp only [stepOps] at h
    cases hs : stepOp cf s n o with
    | none => rw [hs] at h; cases h
    | some s1 =>
      rw [hs] at h
      have := stepOps_next l s1 s' (n + stride) h
      rw [this]; simp [Nat.mul_add]; omega

theorem seqOps (hcf : CFok P cf) (ops : Array Oper) (Q : Exit → Act → World → Prop) (s' : St) (hQ : ∀ a w, CI B s' s'.next a w → Q .normal a w) : ∀ (rest : List Op) (k : Nat) (s : St) (n : Nat) (a : Act) (w : World), (ops.toList.drop k).mapM (copOp P raws ops) = some rest →
    stepOps cf s n rest = some s' → CI B s n a w → wpOps P ops Q (List.range' k rest.length) a w
  | [], k, s, n, a, w, hm, hs, hc => by
    simp [stepOps] at hs; subst hs
    simp only [List.length_nil, List.range'_zero, wpOps]
    obtain ⟨O, M, F, c⟩ := hc
    exact hQ a w ⟨O, M, F, c.df, c.tr, c.inv, c.fresh, c.k0, c.kn, c.stp, c.keep, c.less, c.lessM, c.keepF, c.prov, c.mlt0⟩
  | op :: rest, k, s, n, a, w, hm, hs, hc => by
    have hlt : k < ops.toList.length := by
      rcases Nat.lt_or_ge k ops.toList.length with q | q
      · exact q
      · rw [List.drop_eq_nil_of_le q] at hm; simp at hm
    rw [List.drop_eq_getElem_cons hlt, List.mapM_cons] at hm
    cases h1 : copOp P raws ops ops.toList[k] with
    | none => rw [h1] at hm; cases hm
    | some op' =>
      cases h2 : (ops.toList.drop (k + 1)).mapM (copOp P raws ops) with
      | none => rw [h1, h2] at hm; cases hm
      | some rest' =>
        rw [h1, h2] at hm; cases hm
        simp only [stepOps] at hs
        cases hst : stepOp cf s n op with
        | none => rw [hst] at hs; cases hs
        | some s1 =>
          rw [hst] at hs
          simp only at hs
          have hlt' : k < ops.size := by simpa using hlt
          have hget : ops[k]? = some ops.toList[k] := by simp [hlt']
          simp only [List.length_cons, List.range'_succ, wpOps, hget]
          have hsd := stepOp_sound (B := B) hcf h1 hst hc (fun id h _ => h) Q
          split
          · next hw =>
            rw [hw] at hsd
            simp only [if_true] at hsd
            exact .inl (Oper.wp_mono (fun a' w' hc' => seqOps hcf ops Q s' hQ rest (k + 1) s1 (n + stride) a' w' h2 hs (hc'.mono (fun id hid => ⟨by omega, by omega⟩))) hsd)
          · next hw =>
            simp only [Bool.not_eq_true] at hw
            rw [hw] at hsd
            simp only [Bool.false_eq_true, if_false] at hsd
            exact seqOps hcf ops Q s' hQ rest (k + 1) s1 (n + stride) _ w h2 hs (hsd.mono (fun id hid => ⟨by omega, by omega⟩))
end
end Go.Proofs.YtklanpanmndakaaEv

/- States cut to what is live; what a function hands back. -/
set_option linter.unusedVariables false
set_option linter.unusedSimpArgs false
namespace Go.Proofs.YtklanpanmndakaaEv
section
variable {P : Program} {B : Base}

theorem VRs.setL {w : World} {O : Nat → Option Nat} {F : Nat → Prop} : ∀ {ts : List PV} {cs : List Value} (i : Nat) {p : PV}, VRs w O F ts cs → (∀ v, cs[i]? = some v → VR w O F p v) → VRs w O F (ts.set i p) cs
  | _, _, _, _, .nil, _ => by simpa using VRs.nil
  | _, _, 0, _, .cons h t, k => .cons (k _ (by simp)) t
  | _, _, i + 1, _, .cons h t, k => .cons h (VRs.setL i t (fun v hv => k v (by simpa using hv)))

/-- a nil slice is an own row -/
theorem Inv.nilRow {w : World} {O : Nat → Option Nat} {M F : Nat → Prop} {h : Heap} {n : Nat} (hI : Inv w O M F h) (hn : O n = none ∧ hget h n = none) : Inv w O M F (hset h n (.row [])) := by
  refine ⟨fun id B hB => ?_, hI.mlt, hI.sub, fun i j b C D hC hD hi hj => ?_⟩
  · rw [hget_hset] at hB
    split at hB
    · next q => subst q; cases hB; exact .inl ⟨rfl, hn.1⟩
    · exact hI.blk id B hB
  · rw [hget_hset] at hC hD
    split at hC
    · next q => subst q; rw [hn.1] at hi; cases hi
    · split at hD
      · next q => subst q; rw [hn.1] at hj; cases hj
      · exact hI.inj i j b C D hC hD hi hj

theorem promote1_sound {s : St} {a : Act} {w : World} (p : Nat × Option Nat × Nat) (hc : CI B s s.next a w) : CI B (promote1 s p) (promote1 s p).next a w := by
  obtain ⟨O, M, F, c⟩ := hc
  have hself : CI B s s.next a w := ⟨O, M, F, c⟩
  unfold promote1
  split
  · next e1 e2 =>
    have hnew := c.fresh s.next (Nat.le_refl _)
    refine ⟨O, M, F, c.df, c.tr.setL _ (fun v hv => ?_), c.inv.nilRow hnew, fun id hid => ?_, c.k0, fun id hid => c.kn id (by simp only at hid ⊢; omega), c.stp, c.keep, c.less, c.lessM, c.keepF, fun id b C hC hb => ?_, c.mlt0⟩
    · obtain ⟨q, q1, q2⟩ := c.tr.get' hv
      rw [List.getD_eq_getElem?_getD, q1] at e1
      simp at e1; subst e1
      rw [q2.nil_inv]; exact .ownEmpty _ _ _ _
    · have := c.fresh id (by simp at hid; omega)
      exact ⟨this.1, by rw [hget_hset, if_neg (by simp at hid; omega)]; exact this.2⟩
    · rw [hget_hset] at hC
      split at hC
      · next q => subst q; rw [hnew.1] at hb; cases hb
      · exact c.prov id b C hC hb
  · next id o off e1 e2 =>
    cases hB : hget s.heap id with
    | none => exact hself
    | some Bk =>
      cases Bk with
      | box cs =>
        simp only
        split
        · next e3 =>
          have hnew := c.fresh s.next (Nat.le_refl _)
          obtain ⟨b, cc, el, fz, h1, h2, h3, h4, h5, h6⟩ := c.inv.blk _ _ hB
          have hI2 : Inv w O M F (hset s.heap id (.box (cs.set (o + off) (.own s.next p.2.2 0 0)))) := by
            have hbr : BR w O M F id (.box (cs.set (o + off) (.own s.next p.2.2 0 0))) := by
              refine ⟨b, cc, el, fz, h1, h2, h3, h4, h5.setL _ (fun v hv => ?_), h6⟩
              obtain ⟨q, q1, q2⟩ := h5.get' hv
              rw [e3] at q1; cases q1
              rw [q2.nil_inv]; exact .ownEmpty _ _ _ _
            exact (Inv.write (n1 := 0) (n2 := 0) c.inv (Stp.refl _ w) hB h1 h2 hbr).inv
          have hne : id ≠ s.next := by rintro rfl; rw [hnew.2] at hB; cases hB
          have hnew2 : O s.next = none ∧ hget (hset s.heap id (.box (cs.set (o + off) (.own s.next p.2.2 0 0)))) s.next = none := ⟨hnew.1, by rw [hget_hset, if_neg hne]; exact hnew.2⟩
          refine ⟨O, M, F, c.df, c.tr, hI2.nilRow hnew2, fun i hid => ?_, c.k0, fun id hid => c.kn id (by simp only at hid ⊢; omega), c.stp, c.keep, c.less, c.lessM, c.keepF, fun i b' C hC hb => ?_, c.mlt0⟩
          · simp only at hid
            have := c.fresh i (by omega)
            refine ⟨this.1, ?_⟩
            rw [hget_hset, if_neg (by omega), hget_hset, if_neg]
            · exact this.2
            · rintro rfl; rw [this.2] at hB; cases hB
          · rw [hget_hset] at hC
            split at hC
            · next q => subst q; rw [hnew.1] at hb; cases hb
            · rw [hget_hset] at hC
              split at hC
              · next q => subst q; exact c.prov _ b' _ hB hb
              · exact c.prov i b' C hC hb
        · exact hself
      | row cs => exact hself
      | froz cs => exact hself
      | mp cs => exact hself
  · exact hself
theorem promote_sound {a : Act} {w : World} : ∀ (l : List (Nat × Option Nat × Nat)) (s : St), CI B s s.next a w → CI B (promote s l) (promote s l).next a w
  | [], s, h => h
  | p :: l, s, h => promote_sound l _ (promote1_sound p h)

theorem keepT_sound {w : World} {O O' : Nat → Option Nat} {F : Nat → Prop} {σ : Nat → Option Nat} (lv : List Nat) (hσ : ∀ i j, σ i = some j → ∀ b, O i = some b → O' j = some b) : ∀ (n : Nat) (ts : List PV) (cs : List Value), VRs w O F ts cs → VRs w O' F (keepT σ lv n ts) cs
  | n, [], _, h => by cases h; exact .nil
  | n, t :: ts, _, .cons h1 h2 => by
    simp only [keepT]
    refine .cons ?_ (keepT_sound lv hσ (n + 1) ts _ h2)
    split
    · exact VR.mapId hσ h1
    · exact .undef _

/-- numbers told anew: what stays -/
theorem renum {w : World} {O : Nat → Option Nat} {M F : Nat → Prop} {h : Heap} (hI : Inv w O M F h) {S : List Nat} (hS : S.Nodup) :
    Inv w (OS O S) (fun b => M b ∧ ∃ i ∈ S, O i = some b) F (heapOf 0 (S.map fun i => (hget h i).map (Blk.mapId (idxIn S)))) ∧ (∀ i j, idxIn S i = some j → ∀ b, O i = some b → OS O S j = some b) ∧
    (∀ id, S.length ≤ id → OS O S id = none ∧ hget (heapOf 0 (S.map fun i => (hget h i).map (Blk.mapId (idxIn S)))) id = none) ∧
    (∀ id C, hget (heapOf 0 (S.map fun i => (hget h i).map (Blk.mapId (idxIn S)))) id = some C → ∃ i D, S[id]? = some i ∧ hget h i = some D ∧ OS O S id = O i) := by
  have hOS : ∀ (i j : Nat), idxIn S i = some j → ∀ b, O i = some b → OS O S j = some b := by
    intro i j hij b hb
    unfold OS; rw [idxIn_get hij]; exact hb
  have hget_c : ∀ j C, hget (heapOf 0 (S.map fun i => (hget h i).map (Blk.mapId (idxIn S)))) j = some C → ∃ i B0, S[j]? = some i ∧ hget h i = some B0 ∧ C = B0.mapId (idxIn S) := by
    intro j C hC
    rw [hget_heapOf0] at hC
    simp only [List.getElem?_map] at hC
    cases hq : S[j]? with
    | none => rw [hq] at hC; simp at hC
    | some i =>
      rw [hq] at hC
      cases hB0 : hget h i with
      | none => simp [hB0] at hC
      | some B0 => simp [hB0] at hC; exact ⟨i, B0, rfl, hB0, hC.symm⟩
  refine ⟨⟨fun j C hC => ?_, hI.mlt, fun b q => hI.sub b q.1, fun j1 j2 b C D hC hD h1 h2 => ?_⟩, hOS, fun id hid => ⟨by unfold OS; rw [List.getElem?_eq_none hid], ?_⟩, fun id C hC => ?_⟩
  · obtain ⟨i, B0, hi, hB0, rfl⟩ := hget_c j C hC
    exact (hI.blk i B0 hB0).mapId (by unfold OS; rw [hi]) hOS (fun b hb hM => ⟨hM, i, List.mem_of_getElem? hi, hb⟩) (fun b _ q => q)
  · obtain ⟨i1, B1, e1, g1, _⟩ := hget_c j1 C hC
    obtain ⟨i2, B2, e2, g2, _⟩ := hget_c j2 D hD
    unfold OS at h1 h2
    rw [e1] at h1; rw [e2] at h2
    have := hI.inj i1 i2 b _ _ g1 g2 h1 h2
    subst this
    have q1 := idxIn_of_get hS e1
    have q2 := idxIn_of_get hS e2
    rw [q1] at q2; cases q2; rfl
  · rw [hget_heapOf0, List.getElem?_eq_none (by simpa using hid)]; rfl
  · obtain ⟨i, B0, hi, hB0, _⟩ := hget_c id C hC
    exact ⟨i, B0, hi, hB0, by unfold OS; rw [hi]⟩

theorem range_prefix {k : Nat} {S : List Nat} (h : List.range k <+: S) {id : Nat} (hid : id < k) : S[id]? = some id := by
  obtain ⟨r, rfl⟩ := h
  rw [List.getElem?_append_left (by simpa using hid)]
  simp [hid]

theorem canonS_sound (lv : List Nat) (pro : List (Nat × Option Nat × Nat)) {s : St} {a : Act} {w : World} (hc : CI B s s.next a w) : CI B (canonS lv pro s) (canonS lv pro s).next a w := by
  obtain ⟨O, M, F, c⟩ := promote_sound pro s hc
  have hnd : (List.range (promote s pro).k0).Nodup := List.nodup_range
  obtain ⟨k1, k2, k3⟩ := reach_spec (promote s pro).heap 100 (keptIds (promote s pro).heap (promote s pro).k0 ++ liveIds lv 0 (promote s pro).tmps) _ hnd
  obtain ⟨g1, g2, g3, g4⟩ := renum c.inv k1
  refine ⟨_, _, F, c.df, keepT_sound lv g2 0 _ _ c.tr, g1, g3, c.k0, ?_, c.stp, fun id hid => ?_, c.less, fun b hb q => c.lessM b hb q.1, c.keepF, fun id b C hC hb => ?_, c.mlt0⟩
  · intro id hid
    have := k3.length_le
    simp at this
    have hk := c.k0
    have hid' : (reach (promote s pro).heap 100 (keptIds (promote s pro).heap (promote s pro).k0 ++ liveIds lv 0 (promote s pro).tmps) (List.range (promote s pro).k0)).length ≤ id := hid
    omega
  · have hk := c.k0
    have : (reach (promote s pro).heap 100 (keptIds (promote s pro).heap (promote s pro).k0 ++ liveIds lv 0 (promote s pro).tmps) (List.range (promote s pro).k0))[id]? = some id := range_prefix k3 (by omega)
    unfold OS; rw [this]
    exact c.keep id hid
  · obtain ⟨i, D, q1, q2, q3⟩ := g4 id C hC
    rw [q3] at hb
    exact c.prov i b D q2 hb

def copRV (P : Program) : ResultVar → Option RV
  | .tmp t => some (.t t)
  | .cell a t => match aggT P t, szT P t with
    | some g, some s => if g = true ∨ s = 1 then some (.cell a g s) else none
    | _, _ => none

/-- a result, as the program takes it -/
def resOf (a : Act) : ResultVar → Sem Value
  | .tmp t => pure (a.tmps.getD t undef)
  | .cell b t => do loadVar t (← asAddr (a.tmps.getD b undef))
theorem resVs_sound {s : St} {a : Act} {w : World} {O : Nat → Option Nat} {M F : Nat → Prop} (hI : Inv w O M F s.heap) (htr : VRs w O F s.tmps a.tmps.toList) : ∀ (rs : List ResultVar) (rvs : List RV) (vs : List PV), rs.mapM (copRV P) = some rvs → resVs s rvs = some vs →
    ∃ cs, (rs.mapM (resOf a)).run P w = .ok cs w ∧ VRs w O F vs cs
  | [], rvs, vs, h1, h2 => by simp at h1; subst h1; simp [resVs] at h2; subst h2; exact ⟨[], by simp, .nil⟩
  | r :: rs, rvs, vs, h1, h2 => by
    rw [List.mapM_cons] at h1
    cases hr : copRV P r with
    | none => rw [hr] at h1; cases h1
    | some rv =>
      cases hrs : rs.mapM (copRV P) with
      | none => rw [hr, hrs] at h1; cases h1
      | some rvs' =>
        rw [hr, hrs] at h1; cases h1
        simp only [resVs] at h2
        cases hv : resV s rv with
        | none => rw [hv] at h2; cases h2
        | some p =>
          cases hvs : resVs s rvs' with
          | none => rw [hv, hvs] at h2; cases h2
          | some ps =>
            rw [hv, hvs] at h2; cases h2
            obtain ⟨cs, k1, k2⟩ := resVs_sound hI htr rs rvs' ps hrs hvs
            have htmp : ∀ t, VR w O F (s.val (.t t)) (a.tmps.getD t undef) := fun t => TR.val (s := s) (a := a) ⟨htr⟩ (x := .tmp t) rfl
            cases r with
            | tmp t =>
              simp [copRV] at hr; subst hr
              simp [resV] at hv; subst hv
              refine ⟨_ :: cs, ?_, .cons (htmp t) k2⟩
              simp [List.mapM_cons, k1, resOf]
            | cell b t =>
              simp only [copRV] at hr
              cases hg : aggT P t with
              | none => rw [hg] at hr; cases hr
              | some g =>
                cases hz : szT P t with
                | none => rw [hg, hz] at hr; cases hr
                | some z =>
                  rw [hg, hz] at hr
                  simp only at hr
                  split at hr
                  · next h1 =>
                    cases hr
                    simp only [resV] at hv
                    split at hv
                    · next v u he =>
                      cases hv
                      obtain ⟨_, bb, off, v, q1, q2, q3⟩ := load_core (P := P) (v0 := .undef) hI hg hz h1 (htmp b) he
                      refine ⟨v :: cs, ?_, .cons q3 k2⟩
                      simp [List.mapM_cons, k1, resOf, q1, asAddr, q2]
                    · cases hv
                  · cases hr
end
end Go.Proofs.YtklanpanmndakaaEv

