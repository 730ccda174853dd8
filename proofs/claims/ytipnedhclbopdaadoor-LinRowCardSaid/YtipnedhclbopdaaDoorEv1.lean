/- General words (1): an evaluator of the model's code, and that what it answers the model answers. -/
import Derived.Test.YtipnedhclbopdaaDoorEv0
import Derived.DeepKeys
import Derived.Laws.StructEq
import Derived.Laws.Small
import Derived.Laws.Pointers
import Derived.WalkSpells
import Derived.Lib.SliceRun
import Derived.Laws.Slices
import Derived.Deep.AppendSrc
import Derived.Deep.Upon
import Derived.Laws.IdiomStrings
import Derived.Laws.BytesString
import Derived.Great.BuildSlice
/- Each operation of the program comes to what the evaluator says. -/
set_option linter.unusedVariables false
set_option linter.unusedSimpArgs false
namespace Go.Proofs.YtipnedhclbopdaaDoorEv

def Res (P : Program) (o : Oper) (ρ : Operand → Value) (w : World) (Φ : Value → World → Prop) : Prop :=
  (∃ v w', (execOp ρ o).run P w = .ok (.value v) w' ∧ Φ v w') ∨ (∃ w', (execOp ρ o).run P w = .ok .skip w' ∧ Φ undef w') ∨
  (∃ f args, (execOp ρ o).run P w = .ok (.enter f args) w ∧ Calls P f args w (fun e w' => ∃ v, e = .returned v ∧ Φ v w'))

def After (w : World) (O : Nat → Option Nat) (M F : Nat → Prop) (h : Heap) (n1 n2 : Nat) (r : PV) (h' : Heap) (v : Value) (w' : World) : Prop :=
  ∃ O' M' F', VR w' O' F' r v ∧ Nxt w O M F h n1 n2 w' O' M' F' h'

theorem conc_inv {w : World} {O : Nat → Option Nat} {F : Nat → Prop} {p : PV} {c v : Value} (hc : conc p = some v) (h : VR w O F p c) : c = v := by
  cases h <;> simp [conc] at hc <;> exact hc
theorem map_arr {α β : Type} (f : α → β) (a : Array α) : (a.toList.map f).toArray = a.map f := by rw [← Array.toList_map, Array.toArray_toList]
section
variable {P : Program} {o : Oper} {ρ : Operand → Value} {w : World} {O : Nat → Option Nat} {M F : Nat → Prop} {h : Heap} {n1 n2 : Nat} {e : X → PV} {cf : CF} {u : Upd}
  (hI : Inv w O M F h) (hρ : ∀ x y, copX x = some y → VR w O F (e y) (ρ x))

theorem Res.val {v w' Φ} (hr : (execOp ρ o).run P w = .ok (.value v) w') (hΦ : Φ v w') : Res P o ρ w Φ := .inl ⟨v, w', hr, hΦ⟩
theorem Res.wp {a : Act} {Φ : Value → World → Prop} {next : Act → World → Prop} {Q : Exit → Act → World → Prop} (hr : Res P o a.eval w Φ) (hn : ∀ v w', Φ v w' → next (a.put o.dst v) w') : o.wp P a w next Q := by
  unfold Oper.wp
  rcases hr with ⟨v, w', h1, h2⟩ | ⟨w', h1, h2⟩ | ⟨f, args, h1, h2⟩
  · rw [h1]; exact hn _ _ h2
  · rw [h1]; exact hn _ _ h2
  · rw [h1]
    refine Calls.mono h2 ?_
    rintro e w' ⟨v, rfl, hv⟩
    exact hn _ _ hv
include hI in
theorem Res.pure {v r} (hr : (execOp ρ o).run P w = .ok (.value v) w) (hv : VR w O F r v) : Res P o ρ w (After w O M F h n1 n2 r h) :=
  .val hr ⟨O, M, F, hv, Nxt.of_same hI _ _⟩

include hI hρ
theorem s_mv {x : Operand} {y : X} (ho : o.op = .move x ∨ o.op = .assign x) (hx : copX x = some y) : Res P o ρ w (After w O M F h n1 n2 (e y) h) := by
  refine .pure hI (v := ρ x) ?_ (hρ _ _ hx)
  rcases ho with ho | ho <;> simp [execOp, ho]
theorem s_pick {x y z : Operand} {x' y' z' : X} (ho : o.op = .pick x y z) (hx : copX x = some x') (hy : copX y = some y') (hz : copX z = some z') {b : Bool} (hb : e x' = .bool b) :
    Res P o ρ w (After w O M F h n1 n2 (if b then e y' else e z') h) := by
  have h1 := hρ _ _ hx
  rw [hb] at h1
  cases hq : ρ x with
  | bool b' =>
    rw [hq] at h1; cases h1
    cases b
    · refine .pure hI (v := ρ z) ?_ (by simpa using hρ _ _ hz); simp [execOp, ho, hq, asBool]
    · refine .pure hI (v := ρ y) ?_ (by simpa using hρ _ _ hy); simp [execOp, ho, hq, asBool]
  | _ => rw [hq] at h1; cases h1
omit hρ hI in
theorem pure_of {s : Sem Value} {r : PV} (h : pureOf s = some r) : ∃ v, s = .pure v ∧ valOf v = some r := by
  cases s <;> simp [pureOf] at h
  exact ⟨_, rfl, h⟩
omit hI hρ in
theorem eqGuard_ok (op : BinOp) (t : TypeId) (x y : Operand) (a b : Value) (h1 : a ≠ .nilIface) (h2 : ∀ c, a ≠ .agg c) : (eqGuard op t x y a b).run P w = .ok () w := by
  unfold eqGuard
  cases op <;> first | rfl | (cases a <;> first | (exact absurd rfl h1) | (exact absurd rfl (h2 _)) | (cases b <;> rfl))
theorem s_bin {op : BinOp} {t t' : TypeId} {x y : Operand} {x' y' : X} {r : PV} (ho : o.op = .binOp op t x y t') (hx : copX x = some x') (hy : copX y = some y') (hr : binV op (e x') (e y') = some r) :
    Res P o ρ w (After w O M F h n1 n2 r h) := by
  have h1 := hρ _ _ hx
  have h2 := hρ _ _ hy
  have key : ∀ (a b : Value), ρ x = a → ρ y = b → a ≠ .nilIface → (∀ c, a ≠ .agg c) → (∀ t, binOp op t a b = binOp op 0 a b) → pureOf (binOp op 0 a b) = some r → Res P o ρ w (After w O M F h n1 n2 r h) := by
    intro a b ha hb hn1 hn2 ht hp
    obtain ⟨v, hv, hv2⟩ := pure_of hp
    refine .pure hI (v := v) ?_ (VR.valOf hv2).1
    simp only [execOp, ho, ha, hb, Sem.run_bind, eqGuard_ok op t x y a b hn1 hn2, Result.andThen_ok, ht t, hv]
    rfl
  unfold binV at hr
  split at hr
  · next k a k' b ea eb =>
    rw [ea] at h1; rw [eb] at h2
    cases hq : ρ x <;> rw [hq] at h1 <;> cases h1
    cases hq2 : ρ y <;> rw [hq2] at h2 <;> cases h2
    exact key _ _ hq hq2 (by simp) (by simp) (fun t => by cases op <;> simp [binOp]) hr
  · next a b ea eb =>
    rw [ea] at h1; rw [eb] at h2
    cases hq : ρ x <;> rw [hq] at h1 <;> cases h1
    cases hq2 : ρ y <;> rw [hq2] at h2 <;> cases h2
    exact key _ _ hq hq2 (by simp) (by simp) (fun t => by cases op <;> simp [binOp]) hr
  · next k a k' b ea eb =>
    rw [ea] at h1; rw [eb] at h2
    cases hq : ρ x <;> rw [hq] at h1 <;> cases h1
    cases hq2 : ρ y <;> rw [hq2] at h2 <;> cases h2
    exact key _ _ hq hq2 (by simp) (by simp) (fun t => by cases op <;> simp [binOp]) hr
  · cases hr
theorem s_un {op : UnOp} {t : TypeId} {x : Operand} {x' : X} {r : PV} (ho : o.op = .unOp op t x) (hx : copX x = some x') (hr : unV op (e x') = some r) : Res P o ρ w (After w O M F h n1 n2 r h) := by
  have h1 := hρ _ _ hx
  unfold unV at hr
  cases hc : conc (e x') with
  | none => rw [hc] at hr; cases hr
  | some v =>
    rw [hc] at hr
    have hv : ρ x = v := conc_inv hc h1
    obtain ⟨u, hu, hu2⟩ := pure_of hr
    refine .pure hI (v := u) ?_ (VR.valOf hu2).1
    simp only [execOp, ho, hv, hu, Sem.run_bind]
    rfl
theorem s_eqB {op : BinOp} {neg : Bool} {t t' : TypeId} {x y : Operand} {x' y' : X} {a b : Bool} (hop : op = if neg then .neq else .eql) (ht : P.underlying t = some .bool) (ho : o.op = .binOp op t x y t')
    (hx : copX x = some x') (hy : copX y = some y') (ha : e x' = .bool a) (hb : e y' = .bool b) : Res P o ρ w (After w O M F h n1 n2 (.bool (if neg then !(a == b) else a == b)) h) := by
  have h1 := hρ _ _ hx
  have h2 := hρ _ _ hy
  rw [ha] at h1; rw [hb] at h2
  cases hq : ρ x <;> rw [hq] at h1 <;> cases h1
  cases hq2 : ρ y <;> rw [hq2] at h2 <;> cases h2
  refine .pure hI ?_ (.bool _)
  subst hop
  cases neg
  · simp only [execOp, ho, hq, hq2, Sem.run_bind, eqGuard_ok _ _ _ _ (.bool a) (.bool b) (by simp) (by simp), Result.andThen_ok]
    simp [run_eql_bool, ht]
  · simp only [execOp, ho, hq, hq2, Sem.run_bind, eqGuard_ok _ _ _ _ (.bool a) (.bool b) (by simp) (by simp), Result.andThen_ok]
    simp [run_neq_bool, ht]
theorem s_conv {a b : TypeId} {k k' : IntKind} {x : Operand} {x' : X} {n : Int} (ha : P.underlying a = some (.int k')) (hb : P.underlying b = some (.int k)) (ho : o.op = .convert a b x) (hx : copX x = some x') {k2 : IntKind} (hv : e x' = .int k2 n) :
    Res P o ρ w (After w O M F h n1 n2 (.int k (k.wrap n)) h) := by
  have h1 := hρ _ _ hx
  rw [hv] at h1
  cases hq : ρ x <;> rw [hq] at h1 <;> cases h1
  refine .pure hI ?_ (.int _ _)
  simp [execOp, ho, hq, convert, run_underlying ha, run_underlying hb, Conv.intToInt]
theorem s_convS {a b : TypeId} {x : Operand} {x' : X} (ha : P.underlying a = some .string) (hb : P.underlying b = some .string) (ho : o.op = .convert a b x) (hx : copX x = some x') {s : ByteArray} (hv : e x' = .str s) :
    Res P o ρ w (After w O M F h n1 n2 (.str s) h) := by
  have h1 := hρ _ _ hx
  rw [hv] at h1
  cases hq : ρ x <;> rw [hq] at h1 <;> cases h1
  refine .pure hI ?_ (.str _)
  simp [execOp, ho, hq, convert, run_underlying ha, run_underlying hb]
theorem s_nilck {x : Operand} {x' : X} {r : PV} (ho : o.op = .nilCheck x) (hx : copX x = some x') (hr : evalK cf (.nilck x') n1 e h = some (r, u)) : u = [] ∧ Res P o ρ w (After w O M F h n1 n2 r h) := by
  have h1 := hρ _ _ hx
  simp only [evalK] at hr
  split at hr
  · next id off ea =>
    cases hr; rw [ea] at h1
    refine ⟨rfl, ?_⟩
    cases hq : ρ x <;> rw [hq] at h1 <;> cases h1
    refine .pure hI ?_ (.ptr ‹_› ‹_›)
    simp [execOp, ho, hq]
  · next xs ea =>
    cases hr; rw [ea] at h1
    refine ⟨rfl, ?_⟩
    cases hq : ρ x <;> rw [hq] at h1 <;> cases h1
    refine .pure hI ?_ (.rop ‹_› ‹_› ‹_› ‹_› ‹_› ‹_›)
    simp [execOp, ho, hq]
  · next v0 ea =>
    cases hr; rw [ea] at h1
    refine ⟨rfl, ?_⟩
    cases hq : ρ x <;> rw [hq] at h1 <;> cases h1
    refine .pure hI ?_ (.cp ‹_› ‹_› ‹_› ‹_› ‹_›)
    simp [execOp, ho, hq]
  · next f a b ea =>
    cases hr; rw [ea] at h1
    refine ⟨rfl, ?_⟩
    cases hq : ρ x <;> rw [hq] at h1 <;> cases h1
    refine .pure hI ?_ (.fn ‹_› ‹_›)
    simp [execOp, ho, hq]
  · cases hr
theorem s_mkfunc {f : Nat} {a b : Array Operand} {a' b' : List X} (ho : o.op = .makeFunc (.func f) a b) (ha : a.toList.mapM copX = some a') (hb : b.toList.mapM copX = some b') :
    Res P o ρ w (After w O M F h n1 n2 (.fn f (a'.map e) (b'.map e)) h) := by
  have h1 := mapM_cop hρ ha
  have h2 := mapM_cop hρ hb
  refine .pure hI ?_ (.fn h1 h2)
  simp only [execOp, ho, Instr.makeFunc, map_arr]
  rfl
theorem s_ext {x : Operand} {x' : X} {i : Nat} {vs : List PV} {r : PV} (ho : o.op = .extract x i) (hx : copX x = some x') (hv : e x' = .tup vs) (hr : vs[i]? = some r) : Res P o ρ w (After w O M F h n1 n2 r h) := by
  have h1 := hρ _ _ hx
  rw [hv] at h1
  cases hq : ρ x <;> rw [hq] at h1 <;> cases h1
  next cs hh =>
  obtain ⟨v, q1, q2⟩ := hh.get hr
  refine .pure hI (v := v) ?_ q2
  simp [execOp, ho, hq, Instr.extract, q1]
theorem s_index {x i : Operand} {x' i' : X} {t : TypeId} {s : ByteArray} {k : IntKind} {n : Int} {b : UInt8} (ht : P.underlying t = some .string) (ho : o.op = .index t x i) (hx : copX x = some x') (hi : copX i = some i') (hv : e x' = .str s) (hn : e i' = .int k n)
    (h0 : 0 ≤ n) (hb : s[n.toNat]? = some b) : Res P o ρ w (After w O M F h n1 n2 (.int .u8 b.toNat) h) := by
  have h1 := hρ _ _ hx
  have h2 := hρ _ _ hi
  rw [hv] at h1; rw [hn] at h2
  cases hq : ρ x <;> rw [hq] at h1 <;> cases h1
  cases hq2 : ρ i <;> rw [hq2] at h2 <;> cases h2
  refine .pure hI ?_ (.int _ _)
  simp [execOp, ho, hq, hq2, Instr.index, asIntOf, run_underlying ht, h0, hb]
end
end Go.Proofs.YtipnedhclbopdaaDoorEv

/- Structs compared; variables made, read, written; places in them. -/
set_option linter.unusedVariables false
set_option linter.unusedSimpArgs false
namespace Go.Proofs.YtipnedhclbopdaaDoorEv

theorem cellsEq_append : ∀ (a b c d : List PV), a.length = c.length → cellsEq (a ++ b) (c ++ d) = match cellsEq a c, cellsEq b d with | some p, some q => some (p && q) | _, _ => none
  | [], b, [], d, _ => by simp only [List.nil_append, cellsEq]; cases cellsEq b d <;> simp
  | x :: a, b, y :: c, d, h => by
    simp only [List.cons_append, cellsEq, cellsEq_append a b c d (by simpa using h)]
    cases cellEq x y <;> cases cellsEq a c <;> cases cellsEq b d <;> simp [Bool.and_assoc]
  | [], b, _ :: _, d, h => by simp at h
  | _ :: _, b, [], d, h => by simp at h

theorem szT_agg {P : Program} {t : TypeId} {g : Bool} (h : aggT P t = some g) (w : World) (cs : Array Value) (off s : Nat) (hs : szT P t = some s) (hl : off + s ≤ cs.size) (h1 : g = true ∨ s = 1) :
    (part t cs off).run P w = .ok (if g then .agg (cs.extract off (off + s)) else cs.toList.getD off undef) w := by
  unfold part
  simp only [Sem.run_bind, run_isAgg_of h, Result.andThen_ok]
  cases g with
  | true => simp [run_sizeOf_of hs]
  | false =>
    have : s = 1 := by rcases h1 with q | q; cases q; exact q
    have hlt : off < cs.size := by omega
    simp [hlt]


theorem aggT_of {P : Program} {t : TypeId} : (∀ fs, P.underlying t = some (.struct fs) → aggT P t = some true) ∧ ((∃ k, P.underlying t = some (.int k)) ∨ P.underlying t = some .bool ∨ P.underlying t = some .string → aggT P t = some false) := by
  unfold aggT
  refine ⟨fun fs h => by rw [h], ?_⟩
  rintro (⟨k, h⟩ | h | h) <;> rw [h]

def cellVal (g : Bool) (xs : List Value) : Value := if g then .agg xs.toArray else xs.headD undef

theorem kind_int {p : PV} (h : kindOf p = 0) : ∃ k n, p = .int k n := by cases p <;> simp [kindOf] at h; exact ⟨_, _, rfl⟩
theorem kind_bool {p : PV} (h : kindOf p = 1) : ∃ b, p = .bool b := by cases p <;> simp [kindOf] at h; exact ⟨_, rfl⟩
theorem kind_str {p : PV} (h : kindOf p = 2) : ∃ b, p = .str b := by cases p <;> simp [kindOf] at h; exact ⟨_, rfl⟩

section
variable {P : Program} {w : World} {O : Nat → Option Nat} {M : Nat → Prop}
theorem cellsEq_one (p q : PV) : cellsEq [p] [q] = cellEq p q := by simp only [cellsEq]; cases cellEq p q <;> simp
theorem one_cell {asV : List PV} {xs : List Value} (h : VRs w O M asV xs) (h1 : asV.length = 1) : ∃ p a, asV = [p] ∧ xs = [a] ∧ VR w O M p a := by
  cases h with
  | nil => simp at h1
  | cons hd tl => cases tl with
    | nil => exact ⟨_, _, rfl, rfl, hd⟩
    | cons _ _ => simp at h1
theorem ksFs_len : ∀ {n : Nat} {fs : List Field} {off t : Nat}, (∀ t s, eqT P n t = true → szT P t = some s → (ksT P n t).length = s) → eqFs P n off fs = some t → off + (ksFs P n fs).length = t
  | n, [], off, t, _, h => by simp [eqFs, eqFsW] at h; simp [ksFs, ksFsW, h]
  | n, f :: fs, off, t, hT, h => by
    simp only [eqFs, eqFsW] at h
    split at h
    · next q =>
      cases hs : szT P f.type with
      | none => rw [hs] at h; cases h
      | some s =>
        rw [hs] at h
        have := ksFs_len hT h
        have h2 := hT _ _ q.2.2 hs
        simp only [ksFs] at this; simp [ksFs, ksFsW]; omega
    · cases h
theorem ksT_len : ∀ (n : Nat) (t : TypeId) (s : Nat), eqT P n t = true → szT P t = some s → (ksT P n t).length = s
  | 0, t, s, h, _ => by simp [eqT] at h
  | n + 1, t, s, h, hs => by
    unfold eqT at h
    unfold ksT
    split at h
    · next k hk => rw [hs] at h; simp at h; simp [h]
    · next hk => rw [hs] at h; simp at h; simp [h]
    · next hk => rw [hs] at h; simp at h; simp [h]
    · next fs hk =>
      simp [hs] at h
      have := ksFs_len (fun t s => ksT_len n t s) h.2
      simp only [ksFs] at this
      omega
    · cases h

theorem eqFs_sound {n : Nat} (hT : ∀ (t : TypeId) (s : Nat) (asV bs : List PV) (xs ys : List Value) (r g : Bool) (d : Nat), eqT P n t = true → szT P t = some s → aggT P t = some g → VRs w O M asV xs → VRs w O M bs ys → asV.length = s → bs.length = s → asV.map kindOf = ksT P n t → cellsEq asV bs = some r →
      (Op.equalIn (d + n) t (cellVal g xs) (cellVal g ys)).run P w = .ok r w) (d : Nat) : ∀ (fs : List Field) (off total : Nat) (A B : List PV) (X Y : Array Value) (r : Bool), eqFs P n off fs = some total → VRs w O M A X.toList → VRs w O M B Y.toList → A.length = total → B.length = total →
      (A.drop off).map kindOf = ksFs P n fs → cellsEq (A.drop off) (B.drop off) = some r → (Op.eqFields (d + n) X Y fs).run P w = .ok r w
  | [], off, total, A, B, X, Y, r, h, hA, hB, lA, lB, hk, hc => by
    simp [eqFs, eqFsW] at h
    have e1 : A.drop off = [] := List.drop_eq_nil_of_le (by omega)
    have e2 : B.drop off = [] := List.drop_eq_nil_of_le (by omega)
    rw [e1, e2] at hc; simp [cellsEq] at hc; subst hc
    rfl
  | f :: fs, off, total, A, B, X, Y, r, h, hA, hB, lA, lB, hk, hc => by
    have h' := h
    simp only [eqFs, eqFsW] at h
    split at h
    · next q =>
      obtain ⟨q1, q2, q3⟩ := q
      cases hs : szT P f.type with
      | none => rw [hs] at h; cases h
      | some s =>
        rw [hs] at h; simp only at h
        have hlen := ksFs_len (fun t s => ksT_len n t s) h
        have hks := ksT_len n f.type s q3 hs
        have lX := hA.length
        have lY := hB.length
        simp at lX lY
        have hle : off + s ≤ total := by omega
        have eA : A.drop off = (A.drop off).take s ++ A.drop (off + s) := by rw [← List.drop_drop, List.take_append_drop]
        have eB : B.drop off = (B.drop off).take s ++ B.drop (off + s) := by rw [← List.drop_drop, List.take_append_drop]
        have l1 : ((A.drop off).take s).length = s := by simp; omega
        have l2 : ((B.drop off).take s).length = s := by simp; omega
        rw [eA, eB, cellsEq_append _ _ _ _ (l1.trans l2.symm)] at hc
        rw [eA, List.map_append, ksFs, ksFsW] at hk
        obtain ⟨hk1, hk2⟩ := List.append_inj hk (by rw [List.length_map, l1, hks])
        cases hc1 : cellsEq ((A.drop off).take s) ((B.drop off).take s) with
        | none => rw [hc1] at hc; cases hc
        | some p =>
          cases hc2 : cellsEq (A.drop (off + s)) (B.drop (off + s)) with
          | none => rw [hc1, hc2] at hc; cases hc
          | some q' =>
            rw [hc1, hc2] at hc; simp at hc; subst hc
            have hg : ∃ g, aggT P f.type = some g ∧ (g = true ∨ s = 1) := by
              cases n with
              | zero => simp [eqT] at q3
              | succ n =>
                unfold eqT at q3
                split at q3
                · next k hk' => simp [hs] at q3; exact ⟨false, aggT_of.2 (.inl ⟨k, hk'⟩), .inr q3⟩
                · next hk' => simp [hs] at q3; exact ⟨false, aggT_of.2 (.inr (.inl hk')), .inr q3⟩
                · next hk' => simp [hs] at q3; exact ⟨false, aggT_of.2 (.inr (.inr hk')), .inr q3⟩
                · next fs' hk' => exact ⟨true, aggT_of.1 fs' hk', .inl rfl⟩
                · cases q3
            obtain ⟨g, hg1, hg2⟩ := hg
            have w1 := (hA.drop off).take s
            have w2 := (hB.drop off).take s
            have ev : ∀ (Z : Array Value), off + s ≤ Z.size → (part f.type Z off).run P w = .ok (cellVal g ((Z.toList.drop off).take s)) w := by
              intro Z hZ
              rw [szT_agg hg1 w Z off s hs hZ hg2]
              unfold cellVal
              cases g with
              | true => simp; congr 1; apply Array.ext'; simp [List.extract_eq_take_drop]
              | false =>
                have hs1 : s = 1 := by rcases hg2 with q | q; cases q; exact q
                subst hs1
                have hlt : off < Z.toList.length := by simp; omega
                simp only [Bool.false_eq_true, if_false]
                rw [List.drop_eq_getElem_cons hlt]
                simp [List.getD_eq_getElem?_getD, List.getElem?_eq_getElem hlt] at hlt ⊢
            have he := hT f.type s _ _ _ _ p g d q3 hs hg1 w1 w2 l1 l2 hk1 hc1
            have hrest := eqFs_sound hT d fs (off + s) total A B X Y q' h hA hB lA lB hk2 hc2
            simp only [Op.eqFields, ne_eq, q1, not_false_eq_true, if_true, Sem.run_bind, q2, ev X (by omega), ev Y (by omega), Result.andThen_ok, he]
            cases p with
            | true => simpa using hrest
            | false => rfl
    · cases h

theorem eqT_sound : ∀ (n : Nat) (t : TypeId) (s : Nat) (asV bs : List PV) (xs ys : List Value) (r g : Bool) (d : Nat), eqT P n t = true → szT P t = some s → aggT P t = some g → VRs w O M asV xs → VRs w O M bs ys → asV.length = s → bs.length = s → asV.map kindOf = ksT P n t → cellsEq asV bs = some r →
      (Op.equalIn (d + n) t (cellVal g xs) (cellVal g ys)).run P w = .ok r w
  | 0, t, s, asV, bs, xs, ys, r, g, d, h, _, _, _, _, _, _, _, _ => by simp [eqT] at h
  | n + 1, t, s, asV, bs, xs, ys, r, g, d, h, hs, hg, hA, hB, lA, lB, hk, hc => by
    have h0 := h
    unfold eqT at h
    unfold ksT at hk
    split at h
    · next k hk' =>
      simp [hs] at h; subst h
      rw [aggT_of.2 (.inl ⟨k, hk'⟩)] at hg; cases hg
      obtain ⟨p, a, rfl, rfl, hp⟩ := one_cell hA lA
      obtain ⟨q, b, rfl, rfl, hq⟩ := one_cell hB lB
      simp [hk'] at hk
      obtain ⟨k1, n1, rfl⟩ := kind_int hk
      rw [cellsEq_one] at hc
      cases q <;> simp [cellEq] at hc
      obtain ⟨rfl, rfl⟩ := hc
      cases hp; cases hq
      exact run_equalIn_int w _ t _ k _ _ hk'
    · next hk' =>
      simp [hs] at h; subst h
      rw [aggT_of.2 (.inr (.inl hk'))] at hg; cases hg
      obtain ⟨p, a, rfl, rfl, hp⟩ := one_cell hA lA
      obtain ⟨q, b, rfl, rfl, hq⟩ := one_cell hB lB
      simp [hk'] at hk
      obtain ⟨b1, rfl⟩ := kind_bool hk
      rw [cellsEq_one] at hc
      cases q <;> simp [cellEq] at hc
      subst hc
      cases hp; cases hq
      exact run_equalIn_bool w _ t _ _ hk'
    · next hk' =>
      simp [hs] at h; subst h
      rw [aggT_of.2 (.inr (.inr hk'))] at hg; cases hg
      obtain ⟨p, a, rfl, rfl, hp⟩ := one_cell hA lA
      obtain ⟨q, b, rfl, rfl, hq⟩ := one_cell hB lB
      simp [hk'] at hk
      obtain ⟨b1, rfl⟩ := kind_str hk
      rw [cellsEq_one] at hc
      cases q <;> simp [cellEq] at hc
      subst hc
      cases hp; cases hq
      exact run_equalIn_string w _ t _ _ hk'
    · next fs hk' =>
      simp [hs] at h
      rw [aggT_of.1 fs hk'] at hg; cases hg
      simp [hk'] at hk
      have hf : P.fieldsOf t = fs := by unfold Program.fieldsOf; rw [hk']
      have hrun := run_equalIn_struct (P := P) w (d + n) t xs.toArray ys.toArray (by rw [hf]; exact hk') (by simpa using h.1)
      show (Op.equalIn (d + n + 1) t (.agg xs.toArray) (.agg ys.toArray)).run P w = .ok r w
      rw [hrun, hf]
      exact eqFs_sound (eqT_sound n) d fs.toList 0 s asV bs xs.toArray ys.toArray r h.2 (by simpa using hA) (by simpa using hB) lA lB (by simpa using hk) (by simpa using hc)
    · cases h
end
end Go.Proofs.YtipnedhclbopdaaDoorEv

/- Variables made, read and written; places in them; slices made. -/
set_option linter.unusedVariables false
set_option linter.unusedSimpArgs false
namespace Go.Proofs.YtipnedhclbopdaaDoorEv

section
variable {w : World} {o : Nat → Option Nat} {F : Nat → Prop}
theorem VR.ptr_inv {id off c} (h : VR w o F (.ptr id off) c) : ∃ b, c = .pointer (some ⟨b, off, none⟩) ∧ o id = some b ∧ b < w.heap.size := by
  cases h; exact ⟨_, rfl, ‹_›, ‹_›⟩
theorem VR.rop_inv {xs v} (h : VR w o F (.rop xs) v) : ∃ b off c el fz vs, v = .pointer (some ⟨b, off, none⟩) ∧ ¬ F b ∧ w.heap[b]? = some (.cells c el fz) ∧ VRs w o F xs vs ∧ (∀ v ∈ vs, v.oneCell' = true) ∧ closedL xs = true ∧ vs <+: c.toList.drop off := by
  cases h; exact ⟨_, _, _, _, _, _, rfl, ‹_›, ‹_›, ‹_›, ‹_›, ‹_›, ‹_›⟩
theorem VR.cp_inv {x v} (h : VR w o F (.cp x) v) : ∃ b off c el fz u, v = .pointer (some ⟨b, off, none⟩) ∧ ¬ F b ∧ w.heap[b]? = some (.cells c el fz) ∧ VR w o F x u ∧ u.oneCell' = true ∧ [u] <+: c.toList.drop off := by
  cases h; exact ⟨_, _, _, _, _, _, rfl, ‹_›, ‹_›, ‹_›, ‹_›, ‹_›⟩
theorem VR.sl_inv {len tight xs v} (h : VR w o F (.sl len tight xs) v) : (∃ base cap, v = .slice base 0 cap ∧ len = 0 ∧ xs = [] ∧ (tight = true → cap = 0)) ∨
    ∃ b off cap c el fz vs, v = .slice (some ⟨b, off, none⟩) len cap ∧ ¬ F b ∧ w.heap[b]? = some (.cells c el fz) ∧ VRs w o F xs vs ∧ (∀ v ∈ vs, v.oneCell' = true) ∧ closedL xs = true ∧ vs <+: c.toList.drop off ∧ len ≤ cap ∧ (tight = true → cap = len) := by
  cases h with
  | slEmpty base cap t h => exact .inl ⟨_, _, rfl, rfl, rfl, h⟩
  | sl hm hb h h1 hc ht hl hti => exact .inr ⟨_, _, _, _, _, _, _, rfl, hm, hb, h, h1, hc, ht, hl, hti⟩
theorem VR.own_inv {id es off len v} (h : VR w o F (.own id es off len) v) : (∃ base, v = .slice base 0 0 ∧ len = 0) ∨
    ∃ b el n cap, v = .slice (some ⟨b, off, none⟩) len cap ∧ o id = some b ∧ w.shape? b = some (el, n) ∧ len ≤ cap ∧ off + cap * es ≤ n := by
  cases h with
  | ownEmpty => exact .inl ⟨_, rfl, rfl⟩
  | own ho hs hl hf => exact .inr ⟨_, _, _, _, rfl, ho, hs, hl, hf⟩
theorem VR.int_inv {k n v} (h : VR w o F (.int k n) v) : v = .int k n := by cases h; rfl
theorem VR.str_inv {s v} (h : VR w o F (.str s) v) : v = .string s := by cases h; rfl
theorem VR.nil_inv {v} (h : VR w o F .nil v) : v = .slice none 0 0 := by cases h; rfl
theorem VR.agg_inv {cs v} (h : VR w o F (.agg cs) v) : ∃ vs, v = .agg vs.toArray ∧ VRs w o F cs vs ∧ ∀ u ∈ vs, u.oneCell' = true := by
  cases h; exact ⟨_, rfl, ‹_›, ‹_›⟩
end
theorem unfroz00 (n : Nat) : unfroz (0, 0) n := fun i _ h => by simp at h
theorem unfroz_end (n : Nat) : unfroz (n, n + 1) n := fun i hi h => by simp at h; omega
theorem stride_pos (n : Nat) : n < n + stride := by unfold stride; omega

section
variable {P : Program} {o : Oper} {ρ : Operand → Value} {w w' : World} {O : Nat → Option Nat} {M F : Nat → Prop} {h : Heap} {new n1 n2 : Nat} {e : X → PV}
  (hI : Inv w O M F h) (hρ : ∀ x y, copX x = some y → VR w O F (e y) (ρ x)) (hfree : O new = none ∧ hget h new = none)

include hI hfree in
theorem after_alloc {cells : Array Value} {el : TypeId} {fz : Nat × Nat} {B : Blk} {r : PV} {v : Value} (hw : w'.heap = w.heap.push (.cells cells el fz)) (h1 : w'.os = w.os) (h2 : w'.tape = w.tape) (h3 : w'.output = w.output)
    (hB : ∀ O' M' F', (∀ id b, O id = some b → O' id = some b) → O' new = some w.heap.size → M' w.heap.size → (∀ b, b < w.heap.size → F' b → F b) → Stp F w w' → w'.heap[w.heap.size]? = some (.cells cells el fz) → BR w' O' M' F' new B ∧ VR w' O' F' r v) :
    After w O M F h new (new + stride) r (hset h new B) v w' := by
  have hs := Stp.push hw h1 h2 h3
  have hext : ∀ id b, O id = some b → putO O new w.heap.size id = some b := fun id b q => by
    unfold putO; split
    · next e => subst e; rw [hfree.1] at q; cases q
    · exact q
  have hb := hB (putO O new w.heap.size) (fun b => M b ∨ b = w.heap.size) (fun b => F b ∨ b = w.heap.size) hext (by simp [putO]) (.inr rfl) (fun b hb q => q.elim id (fun e => by omega)) (hs.mono (fun _ _ q => q.elim)) (by rw [hw]; simp)
  exact ⟨_, _, _, hb.2, Inv.alloc hI hw h1 h2 h3 hfree.1 hfree.2 (stride_pos _) hb.1⟩

include hI hfree in
theorem after_box {cells : Array Value} {el : TypeId} {cs : List PV} (hw : w' = w.alloc (.cells cells el)) (hv : VRs w O F cs cells.toList) (hf : ∀ v ∈ cells.toList, v.oneCell' = true) :
    After w O M F h new (new + stride) (.ptr new 0) (applyU h [(new, some (.box cs))]) (.pointer (some ⟨w.heap.size, 0, none⟩)) w' := by
  subst hw
  refine after_alloc hI hfree (cells := cells) (el := el) (fz := (0, 0)) rfl rfl rfl rfl fun O' M' F' q1 q2 q3 q4 q5 q6 => ⟨⟨_, _, _, _, q2, q3, q6, unfroz00 _, VRs.step q5 q1 q4 hv, hf⟩, .ptr q2 (by simp)⟩

include hI hfree in
theorem after_row {cells : Array Value} {el : TypeId} {fz : Nat × Nat} {cs : List PV} {vs : List Value} {len cap es : Nat} (hw : w'.heap = w.heap.push (.cells cells el fz)) (h1 : w'.os = w.os) (h2 : w'.tape = w.tape) (h3 : w'.output = w.output) (hu : unfroz fz cells.size)
    (hv : VRs w O F cs vs) (hf : ∀ v ∈ vs, v.oneCell' = true) (hc : closedL cs = true) (hp : vs <+: cells.toList) (hl : len ≤ cap) (hz : cap * es ≤ cells.size) :
    After w O M F h new (new + stride) (.own new es 0 len) (applyU h [(new, some (.row cs))]) (.slice (some ⟨w.heap.size, 0, none⟩) len cap) w' := by
  refine after_alloc hI hfree (cells := cells) (el := el) (fz := fz) hw h1 h2 h3 fun O' M' F' q1 q2 q3 q4 q5 q6 => ⟨.inr ⟨_, _, _, _, _, q2, q3, q6, hu, VRs.step q5 q1 q4 hv, hf, hc, hp⟩, ?_⟩
  exact .own q2 (shape_of q6) hl (by omega)

include hI hfree in
/-- nothing came of it: an empty row -/
theorem after_none {es : Nat} {base : Option Addr} : After w O M F h new (new + stride) (.own new es 0 0) (applyU h [(new, some (.row []))]) (.slice base 0 0) w := by
  refine ⟨O, M, F, .ownEmpty _ _ _ _, ⟨⟨fun id B hB => ?_, hI.mlt, hI.sub, fun i j b B C hB hC hi hj => ?_⟩, .refl _ _, fun _ _ q => q, fun _ _ => rfl, fun id q hid => ?_, fun _ _ q => q, fun _ _ q => q, fun _ q _ => q, fun id b B q r => ?_⟩⟩
  · simp only [applyU, hget_hset] at hB
    split at hB
    · next q => subst q; cases hB; exact .inl ⟨rfl, hfree.1⟩
    · exact hI.blk id B hB
  · simp only [applyU, hget_hset] at hB hC
    split at hB
    · next q => subst q; rw [hfree.1] at hi; cases hi
    · split at hC
      · next q => subst q; rw [hfree.1] at hj; cases hj
      · exact hI.inj i j b B C hB hC hi hj
  · simp only [applyU, hget_hset]
    rw [if_neg]
    · exact hid
    · rintro rfl; exact q ⟨Nat.le_refl _, stride_pos _⟩
  · simp only [applyU, hget_hset] at q
    split at q
    · next e => subst e; rw [hfree.1] at r; cases r
    · exact .inr ⟨id, B, q, r⟩

include hI hfree in
theorem s_alloc {t : TypeId} {z : List PV} (ho : o.op = .alloc t) (hz : zeroT P t = some z) : Res P o ρ w (After w O M F h new (new + stride) (.ptr new 0) (applyU h [(new, some (.box z))])) := by
  obtain ⟨i, v, h1, h2, h3, h4, h5, h6, h7⟩ := zeroT_spec hz
  refine .val ?_ (after_box hI hfree rfl (h5 _ _ _) h6) (w' := w.alloc (.cells v.cells t))
  simp [execOp, ho, Instr.alloc, zeroValue, typeInfo, h1, h2, newVar, newRow]
include hI hρ hfree in
theorem s_box {t : TypeId} {x : Operand} {x' : X} (ho : o.op = .box t x) (hx : copX x = some x') (hc : (e x').cellish = true) : Res P o ρ w (After w O M F h new (new + stride) (.ptr new 0) (applyU h [(new, some (.box (e x').cells))])) := by
  obtain ⟨h1, h2⟩ := (hρ _ _ hx).cells hc
  refine .val ?_ (after_box hI hfree rfl h1 h2) (w' := w.alloc (.cells (ρ x).cells t))
  simp [execOp, ho, Instr.box, newVar, newRow]

include hρ in
theorem parts_rel (place : Nat → Option (Nat × Nat)) : ∀ (ps : List (Nat × Operand)) (l : List (Nat × Nat × X)), ps.mapM (copPart place) = some l →
    All2 (fun (b : Nat × Nat × PV) (p : Nat × Value) => place p.1 = some (b.1, b.2.1) ∧ VR w O F b.2.2 p.2) (l.map fun p => (p.1, p.2.1, e p.2.2)) (ps.map fun p => (p.1, ρ p.2))
  | [], l, q => by simp at q; subst q; exact .nil
  | p :: ps, l, q => by
    rw [List.mapM_cons] at q
    cases hp : copPart place p with
    | none => rw [hp] at q; cases q
    | some b =>
      cases hr : ps.mapM (copPart place) with
      | none => rw [hp, hr] at q; cases q
      | some l' =>
        rw [hp, hr] at q; cases q
        refine .cons ?_ (parts_rel place ps l' hr)
        unfold copPart at hp
        split at hp
        · next a x' q1 q2 => cases hp; exact ⟨q1, hρ _ _ q2⟩
        · cases hp

theorem arr_map_toList {α β : Type} (f : α → β) (a : Array α) : (a.map f).toList = a.toList.map f := by simp

include hI hρ in
theorem s_build {t : TypeId} {ps : Array (Nat × Operand)} {z cs : List PV} {l : List (Nat × Nat × X)} (ho : o.op = .build t ps) (hz : zeroT P t = some z) (place : Nat → Option (Nat × Nat))
    (hpl : ∀ c parts cells, (∃ i v, P.info? t = some i ∧ i.zero = some v ∧ v.cells = c) → Instr.fill place c parts = some cells → P.built t parts = some cells)
    (hl : ps.toList.mapM (copPart place) = some l) (hf : fillB z (l.map fun p => (p.1, p.2.1, e p.2.2)) = some cs) : Res P o ρ w (After w O M F h n1 n2 (.agg cs) h) := by
  obtain ⟨i, v, h1, h2, h3, h4, h5, h6, h7⟩ := zeroT_spec hz
  obtain ⟨c', k1, k2, k3⟩ := fill_sound (w := w) (O := O) (M := F) place (ps.toList.map fun p => (p.1, ρ p.2)) _ z v.cells cs (h5 _ _ _) h6 (parts_rel hρ place _ _ hl) hf
  have hb := hpl v.cells _ c' ⟨i, v, h1, h2, rfl⟩ k1
  refine .pure hI (v := .agg c') ?_ (by have := VR.agg k2 k3; simpa using this)
  have := run_build (P := P) w t (ps.map fun p => (p.1, ρ p.2)) c' (by rw [arr_map_toList]; exact hb)
  simp only [execOp, ho, Sem.run_bind, this, Result.andThen_ok]
  rfl

include hI in
theorem load_core {t : TypeId} {v0 : PV} {c0 : Value} {agg : Bool} {size : Nat} {cf : CF} {r : PV} {u : Upd} {x' : X} (hg : aggT P t = some agg) (hs : szT P t = some size) (h1 : agg = true ∨ size = 1) (hr : VR w O F (e x') c0)
    (he : evalK cf (.load agg size x') new e h = some (r, u)) : u = [] ∧ ∃ b off v, c0 = .pointer (some ⟨b, off, none⟩) ∧ (loadVar t ⟨b, off, none⟩).run P w = .ok v w ∧ VR w O F r v := by
  -- from cells that lie there
  have key : ∀ (b off : Nat) (c : Array Value) (el : TypeId) (fz : Nat × Nat) (l : List PV) (vs : List Value), c0 = .pointer (some ⟨b, off, none⟩) → w.heap[b]? = some (.cells c el fz) → VRs w O F l vs → (∀ v ∈ vs, v.oneCell' = true) → vs <+: c.toList.drop off →
      (if l.length = size then (if agg then some (PV.agg l, ([] : Upd)) else match l with | [v] => some (v, []) | _ => none) else none) = some (r, u) → u = [] ∧ ∃ b off v, c0 = .pointer (some ⟨b, off, none⟩) ∧ (loadVar t ⟨b, off, none⟩).run P w = .ok v w ∧ VR w O F r v := by
    intro b off c el fz l vs hq hb hv hf hp hif
    split at hif
    · next hl =>
      have hlen := hv.length
      have hrun := run_loadVar_of (P := P) (w := w) hg hs hb hp (by omega) h1
      cases agg with
      | true =>
        simp at hif
        obtain ⟨rfl, rfl⟩ := hif
        exact ⟨rfl, b, off, _, hq, hrun, by simpa using VR.agg hv hf⟩
      | false =>
        have hs1 : size = 1 := by rcases h1 with q | q; cases q; exact q
        subst hs1
        obtain ⟨p, a, rfl, rfl, hp1⟩ := one_cell hv hl
        simp at hif
        obtain ⟨rfl, rfl⟩ := hif
        exact ⟨rfl, b, off, _, hq, hrun, by simpa using hp1⟩
    · cases hif
  simp only [evalK] at he
  cases hv : e x' <;> rw [hv] at he hr <;> simp only at he <;> try (cases he; done)
  · -- a place in an own block
    next id off =>
    obtain ⟨b, hq, hO, hlt⟩ := hr.ptr_inv
    cases hB : hget h id with
    | none => rw [hB] at he; cases he
    | some B =>
      rw [hB] at he
      have hbr := hI.blk _ _ hB
      cases B with
      | mp es => cases he
      | box cs =>
        obtain ⟨b', c, el, fz, q1, q2, q3, q4, q5, q6⟩ := hbr
        rw [hO] at q1; cases q1
        exact key b off c el fz _ _ hq q3 ((q5.drop off).take size) (all_window _ _ q6) (List.take_prefix _ _) he
      | row cs =>
        rcases hbr with ⟨_, q⟩ | ⟨b', c, el, fz, vs, q1, q2, q3, q4, q5, q6, q7, q8⟩
        · rw [hO] at q; cases q
        · rw [hO] at q1; cases q1
          exact key b off c el fz _ _ hq q3 ((q5.drop off).take size) (all_window _ _ q6) (prefix_window _ _ q8) he
      | froz cs =>
        rcases hbr with ⟨_, q⟩ | ⟨b', c, el, fz, vs, q1, q2, q3, q5, q6, q7, q8⟩
        · rw [hO] at q; cases q
        · rw [hO] at q1; cases q1
          exact key b off c el fz _ _ hq q3 ((q5.drop off).take size) (all_window _ _ q6) (prefix_window _ _ q8) he
  · next xs =>
    obtain ⟨b, off, c, el, fz, vs, hq, hm, hb, q5, q6, q7, q8⟩ := hr.rop_inv
    exact key _ _ _ _ _ _ _ hq hb (q5.take size) (fun v hv => q6 v (List.mem_of_mem_take hv)) (prefix_take q8 _) he
  · next v0 =>
    obtain ⟨b, off, c, el, fz, u0, hq, hm, hb, q5, q6, q8⟩ := hr.cp_inv
    exact key _ _ _ _ _ _ _ hq hb (.cons q5 .nil) (fun v hv => by rw [List.mem_singleton.1 hv]; exact q6) q8 he
include hI hρ in
theorem s_load {t : TypeId} {x : Operand} {x' : X} {agg : Bool} {size : Nat} {cf : CF} {r : PV} {u : Upd} (ho : o.op = .load t x) (hg : aggT P t = some agg) (hs : szT P t = some size) (h1 : agg = true ∨ size = 1) (hx : copX x = some x')
    (he : evalK cf (.load agg size x') new e h = some (r, u)) : u = [] ∧ Res P o ρ w (After w O M F h n1 n2 r h) := by
  obtain ⟨hu, b, off, v, hq, hrun, hv⟩ := load_core (P := P) (v0 := .undef) hI hg hs h1 (hρ _ _ hx) he
  refine ⟨hu, .pure hI (v := v) ?_ hv⟩
  simp only [execOp, ho, hq, Instr.loadAt, Instr.sureAddr, Sem.run_bind]
  simp [hrun]
end
end Go.Proofs.YtipnedhclbopdaaDoorEv

/- Stores, places, slices, lengths. -/
set_option linter.unusedVariables false
set_option linter.unusedSimpArgs false
namespace Go.Proofs.YtipnedhclbopdaaDoorEv
section
variable {P : Program} {o : Oper} {ρ : Operand → Value} {w w' : World} {O : Nat → Option Nat} {M F : Nat → Prop} {h : Heap} {new n1 n2 : Nat} {e : X → PV}
  (hI : Inv w O M F h) (hρ : ∀ x y, copX x = some y → VR w O F (e y) (ρ x)) (hfree : O new = none ∧ hget h new = none)

theorem take_append_drop_prefix {vs ms l : List Value} {off : Nat} (hp : vs <+: l) (hl : off + ms.length ≤ vs.length) :
    vs.take off ++ ms ++ vs.drop (off + ms.length) <+: l.take off ++ ms ++ l.drop (off + ms.length) := by
  obtain ⟨r, rfl⟩ := hp
  rw [List.take_append_of_le_length (by omega), List.drop_append_of_le_length hl]
  exact ⟨r, by simp⟩
theorem mem_spliced {vs ms : List Value} {a b : Nat} (h : ∀ v ∈ vs, v.oneCell' = true) (k : ∀ v ∈ ms, v.oneCell' = true) : ∀ v ∈ vs.take a ++ ms ++ vs.drop b, v.oneCell' = true := fun v hv => by
  rcases List.mem_append.1 hv with hv | hv
  · rcases List.mem_append.1 hv with hv | hv
    · exact h v (List.mem_of_mem_take hv)
    · exact k v hv
  · exact h v (List.mem_of_mem_drop hv)

include hI in
/-- cells written into an own box -/
theorem after_write_box {id b off : Nat} {cs ns : List PV} {c : Array Value} {el : TypeId} {fz : Nat × Nat} {ms : List Value} {r : PV} {v : Value} (hg : hget h id = some (.box cs)) (hO : O id = some b) (hM : M b) (hb : w.heap[b]? = some (.cells c el fz)) (hu : unfroz fz c.size)
    (hv : VRs w O F cs c.toList) (hf : ∀ v ∈ c.toList, v.oneCell' = true) (hn : VRs w O F ns ms) (hm : ∀ v ∈ ms, v.oneCell' = true) (hl : off + ms.length ≤ c.size) (hr : ∀ w', Stp F w w' → VR w' O F r v) :
    After w O M F h n1 n2 r (applyU h [(id, some (.box (setRange cs off ns)))]) v (w.setCells b off ms) := by
  obtain ⟨c', q1, q2, q3, q4⟩ := setCells_heap ms off w c hb hl
  have hs : Stp F w (w.setCells b off ms) := q4.mono (fun x _ q => q ▸ hI.sub b hM)
  refine ⟨O, M, F, hr _ hs, ?_⟩
  refine Inv.write hI q4 hg hO hM ⟨b, c', el, fz, hO, hM, q1, q2 ▸ hu, ?_, ?_⟩
  · rw [q3]; exact (VRs.step hs (fun _ _ q => q) (fun _ _ q => q) hv).setRange off (VRs.step hs (fun _ _ q => q) (fun _ _ q => q) hn)
  · rw [q3]; exact mem_spliced hf hm
include hI in
/-- cells written into an own row -/
theorem after_write_row {id b off : Nat} {cs ns : List PV} {c : Array Value} {el : TypeId} {fz : Nat × Nat} {vs ms : List Value} {r : PV} {v : Value} (hg : hget h id = some (.row cs)) (hO : O id = some b) (hM : M b) (hb : w.heap[b]? = some (.cells c el fz)) (hu : unfroz fz c.size)
    (hv : VRs w O F cs vs) (hf : ∀ v ∈ vs, v.oneCell' = true) (hc : closedL cs = true) (hp : vs <+: c.toList) (hn : VRs w O F ns ms) (hm : ∀ v ∈ ms, v.oneCell' = true) (hnc : closedL ns = true) (hl : off + ms.length ≤ vs.length) (hr : ∀ w', Stp F w w' → VR w' O F r v) :
    After w O M F h n1 n2 r (applyU h [(id, some (.row (setRange cs off ns)))]) v (w.setCells b off ms) := by
  have hl2 : vs.length ≤ c.size := by have := hp.length_le; simpa using this
  obtain ⟨c', q1, q2, q3, q4⟩ := setCells_heap ms off w c hb (by omega)
  have hs : Stp F w (w.setCells b off ms) := q4.mono (fun x _ q => q ▸ hI.sub b hM)
  refine ⟨O, M, F, hr _ hs, ?_⟩
  refine Inv.write hI q4 hg hO hM (.inr ⟨b, c', el, fz, _, hO, hM, q1, q2 ▸ hu, (VRs.step hs (fun _ _ q => q) (fun _ _ q => q) hv).setRange off (VRs.step hs (fun _ _ q => q) (fun _ _ q => q) hn), mem_spliced hf hm, ?_, ?_⟩)
  · unfold setRange; exact closedL_append (closedL_append (closedL_take _ hc) hnc) (closedL_drop _ hc)
  · rw [q3]; exact take_append_drop_prefix hp hl

include hI hρ in
theorem s_store {t : TypeId} {x y : Operand} {x' y' : X} {size : Nat} {cf : CF} {r : PV} {u : Upd} (ho : o.op = .store t x y) (hs : szT P t = some size) (hx : copX x = some x') (hy : copX y = some y')
    (he : evalK cf (.store size x' y') new e h = some (r, u)) : Res P o ρ w (After w O M F h n1 n2 r (applyU h u)) := by
  have hr := hρ _ _ hx
  simp only [evalK] at he
  cases hv : e x' <;> rw [hv] at he hr <;> simp only at he <;> try (cases he; done)
  next id off =>
  obtain ⟨b, hq, hO, hlt⟩ := hr.ptr_inv
  split at he
  · next hc =>
    obtain ⟨hc1, hc2⟩ := hc
    obtain ⟨k1, k2⟩ := (hρ _ _ hy).cells hc1
    have klen := k1.length
    have run : ∀ (c : Array Value) (el : TypeId) (fz : Nat × Nat), w.heap[b]? = some (.cells c el fz) → unfroz fz c.size → off + size ≤ c.size → (execOp ρ o).run P w = .ok .skip (w.setCells b off (ρ y).cells.toList) := by
      intro c el fz hb hu hl
      have := run_storeVar_of (P := P) (v := ρ y) hs hb hu rfl k2 (by omega) hl
      simp only [execOp, ho, hq, Instr.storeAt, Instr.sureAddr, Sem.run_bind]
      simp [this]
    cases hB : hget h id with
    | none => rw [hB] at he; cases he
    | some B =>
      rw [hB] at he
      have hbr := hI.blk _ _ hB
      cases B with
      | mp es => cases he
      | froz cs => cases he
      | box cs =>
        simp only at he
        split at he
        · next hle =>
          cases he
          obtain ⟨b', c, el, fz, q1, q2, q3, q4, q5, q6⟩ := hbr
          rw [hO] at q1; cases q1
          have l5 := q5.length
          simp at l5
          refine .inr (.inl ⟨_, run c el fz q3 q4 (by omega), ?_⟩)
          exact after_write_box hI hB hO q2 q3 q4 q5 q6 k1 k2 (by omega) (fun _ _ => .undef _)
        · cases he
      | row cs =>
        simp only at he
        split at he
        · next hle =>
          cases he
          rcases hbr with ⟨_, q⟩ | ⟨b', c, el, fz, vs, q1, q2, q3, q4, q5, q6, q7, q8⟩
          · rw [hO] at q; cases q
          · rw [hO] at q1; cases q1
            have l5 := q5.length
            have l8 := q8.length_le
            simp at l8
            have hcl : closedL (e y').cells = true := by
              have := hle.2
              cases hey : e y' <;> rw [hey] at this hc1 <;> simp_all [PV.cells, PV.closed, closedL, PV.cellish]
            refine .inr (.inl ⟨_, run c el fz q3 q4 (by omega), ?_⟩)
            exact after_write_row hI hB hO q2 q3 q4 q5 q6 q7 q8 k1 k2 hcl (by omega) (fun _ _ => .undef _)
        · cases he
  · cases he

include hI hρ in
theorem s_faddr {t : TypeId} {x : Operand} {x' : X} {i : Nat} {f : Field} {fs : Array Field} {s : Nat} {cf : CF} {r : PV} {u : Upd} (ht : P.underlying t = some (.struct fs)) (ho : o.op = .fieldAddr t x i) (hf : fs[i]? = some f) (hs : szT P f.type = some s) (hpos : 0 < s) (hx : copX x = some x')
    (he : evalK cf (.faddr f.offset x') new e h = some (r, u)) : u = [] ∧ Res P o ρ w (After w O M F h n1 n2 r h) := by
  have hr := hρ _ _ hx
  have run : ∀ b off, ρ x = .pointer (some ⟨b, off, none⟩) → (execOp ρ o).run P w = .ok (.value (.pointer (some ⟨b, off + f.offset, none⟩))) w := by
    intro b off hq
    have hne : ¬ s = 0 := by omega
    simp [execOp, ho, hq, Instr.fieldAt, run_underlying ht, hf, Instr.sureAddr, fieldPlace, run_sizeOf_of hs, hne, Addr.add_mid]
  simp only [evalK] at he
  cases hv : e x' <;> rw [hv] at he hr <;> simp only at he <;> try (cases he; done)
  · obtain ⟨b, hq, hO, hlt⟩ := hr.ptr_inv
    cases he
    exact ⟨rfl, .pure hI (run _ _ hq) (.ptr hO hlt)⟩
  · obtain ⟨b, off, c, el, fz, vs, hq, hm, hb, q5, q6, q7, q8⟩ := hr.rop_inv
    cases he
    refine ⟨rfl, .pure hI (run _ _ hq) (.rop hm hb (q5.drop _) (fun v hv => q6 v (List.mem_of_mem_drop hv)) (closedL_drop _ q7) ?_)⟩
    rw [← List.drop_drop]
    obtain ⟨r', hr'⟩ := q8
    rw [← hr', List.drop_append]
    exact List.prefix_append _ _

include hI hρ in
theorem s_field {t : TypeId} {x : Operand} {x' : X} {i : Nat} {f : Field} {fs : Array Field} {g : Bool} {s : Nat} {cf : CF} {r : PV} {u : Upd} (ht : P.underlying t = some (.struct fs)) (ho : o.op = .field t x i) (hf : fs[i]? = some f) (hg : aggT P f.type = some g) (hs : szT P f.type = some s) (hpos : 0 < s) (h1 : g = true ∨ s = 1) (hx : copX x = some x')
    (he : evalK cf (.field g f.offset s x') new e h = some (r, u)) : u = [] ∧ Res P o ρ w (After w O M F h n1 n2 r h) := by
  have hr := hρ _ _ hx
  simp only [evalK] at he
  cases hv : e x' <;> rw [hv] at he hr <;> simp only at he <;> try (cases he; done)
  next cs =>
  obtain ⟨vs, hq, k1, k2⟩ := hr.agg_inv
  split at he
  · next hl =>
    have hl2 : f.offset + s ≤ vs.length := by have := k1.length; simp at hl; omega
    have hrun := szT_agg hg w vs.toArray f.offset s hs (by simpa using hl2) h1
    have w1 := (k1.drop f.offset).take s
    cases g with
    | true =>
      simp at he
      obtain ⟨rfl, rfl⟩ := he
      refine ⟨rfl, .pure hI (v := .agg ((vs.drop f.offset).take s).toArray) ?_ (.agg w1 (all_window _ _ k2))⟩
      simp only [if_true] at hrun
      have e1 : vs.toArray.extract f.offset (f.offset + s) = ((vs.drop f.offset).take s).toArray := by
        simp [List.extract_eq_take_drop]
      simp [execOp, ho, hq, Instr.field, run_underlying ht, hf, asAgg, hrun, e1]
    | false =>
      have hs1 : s = 1 := by rcases h1 with q | q; cases q; exact q
      subst hs1
      obtain ⟨p, a, ea, eb, hp1⟩ := one_cell w1 hl
      rw [ea] at he
      simp at he
      obtain ⟨rfl, rfl⟩ := he
      refine ⟨rfl, .pure hI (v := a) ?_ hp1⟩
      have hlt : f.offset < vs.length := by omega
      have e2 : vs.toArray.toList.getD f.offset undef = a := by
        rw [List.drop_eq_getElem_cons hlt, List.take_succ_cons, List.take_zero] at eb
        injection eb with eb _
        show vs.getD f.offset undef = a
        rw [List.getD_eq_getElem?_getD, List.getElem?_eq_getElem hlt]
        exact eb
      simp only [Bool.false_eq_true, if_false, e2] at hrun
      have : (Instr.field t (ρ x) i).run P w = .ok a w := by
        simp only [Instr.field, run_underlying ht, Sem.run_bind, hq, Result.andThen_ok, hf, asAgg]
        exact hrun
      simp only [execOp, ho, Sem.run_bind, this, Result.andThen_ok]
      rfl
  · cases he

theorem indexAt_run {t el : TypeId} {s : Nat} (ht : P.underlying t = some (.slice el)) (hs : szT P el = some s) (b off len cap : Nat) (k : IntKind) (n : Int) (h0 : 0 ≤ n ∧ n < len) :
    (Instr.indexAt t (.slice (some ⟨b, off, none⟩) len cap) (.int k n)).run P w = .ok (.pointer (some ⟨b, off + n.toNat * s, none⟩)) w := by
  simp [Instr.indexAt, asIntOf, run_underlying ht, h0, run_sizeOf_of hs, Addr.add_mid]

include hI hρ in
theorem s_iaddr {t el : TypeId} {x i : Operand} {x' i' : X} {s : Nat} {cf : CF} {r : PV} {u : Upd} (ht : P.underlying t = some (.slice el)) (hs : szT P el = some s) (ho : o.op = .indexAddr t x i) (hx : copX x = some x') (hi : copX i = some i')
    (he : evalK cf (.iaddr s x' i') new e h = some (r, u)) : u = [] ∧ Res P o ρ w (After w O M F h n1 n2 r h) := by
  have hr := hρ _ _ hx
  have hri := hρ _ _ hi
  simp only [evalK] at he
  cases hvi : e i' <;> rw [hvi] at he hri <;> simp only at he <;> try (cases he; done)
  next k n =>
  have hqi := hri.int_inv
  have run : ∀ b off len cap, ρ x = .slice (some ⟨b, off, none⟩) len cap → (0 ≤ n ∧ n < len) → (execOp ρ o).run P w = .ok (.value (.pointer (some ⟨b, off + n.toNat * s, none⟩))) w := by
    intro b off len cap hq h0
    simp [execOp, ho, hq, hqi, indexAt_run ht hs b off len cap k n h0]
  cases hv : e x' <;> rw [hv] at he hr <;> simp only at he <;> try (cases he; done)
  · next len tight xs =>
    split at he
    · next h0 =>
      cases he
      rcases hr.sl_inv with ⟨base, cap, hq, h1, _⟩ | ⟨b, off, cap, c, el', fz, vs, hq, hm, hb, q5, q6, q7, q8, q9, q10⟩
      · omega
      · refine ⟨rfl, .pure hI (run _ _ _ _ hq h0) (.rop hm hb (q5.drop _) (fun v hv => q6 v (List.mem_of_mem_drop hv)) (closedL_drop _ q7) ?_)⟩
        rw [← List.drop_drop]
        obtain ⟨r', hr'⟩ := q8
        rw [← hr', List.drop_append]
        exact List.prefix_append _ _
    · cases he
  · next id es off len =>
    split at he
    · next h0 =>
      cases he
      rcases hr.own_inv with ⟨base, hq, h1⟩ | ⟨b, el', n', cap, hq, hO, hsh, hl, hf⟩
      · omega
      · exact ⟨rfl, .pure hI (run _ _ _ _ hq h0) (.ptr hO (shape_lt hsh))⟩
    · cases he
include hI hρ in
theorem s_iaddrA {t el : TypeId} {x i : Operand} {x' i' : X} {s len : Nat} {cf : CF} {r : PV} {u : Upd} (ht : P.underlying t = some (.array len el)) (hs : szT P el = some s) (ho : o.op = .indexAddr t x i) (hx : copX x = some x') (hi : copX i = some i')
    (he : evalK cf (.iaddrA s len x' i') new e h = some (r, u)) : u = [] ∧ Res P o ρ w (After w O M F h n1 n2 r h) := by
  have hr := hρ _ _ hx
  have hri := hρ _ _ hi
  simp only [evalK] at he
  cases hvi : e i' <;> cases hv : e x' <;> rw [hvi, hv] at he <;> simp only at he <;> try (cases he; done)
  next k n id off =>
  rw [hvi] at hri; rw [hv] at hr
  have hqi := hri.int_inv
  split at he
  · next h0 =>
    cases he
    obtain ⟨b, hq, hO, hlt⟩ := hr.ptr_inv
    refine ⟨rfl, .pure hI ?_ (.ptr hO hlt)⟩
    simp [execOp, ho, hq, hqi, Instr.indexAt, asIntOf, run_underlying ht, Instr.sureAddr, h0, run_sizeOf_of hs, Addr.add_mid]
  · cases he

omit hI hρ hfree in
theorem call1_run {c : Call} {b : Builtin} {x : Operand} {t : TypeId} (ho : o.op = .call c) (hc1 : c.callee = .builtin b) (hc2 : c.args.toList = [x]) (hc3 : c.argTypes.toList = [t]) :
    execOp ρ o = (do let d ← resolve ρ c o.type; invoke d.target d.args) ∧ ∃ cs, (resolve ρ c o.type).run P w = .ok { target := .builtin b #[t] o.type cs, args := #[ρ x] } w := by
  have ea : c.args = #[x] := by rw [← Array.toArray_toList (xs := c.args), hc2]
  have et : c.argTypes = #[t] := by rw [← Array.toArray_toList (xs := c.argTypes), hc3]
  refine ⟨by simp [execOp, ho], (#[x].map fun | .const _ => true | _ => false), ?_⟩
  simp only [resolve, hc1, ea, et]
  have e3 : Array.map ρ #[x] = #[ρ x] := by simp
  rw [e3]
  rfl
include hI hρ in
theorem s_len {t : TypeId} {x : Operand} {x' : X} {cf : CF} {r : PV} {u : Upd} {str : Bool} {c : Call} (ho : o.op = .call c) (hc1 : c.callee = .builtin .len) (hc2 : c.args.toList = [x]) (hc3 : c.argTypes.toList = [t]) (hx : copX x = some x')
    (ht : if str then P.underlying t = some .string else ∃ el, P.underlying t = some (.slice el))
    (he : evalK cf (.len str x') new e h = some (r, u)) : u = [] ∧ Res P o ρ w (After w O M F h n1 n2 r h) := by
  have hr := hρ _ _ hx
  obtain ⟨e1, cs_, e2⟩ := call1_run (P := P) (w := w) (ρ := ρ) ho hc1 hc2 hc3
  have run : ∀ n, (Builtin.len_ #[t] o.type #[ρ x]).run P w = .ok (goInt n) w → (execOp ρ o).run P w = .ok (.value (goInt n)) w := by
    intro n hl
    rw [e1]
    simp [e2, invoke, builtin, hl]
  cases str with
  | true =>
    simp only [if_true] at ht
    simp only [evalK, if_true] at he
    cases hv : e x' <;> rw [hv] at he hr <;> simp only at he <;> try (cases he; done)
    next s =>
    cases he
    exact ⟨rfl, .pure hI (run _ (by simp [Builtin.len_, run_underlying ht, hr.str_inv])) (.int _ _)⟩
  | false =>
    simp only [Bool.false_eq_true, if_false] at ht
    obtain ⟨el, ht⟩ := ht
    have sl : ∀ base len cap, ρ x = .slice base len cap → (execOp ρ o).run P w = .ok (.value (.int .i64 len)) w := by
      intro base len cap hq
      exact run _ (by simp [Builtin.len_, run_underlying ht, hq])
    simp only [evalK, Bool.false_eq_true, if_false] at he
    cases hv : e x' <;> rw [hv] at he hr <;> simp only at he <;> try (cases he; done)
    · cases he; exact ⟨rfl, .pure hI (sl _ _ _ hr.nil_inv) (.int _ _)⟩
    · cases he
      rcases hr.sl_inv with ⟨base, cap, hq, h1, _⟩ | ⟨b, off, cap, c, el', fz, vs, hq, _⟩
      · subst h1; exact ⟨rfl, .pure hI (sl _ _ _ hq) (.int _ _)⟩
      · exact ⟨rfl, .pure hI (sl _ _ _ hq) (.int _ _)⟩
    · cases he
      rcases hr.own_inv with ⟨base, hq, h1⟩ | ⟨b, el', n', cap, hq, _⟩
      · subst h1; exact ⟨rfl, .pure hI (sl _ _ _ hq) (.int _ _)⟩
      · exact ⟨rfl, .pure hI (sl _ _ _ hq) (.int _ _)⟩
include hI hρ in
theorem s_cap {t : TypeId} {x : Operand} {x' : X} {cf : CF} {r : PV} {u : Upd} {c : Call} (ho : o.op = .call c) (hc1 : c.callee = .builtin .cap) (hc2 : c.args.toList = [x]) (hc3 : c.argTypes.toList = [t]) (hx : copX x = some x')
    (ht : ∃ el, P.underlying t = some (.slice el))
    (he : evalK cf (.cap x') new e h = some (r, u)) : u = [] ∧ Res P o ρ w (After w O M F h n1 n2 r h) := by
  have hr := hρ _ _ hx
  obtain ⟨e1, cs_, e2⟩ := call1_run (P := P) (w := w) (ρ := ρ) ho hc1 hc2 hc3
  obtain ⟨el, ht⟩ := ht
  have run : ∀ base len cap, ρ x = .slice base len cap → (execOp ρ o).run P w = .ok (.value (.int .i64 cap)) w := by
    intro base len cap hq
    rw [e1]
    simp [e2, invoke, builtin, Builtin.cap_, run_underlying ht, hq, goInt]
  simp only [evalK] at he
  cases hv : e x' <;> rw [hv] at he hr <;> (try simp only at he) <;> try (cases he; done)
  · cases he; exact ⟨rfl, .pure hI (run _ _ _ hr.nil_inv) (.int _ _)⟩
  · next len tight xs =>
    cases tight with
    | false => cases he
    | true =>
      cases he
      rcases hr.sl_inv with ⟨base, cap, hq, h1, _, h2⟩ | ⟨b, off, cap, c, el', fz, vs, hq, _, _, _, _, _, _, _, h2⟩
      · subst h1; have := h2 rfl; subst this; exact ⟨rfl, .pure hI (run _ _ _ hq) (.int _ _)⟩
      · have := h2 rfl; subst this; exact ⟨rfl, .pure hI (run _ _ _ hq) (.int _ _)⟩
end
end Go.Proofs.YtipnedhclbopdaaDoorEv

/- Slices cut. -/
set_option linter.unusedVariables false
set_option linter.unusedSimpArgs false
namespace Go.Proofs.YtipnedhclbopdaaDoorEv
/-- a bound: not told (then d), or a number -/
def Bnd (v : Option Value) (d l : Nat) : Prop := (v = none ∧ l = d) ∨ ∃ k n, v = some (.int k n) ∧ 0 ≤ n ∧ l = n.toNat
section
variable {P : Program} {o : Oper} {ρ : Operand → Value} {w w' : World} {O : Nat → Option Nat} {M F : Nat → Prop} {h : Heap} {new n1 n2 : Nat} {e : X → PV}
  (hI : Inv w O M F h) (hρ : ∀ x y, copX x = some y → VR w O F (e y) (ρ x)) (hfree : O new = none ∧ hget h new = none)
include hρ in
theorem bnd_of {lo : Option Operand} {lo' : Option X} {d l : Nat} (hc : copXO lo = some lo') (hn : natOf (lo'.map e) d = some l) : Bnd (lo.map ρ) d l := by
  cases lo with
  | none => simp [copXO] at hc; subst hc; simp [natOf] at hn; exact .inl ⟨rfl, hn.symm⟩
  | some x =>
    simp only [copXO] at hc
    cases hx : copX x with
    | none => rw [hx] at hc; cases hc
    | some y =>
      rw [hx] at hc; cases hc
      have hr := hρ _ _ hx
      simp only [Option.map_some] at hn
      cases hv : e y <;> rw [hv] at hn hr <;> simp only [natOf] at hn <;> try (cases hn; done)
      next k n =>
      split at hn
      · next h0 => cases hn; exact .inr ⟨k, n, by simp [hr.int_inv], h0, rfl⟩
      · cases hn
theorem copXO_some {lo : Option Operand} {lo' : Option X} (hc : copXO lo = some lo') : lo'.isSome = lo.isSome := by
  cases lo with
  | none => simp [copXO] at hc; subst hc; rfl
  | some x =>
    simp only [copXO] at hc
    cases hx : copX x with
    | none => rw [hx] at hc; cases hc
    | some y => rw [hx] at hc; cases hc; rfl

theorem bounds_run (w : World) (isSlice : Bool) {len cap : Nat} {lo hi mx : Option Value} {l hh m : Nat} (hl : Bnd lo 0 l) (hhi : Bnd hi len hh) (hm : Bnd mx cap m) (h1 : l ≤ hh) (h2 : hh ≤ m) (h3 : m ≤ cap) (h4 : mx.isSome = true → hi.isSome = true) :
    (Instr.sliceBounds isSlice len cap lo hi mx).run P w = .ok (l, hh, m) w := by
  unfold Instr.sliceBounds
  rcases hm with ⟨rfl, rfl⟩ | ⟨km, nm, rfl, hm0, rfl⟩
  · rcases hhi with ⟨rfl, rfl⟩ | ⟨kh, nh, rfl, hh0, rfl⟩
    · rcases hl with ⟨rfl, rfl⟩ | ⟨kl, nl, rfl, hl0, rfl⟩
      · simp
      · simp [run_sliceBound w kl nl hh _ hl0 (by omega)]
    · rcases hl with ⟨rfl, rfl⟩ | ⟨kl, nl, rfl, hl0, rfl⟩
      · simp [run_sliceBound w kh nh _ _ hh0 (show nh ≤ ((m : Nat) : Int) by omega)]
      · simp [run_sliceBound w kh nh _ _ hh0 (show nh ≤ ((m : Nat) : Int) by omega), run_sliceBound w kl nl nh.toNat _ hl0 (by omega)]
  · rcases hhi with ⟨rfl, rfl⟩ | ⟨kh, nh, rfl, hh0, rfl⟩
    · simp at h4
    · rcases hl with ⟨rfl, rfl⟩ | ⟨kl, nl, rfl, hl0, rfl⟩
      · simp [run_sliceBound w km nm cap _ hm0 (by omega), run_sliceBound w kh nh nm.toNat _ hh0 (by omega)]
      · simp [run_sliceBound w km nm cap _ hm0 (by omega), run_sliceBound w kh nh nm.toNat _ hh0 (by omega), run_sliceBound w kl nl nh.toNat _ hl0 (by omega)]

theorem slice_run {t el : TypeId} {s : Nat} (ht : P.underlying t = some (.slice el)) (hs : szT P el = some s) {base : Option Addr} {len cap : Nat} {lo hi mx : Option Value} {l hh m : Nat} (hb : (Instr.sliceBounds true len cap lo hi mx).run P w = .ok (l, hh, m) w) :
    (Instr.sliceAt t (.slice base len cap) lo hi mx).run P w = .ok (.slice (if m = l then base else base.map (·.add (l * s))) (hh - l) (m - l)) w := by
  simp [Instr.sliceAt, run_underlying ht, Instr.slice, hb, run_sizeOf_of hs]

include hI hρ in
theorem s_slice {t el : TypeId} {s : Nat} {x : Operand} {x' : X} {lo hi mx : Option Operand} {lo' hi' mx' : Option X} {cf : CF} {r : PV} {u : Upd} (ho : o.op = .slice t x lo hi mx)
    {str : Bool} (ht : if str then P.underlying t = some .string else P.underlying t = some (.slice el) ∧ szT P el = some s) (hx : copX x = some x') (hlo : copXO lo = some lo') (hhi : copXO hi = some hi') (hmx : copXO mx = some mx') (h4 : mx.isSome = true → hi.isSome = true)
    (he : evalK cf (.slice str s x' lo' hi' mx') new e h = some (r, u)) : u = [] ∧ Res P o ρ w (After w O M F h n1 n2 r h) := by
  have hr := hρ _ _ hx
  have hex : execOp ρ o = (do let v ← Instr.sliceAt t (ρ x) (lo.map ρ) (hi.map ρ) (mx.map ρ); pure (.value v)) := by simp [execOp, ho]
  have run : ∀ v, (Instr.sliceAt t (ρ x) (lo.map ρ) (hi.map ρ) (mx.map ρ)).run P w = .ok v w → (execOp ρ o).run P w = .ok (.value v) w := by
    intro v hv
    rw [hex]; simp [hv]
  have h4' : (mx.map ρ).isSome = true → (hi.map ρ).isSome = true := by simpa using h4
  cases str with
  | true =>
    simp only [if_true] at ht
    simp only [evalK, if_true] at he
    cases hq : e x' <;> rw [hq] at he hr <;> (try simp only at he) <;> try (cases he; done)
    next q =>
    have hqv := hr.str_inv
    split at he
    · next l hh e2 e3 =>
      split at he
      · next hc =>
        cases he
        refine ⟨rfl, .pure hI (run _ ?_) (.str _)⟩
        have hmn : mx.map ρ = none := by
          have := copXO_some hmx
          cases mx <;> simp at this ⊢
        have hb := bounds_run (P := P) w false (len := q.size) (cap := q.size) (bnd_of hρ hlo e2) (bnd_of hρ hhi e3) (mx := none) (m := q.size) (.inl ⟨rfl, rfl⟩) hc.1 hc.2 (Nat.le_refl _) (by simp)
        simp [Instr.sliceAt, run_underlying ht, Instr.slice, hqv, hmn, hb]
      · cases he
    · cases he
  | false =>
    simp only [Bool.false_eq_true, if_false] at ht
    obtain ⟨ht, hs⟩ := ht
    simp only [evalK, Bool.false_eq_true, if_false] at he
    cases hv : e x' <;> rw [hv] at he hr <;> (try simp only at he) <;> try (cases he; done)
    · -- nil
      have hqv := hr.nil_inv
      split at he
      · next e1 e2 e3 =>
        cases he
        have hb := bounds_run (P := P) w true (len := 0) (cap := 0) (bnd_of hρ hlo e1) (bnd_of hρ hhi e2) (bnd_of hρ hmx e3) (Nat.le_refl _) (Nat.le_refl _) (Nat.le_refl _) h4'
        refine ⟨rfl, .pure hI (run _ ?_) .nil⟩
        rw [hqv]
        exact slice_run ht hs hb
      · cases he
    · -- shared
      next len tight xs =>
      split at he
      · next l hh m e1 e2 e3 =>
        split at he
        · next hc =>
          cases he
          obtain ⟨c1, c2, c3⟩ := hc
          have hmxs := copXO_some hmx
          -- the bound asV the program sees it
          have hmB : ∀ cap, len ≤ cap → ∃ m', Bnd (mx.map ρ) cap m' ∧ hh ≤ m' ∧ m' ≤ cap ∧ (mx.isSome = true → m' = m) ∧ (mx.isSome = false → m' = cap) := by
            intro cap hcap
            rcases bnd_of hρ hmx e3 with ⟨q1, q2⟩ | ⟨k, n, q1, q2, q3⟩
            · refine ⟨cap, .inl ⟨q1, rfl⟩, by omega, Nat.le_refl _, fun q => ?_, fun _ => rfl⟩
              cases mx <;> simp at q1 q
            · refine ⟨m, .inr ⟨k, n, q1, q2, q3⟩, c2, by omega, fun _ => rfl, fun q => ?_⟩
              cases mx <;> simp at q1 q
          have key : ∀ (base : Option Addr) (cap : Nat), ρ x = .slice base len cap → len ≤ cap → (tight = true → cap = len) → ∃ cap', (execOp ρ o).run P w = .ok (.value (.slice (if cap' = 0 then base else base.map (·.add (l * s))) (hh - l) cap')) w ∧ hh - l ≤ cap' ∧
              ((if mx'.isSome = true then decide (hh = m) else tight && decide (hh = len)) = true → cap' = hh - l) := by
            intro base cap hq hcap htt
            obtain ⟨m', b1, b2, b3, b4, b5⟩ := hmB cap hcap
            have hb := bounds_run (P := P) w true (bnd_of hρ hlo e1) (bnd_of hρ hhi e2) b1 c1 b2 b3 h4'
            refine ⟨m' - l, ?_, by omega, fun q => ?_⟩
            · refine run _ ?_
              rw [hq, slice_run ht hs hb]
              congr 2
              by_cases q : m' = l
              · simp [q]
              · rw [if_neg q, if_neg (by omega)]
            · rw [hmxs] at q
              cases hmm : mx.isSome with
              | true => rw [hmm] at q; simp at q; have := b4 hmm; omega
              | false => rw [hmm] at q; simp at q; have := b5 hmm; have := htt q.1; omega
          rcases hr.sl_inv with ⟨base, cap, hq, hz, hxs, ht0⟩ | ⟨b, off, cap, c, el', fz, vs, hq, hm, hb, q5, q6, q7, q8, q9, q10⟩
          · subst hz; subst hxs
            obtain ⟨cap', k1, k2, k3⟩ := key base cap hq (Nat.zero_le _) ht0
            have el0 : l = 0 := by omega
            have eh0 : hh = 0 := by omega
            subst el0; subst eh0
            refine ⟨rfl, .pure hI k1 ?_⟩
            simp only [List.drop_nil, List.take_nil]
            exact .slEmpty _ _ _ k3
          · obtain ⟨cap', k1, k2, k3⟩ := key _ cap hq q9 q10
            refine ⟨rfl, .pure hI k1 ?_⟩
            by_cases hz : hh - l = 0
            · rw [hz]
              simp only [Nat.zero_mul, List.take_zero]
              rw [hz] at k3
              exact .slEmpty _ _ _ k3
            · have hne : cap' ≠ 0 := by omega
              rw [if_neg hne]
              simp only [Option.map_some, Addr.add_mid]
              refine .sl hm hb ((q5.drop (l * s)).take ((hh - l) * s)) (all_window _ _ q6) (closedL_window _ _ q7) ?_ k2 k3
              rw [← List.drop_drop]
              exact prefix_window _ _ q8
        · cases he
      · cases he
    · -- own
      next id es off len =>
      split at he
      · next l hh m e1 e2 e3 =>
        split at he
        · next hc =>
          cases he
          obtain ⟨c1, c2, c3, c4⟩ := hc
          subst c4
          have hmxs := copXO_some hmx
          have hmB : ∀ cap, len ≤ cap → ∃ m', Bnd (mx.map ρ) cap m' ∧ hh ≤ m' ∧ m' ≤ cap := by
            intro cap hcap
            rcases bnd_of hρ hmx e3 with ⟨q1, q2⟩ | ⟨k, n, q1, q2, q3⟩
            · exact ⟨cap, .inl ⟨q1, rfl⟩, by omega, Nat.le_refl _⟩
            · exact ⟨m, .inr ⟨k, n, q1, q2, q3⟩, c2, by omega⟩
          rcases hr.own_inv with ⟨base, hq, hz⟩ | ⟨b, el', n', cap, hq, hO, hsh, hl, hf⟩
          · subst hz
            obtain ⟨m', b1, b2, b3⟩ := hmB 0 (Nat.le_refl _)
            have hb := bounds_run (P := P) w true (bnd_of hρ hlo e1) (bnd_of hρ hhi e2) b1 c1 b2 b3 h4'
            have el0 : l = 0 := by omega
            have eh0 : hh = 0 := by omega
            have em0 : m' = 0 := by omega
            subst el0; subst eh0; subst em0
            refine ⟨rfl, .pure hI (run _ (by rw [hq]; exact slice_run ht hs hb)) ?_⟩
            exact .ownEmpty _ _ _ _
          · obtain ⟨m', b1, b2, b3⟩ := hmB cap hl
            have hb := bounds_run (P := P) w true (bnd_of hρ hlo e1) (bnd_of hρ hhi e2) b1 c1 b2 b3 h4'
            refine ⟨rfl, .pure hI (run _ (by rw [hq]; exact slice_run ht hs hb)) ?_⟩
            by_cases q : m' = l
            · have : hh - l = 0 := by omega
              rw [if_pos q, this]
              have e0 : m' - l = 0 := by omega
              rw [e0]
              exact .ownEmpty _ _ _ _
            · rw [if_neg q]
              simp only [Option.map_some, Addr.add_mid]
              refine .own hO hsh (by omega) ?_
              have : l * es + (m' - l) * es = m' * es := by rw [← Nat.add_mul]; congr 1; omega
              have : m' * es ≤ cap * es := Nat.mul_le_mul_right _ b3
              omega
        · cases he
      · cases he
end
end Go.Proofs.YtipnedhclbopdaaDoorEv

/- Rows appended to. -/
set_option linter.unusedVariables false
set_option linter.unusedSimpArgs false
namespace Go.Proofs.YtipnedhclbopdaaDoorEv
section
variable {P : Program} {o : Oper} {ρ : Operand → Value} {w w' : World} {O : Nat → Option Nat} {M F : Nat → Prop} {h : Heap} {new n1 n2 : Nat} {e : X → PV}
  (hI : Inv w O M F h) (hρ : ∀ x y, copX x = some y → VR w O F (e y) (ρ x)) (hfree : O new = none ∧ hget h new = none)

include hI in
/-- where a source's cells lie -/
theorem src_cells {v : PV} {c : Value} {n : Nat} {ys : List PV} (hr : VR w O F v c) (hs : srcOf h v = some (n, ys)) (hns : ∀ s, v ≠ .str s) :
    (∃ base cap, c = .slice base n cap ∧ ys = [] ∧ (n = 0 ∨ ∃ b off, base = some ⟨b, off, none⟩)) ∨
    ∃ b off cap cc el fz vs, c = .slice (some ⟨b, off, none⟩) n cap ∧ w.heap[b]? = some (.cells cc el fz) ∧ VRs w O F ys vs ∧ (∀ u ∈ vs, u.oneCell' = true) ∧ closedL ys = true ∧ vs <+: cc.toList.drop off := by
  cases v <;> simp only [srcOf] at hs <;> try (cases hs; done)
  · exact absurd rfl (hns _)
  · cases hs; have := hr.nil_inv; exact .inl ⟨_, _, this, rfl, .inl rfl⟩
  · cases hs
    rcases hr.sl_inv with ⟨base, cap, hq, hz, hxs, ht0⟩ | ⟨b, off, cap, c, el', fz, vs, hq, hm, hb, q5, q6, q7, q8, q9, q10⟩
    · subst hz; exact .inl ⟨_, _, hq, hxs, .inl rfl⟩
    · exact .inr ⟨_, _, _, _, _, _, _, hq, hb, q5, q6, q7, q8⟩
  · next id es off len =>
    cases hB : hget h id with
    | none => rw [hB] at hs; cases hs
    | some B =>
      rw [hB] at hs
      have hbr := hI.blk _ _ hB
      rcases hr.own_inv with ⟨base, hq, hz⟩ | ⟨b, el', n', cap, hq, hO, hsh, hl, hf⟩
      · subst hz
        cases B <;> simp at hs
        · obtain ⟨rfl, rfl⟩ := hs; exact .inl ⟨_, _, hq, rfl, .inl rfl⟩
        · obtain ⟨rfl, rfl⟩ := hs; exact .inl ⟨_, _, hq, rfl, .inl rfl⟩
      · cases B with
        | box cs => cases hs
        | mp es => cases hs
        | row cs =>
          simp at hs
          obtain ⟨rfl, rfl⟩ := hs
          rcases hbr with ⟨_, q⟩ | ⟨b', c, el, fz, vs, q1, q2, q3, q4, q5, q6, q7, q8⟩
          · rw [hO] at q; cases q
          · rw [hO] at q1; cases q1
            exact .inr ⟨_, _, _, _, _, _, _, hq, q3, (q5.drop off).take _, all_window _ _ q6, closedL_window _ _ q7, prefix_window _ _ q8⟩
        | froz cs =>
          simp at hs
          obtain ⟨rfl, rfl⟩ := hs
          rcases hbr with ⟨_, q⟩ | ⟨b', c, el, fz, vs, q1, q2, q3, q5, q6, q7, q8⟩
          · rw [hO] at q; cases q
          · rw [hO] at q1; cases q1
            exact .inr ⟨_, _, _, _, _, _, _, hq, q3, (q5.drop off).take _, all_window _ _ q6, closedL_window _ _ q7, prefix_window _ _ q8⟩

include hI in
theorem src_ok {v : PV} {c : Value} {n : Nat} {ys : List PV} {tx : TypeId} {size : Nat} (hr : VR w O F v c) (hs : srcOf h v = some (n, ys)) (hl : ys.length = n * size)
    (hk : (∃ e', P.underlying tx = some (.slice e')) ∨ P.underlying tx = some .string) :
    ∃ news, Src P size tx c n news w ∧ VRs w O F ys news ∧ closedL ys = true := by
  by_cases hns : ∀ s, v ≠ .str s
  · rcases src_cells hI hr hs hns with ⟨base, cap, rfl, rfl, hb⟩ | ⟨b, off, cap, cc, el, fz, vs, rfl, hb, q5, q6, q7, q8⟩
    · have hl0 : n * size = 0 := by simpa using hl.symm
      refine ⟨[], ?_, .nil, rfl⟩
      cases base with
      | none =>
        rcases hb with rfl | ⟨_, _, q⟩
        · exact ⟨hk, fun _ => rfl, run_firstCells_none w size 0 0 cap, run_firstCells_none w.drew size 0 0 cap, by simp, fun _ h => by cases h⟩
        · cases q
      | some a => exact ⟨hk, fun _ => rfl, run_firstCells_some w size n a n cap [] (by simpa using hl) (by simp), run_firstCells_some w.drew size n a n cap [] (by simpa using hl) (by simp), by simpa using hl, by simp⟩
    · have hlen := q5.length
      exact ⟨vs, ⟨hk, fun _ => rfl, run_firstCells_some w size n _ n cap vs (by omega) (cell_of_prefix hb q8), run_firstCells_some w.drew size n _ n cap vs (by omega) (by simpa using cell_of_prefix hb q8), by omega, q6⟩, q5, q7⟩
  · have : ∃ s, v = .str s := by
      apply Classical.byContradiction
      intro q
      exact hns fun s e => q ⟨s, e⟩
    obtain ⟨s, rfl⟩ := this
    have := hr.str_inv
    subst this
    simp [srcOf] at hs
    obtain ⟨rfl, rfl⟩ := hs
    have hsz : s.toList.length = s.size := by rw [ByteArray.toList_eq]; rfl
    refine ⟨byteCells s, ⟨hk, fun _ => rfl, firstCells_string s w, firstCells_string s w.drew, by rw [byteCells_length]; simp at hl; omega, fun u hu => ?_⟩, ?_, ?_⟩
    · obtain ⟨_, _, rfl⟩ := List.mem_map.1 hu
      rfl
    · unfold byteCells
      have : s.toList = s.data.toList := by rw [ByteArray.toList_eq]
      rw [this]
      induction s.data.toList with
      | nil => exact .nil
      | cons x l ih => exact .cons (.int _ _) ih
    · refine closedL_iff.2 fun c hc => ?_
      obtain ⟨_, _, rfl⟩ := List.mem_map.1 hc
      rfl

theorem After.of_del {id : Nat} {r : PV} {h' : Heap} {v : Value} (k : After w O M F (hdel h id) n1 n2 r h' v w') : After w O M F h n1 n2 r h' v w' := by
  obtain ⟨O', M', F', k1, k2⟩ := k
  refine ⟨O', M', F', k1, k2.inv, k2.stp, k2.ext, k2.out, fun j hj hn => k2.hout j hj ?_, k2.less, k2.lessM, k2.keepF, fun i b B q r => ?_⟩
  · rw [hget_hdel]; split <;> simp_all
  · rcases k2.prov i b B q r with q | ⟨j, C, q1, q2⟩
    · exact .inl q
    · rw [hget_hdel] at q1; split at q1
      · cases q1
      · exact .inr ⟨j, C, q1, q2⟩

theorem Stp.drew (w : World) : Stp (fun _ => False) w w.drew := ⟨Nat.le_refl _, fun _ _ _ => rfl, fun _ _ => rfl, rfl, rfl, rfl⟩

include hI hfree in
/-- a row laid anew, out of what was there and what comes -/
theorem after_grow {t tx ty el : TypeId} {i : TypeInfo} {z : Value} (ht : P.underlying t = some (.slice el)) (hi : P.info? el = some i) (hz : i.zero = some z) (hzs : z.cells.size = i.size) (hpos : 0 < i.size) {base : Option Addr} {sLen sCap n : Nat} {x : Value} {xs ys : List PV} {olds news : List Value}
    (hold : (Builtin.firstCells i.size sLen (.slice base sLen sCap)).run P w.drew = .ok olds.toArray w.drew) (hs : Src P i.size tx x n news w) (hg : sCap < sLen + n) (hm : sLen + n ≤ mostLen) (hby : i.bytes ≤ 16384)
    (hx : VRs w O F xs olds) (hx1 : ∀ u ∈ olds, u.oneCell' = true) (hxc : closedL xs = true) (hxl : olds.length = sLen * i.size) (hy : VRs w O F ys news) (hyc : closedL ys = true) :
    ∃ v w', (Builtin.append_ #[t, tx] ty #[.slice base sLen sCap, x]).run P w = .ok v w' ∧ After w O M F h new (new + stride) (.own new i.size 0 (sLen + n)) (applyU h [(new, some (.row (xs ++ ys)))]) v w' := by
  have hm' : sLen + n ≤ 4294967296 := hm
  have hbb : (sLen + n) * i.bytes ≤ 140737488355328 := by
    have := Nat.mul_le_mul hm' hby
    omega
  refine ⟨_, _, run_append_grow_src (P := P) w t tx ty el i z ht hi hz base sLen sCap olds hold x n news hs hg (by omega) (growslice_fits hg hbb), ?_⟩
  have hgc : sLen + n ≤ grownCap w (sLen + n) sCap el := by unfold grownCap; simp [Question.cut]
  have hnl := hs.newsLen
  have hsz : ((olds ++ news).toArray ++ Builtin.zeroCells z.cells (grownCap w (sLen + n) sCap el - (sLen + n))).size = grownCap w (sLen + n) sCap el * i.size := by
    have : (grownCap w (sLen + n) sCap el - (sLen + n)) * i.size + (sLen + n) * i.size = grownCap w (sLen + n) sCap el * i.size := by rw [← Nat.add_mul]; congr 1; omega
    simp [Builtin.zeroCells, hzs, hxl, hnl]
    rw [Nat.add_mul] at this
    omega
  refine after_row hI hfree (fz := (0, 0)) (el := el) rfl rfl rfl rfl (unfroz00 _) (hx.append hy) ?_ (closedL_append hxc hyc) ?_ hgc (by rw [hsz]; exact Nat.le_refl _)
  · intro u hu
    rcases List.mem_append.1 hu with q | q
    · exact hx1 u q
    · exact hs.one u q
  · simp

include hI hfree in
/-- zeros, behind nothing -/
theorem after_zeros {t tx ty el : TypeId} {k k' : IntKind} {i : TypeInfo} {z : Value} {zs : List PV} (ht : P.underlying t = some (.slice el)) (htx : P.underlying tx = some (.int k)) (hi : P.info? el = some i) (hz : i.zero = some z) (hzs : z.cells.size = i.size) (hpos : 0 < i.size) {m : Nat} (h0 : 0 < m) (hm : m ≤ 16777216) (hby : i.bytes ≤ 16384)
    (hy : ∀ (w : World) (o : Nat → Option Nat) (M : Nat → Prop), VRs w o M zs z.cells.toList) (hy1 : ∀ u ∈ z.cells.toList, u.oneCell' = true) (hyc : closedL zs = true) :
    ∃ v w', (Builtin.append_ #[t, tx] ty #[.slice none 0 0, .int k' (m : Int)]).run P w = .ok v w' ∧ After w O M F h new (new + stride) (.own new i.size 0 m) (applyU h [(new, some (.row ((List.replicate m zs).flatten)))]) v w' := by
  have hbb : m * i.bytes ≤ 274877906944 := by
    have := Nat.mul_le_mul hm hby
    omega
  have hw : IntKind.i64.wrap (m : Int) = m := by rw [IntKind.wrap_i64]; omega
  have hfit := growslice_fits (need := m) (old := 0) (bytes := i.bytes) (by omega) (by omega)
  have hgc : m ≤ grownCap w m 0 el := by unfold grownCap; simp [Question.cut]
  have e1 : ¬ ((m : Int) < 0) := by omega
  have e2 : ¬ (281474976710656 < (m : Int) * (i.bytes : Int)) := by
    have e : (m : Int) * (i.bytes : Int) = ((m * i.bytes : Nat) : Int) := by rw [Int.natCast_mul]
    rw [e]
    omega
  have e3 : m * i.size ≠ 0 := by
    have := Nat.mul_pos h0 hpos
    omega
  have e4 : ¬ (m ≤ 0) := by omega
  have e5 : ¬ (9223372036854775807 < (m : Int)) := by omega
  have e6 : ¬ (281474976710656 < Builtin.nextslicecap m 0 * i.bytes) := by omega
  have hzl : z.cells.size = i.size := hzs
  have hrun : (Builtin.append_ #[t, tx] ty #[.slice none 0 0, .int k' (m : Int)]).run P w = .ok (.slice (some ⟨w.heap.size, 0, none⟩) m (grownCap w m 0 el)) (w.drew.alloc (.cells (Builtin.zeroCells z.cells m ++ Builtin.zeroCells z.cells (grownCap w m 0 el - m)) el)) := by
    simp [Builtin.append_, run_underlying ht, run_underlying htx, sizeOf, typeInfo, zeroValue, hi, hz, asInt, asIntOf, hw, e1, e2, e3, e4, e5, e6, Question.forced, newRow, grownCap, Builtin.firstCells]
    omega
  refine ⟨_, _, hrun, ?_⟩
  have hcells : (Builtin.zeroCells z.cells m).toList = (List.replicate m z.cells.toList).flatten := by
    unfold Builtin.zeroCells
    rw [Array.toList_map, Array.toList_range]
    exact range_mod z.cells m
  refine after_row hI hfree (fz := (0, 0)) (el := el) (vs := (List.replicate m z.cells.toList).flatten) rfl rfl rfl rfl (unfroz00 _) ((hy _ _ _).flat _) (mem_flat hy1 _) (closedL_flat hyc _) ?_ hgc ?_
  · rw [Array.toList_append, hcells]; exact List.prefix_append _ _
  · simp only [Builtin.zeroCells, Array.size_append, Array.size_map, Array.size_range, hzs]
    rw [← Nat.add_mul]
    exact Nat.mul_le_mul_right _ (by omega)
theorem run_append_zero {t tx ty el : TypeId} {k k' : IntKind} {i : TypeInfo} (ht : P.underlying t = some (.slice el)) (htx : P.underlying tx = some (.int k)) (hi : P.info? el = some i) (w : World) :
    (Builtin.append_ #[t, tx] ty #[.slice none 0 0, .int k' 0]).run P w = .ok (.slice none 0 0) w := by
  have hw : IntKind.i64.wrap 0 = 0 := by decide
  simp [Builtin.append_, run_underlying ht, run_underlying htx, sizeOf, typeInfo, hi, asInt, asIntOf, hw]
end
end Go.Proofs.YtipnedhclbopdaaDoorEv

/- Appends, copies, conversions, rows and numbers. -/
set_option linter.unusedVariables false
set_option linter.unusedSimpArgs false
namespace Go.Proofs.YtipnedhclbopdaaDoorEv
section
variable {P : Program} {o : Oper} {ρ : Operand → Value} {w w' : World} {O : Nat → Option Nat} {M F : Nat → Prop} {h : Heap} {new n1 n2 : Nat} {e : X → PV}
  (hI : Inv w O M F h) (hρ : ∀ x y, copX x = some y → VR w O F (e y) (ρ x)) (hfree : O new = none ∧ hget h new = none)

theorem call2_run {c : Call} {b : Builtin} {x y : Operand} {t u : TypeId} (ho : o.op = .call c) (hc1 : c.callee = .builtin b) (hc2 : c.args.toList = [x, y]) (hc3 : c.argTypes.toList = [t, u]) :
    execOp ρ o = (do let d ← resolve ρ c o.type; invoke d.target d.args) ∧ ∃ cs, (resolve ρ c o.type).run P w = .ok { target := .builtin b #[t, u] o.type cs, args := #[ρ x, ρ y] } w := by
  have ea : c.args = #[x, y] := by rw [← Array.toArray_toList (xs := c.args), hc2]
  have et : c.argTypes = #[t, u] := by rw [← Array.toArray_toList (xs := c.argTypes), hc3]
  refine ⟨by simp [execOp, ho], (#[x, y].map fun | .const _ => true | _ => false), ?_⟩
  simp only [resolve, hc1, ea, et]
  have e3 : Array.map ρ #[x, y] = #[ρ x, ρ y] := by simp
  rw [e3]
  rfl

include hI hρ hfree in
theorem s_appmk {t tx el : TypeId} {k : IntKind} {x y : Operand} {x' y' : X} {i : TypeInfo} {z : List PV} {cf : CF} {r : PV} {u : Upd} {c : Call} (ho : o.op = .call c) (hc1 : c.callee = .builtin .append) (hc2 : c.args.toList = [x, y]) (hc3 : c.argTypes.toList = [t, tx])
    (ht : P.underlying t = some (.slice el)) (htx : P.underlying tx = some (.int k)) (hi : P.info? el = some i) (hz : zeroT P el = some z) (hpos : 0 < i.size) (hby : i.bytes ≤ 16384) (hx : copX x = some x') (hy : copX y = some y')
    (he : evalK cf (.appmk i.size z x' y') new e h = some (r, u)) : Res P o ρ w (After w O M F h new (new + stride) r (applyU h u)) := by
  have hr := hρ _ _ hx
  have hry := hρ _ _ hy
  obtain ⟨i', zv, hi', hz1, hz2, hz3, hz4, hz5, hz6⟩ := zeroT_spec hz
  rw [hi] at hi'; cases hi'
  obtain ⟨e1, cs_, e2⟩ := call2_run (P := P) (w := w) (ρ := ρ) ho hc1 hc2 hc3
  have run : ∀ {v w'}, (Builtin.append_ #[t, tx] o.type #[ρ x, ρ y]).run P w = .ok v w' → (execOp ρ o).run P w = .ok (.value v) w' := by
    intro v w' hl
    rw [e1]
    simp [e2, invoke, builtin, hl]
  simp only [evalK] at he
  split at he
  · next k' m q1 q2 =>
    rw [q1] at hr; rw [q2] at hry
    split at he
    · next hc =>
      split at he
      · next h0 =>
        cases he
        subst h0
        refine .val (run (v := .slice none 0 0) (w' := w) ?_) ⟨O, M, F, .nil, Nxt.of_same hI _ _⟩
        rw [hr.nil_inv, hry.int_inv]
        exact run_append_zero ht htx hi w
      · next h0 =>
        cases he
        have hm : ((m.toNat : Nat) : Int) = m := by omega
        obtain ⟨v, w', k1, k2⟩ := after_zeros (P := P) (ty := o.type) (k' := k') (m := m.toNat) hI hfree ht htx hi hz1 hz2 hpos (by omega) (by omega) hby hz4 hz5 hz6
        rw [hm] at k1
        exact .val (run (by rw [hr.nil_inv, hry.int_inv]; exact k1)) k2
    · cases he
  · cases he
include hI hρ hfree in
theorem s_append {t tx el : TypeId} {x y : Operand} {x' y' : X} {i : TypeInfo} {z : List PV} {cf : CF} {r : PV} {u : Upd} {c : Call} (ho : o.op = .call c) (hc1 : c.callee = .builtin .append) (hc2 : c.args.toList = [x, y]) (hc3 : c.argTypes.toList = [t, tx])
    (ht : P.underlying t = some (.slice el)) (hk : (∃ e', P.underlying tx = some (.slice e')) ∨ P.underlying tx = some .string) (hi : P.info? el = some i) (hz : zeroT P el = some z) (hpos : 0 < i.size) (hby : i.bytes ≤ 16384) (hx : copX x = some x') (hy : copX y = some y')
    (he : evalK cf (.append i.size x' y') new e h = some (r, u)) : Res P o ρ w (After w O M F h new (new + stride) r (applyU h u)) := by
  have hr := hρ _ _ hx
  have hry := hρ _ _ hy
  obtain ⟨i', zv, hi', hz1, hz2, hz3, hz4, hz5, hz6⟩ := zeroT_spec hz
  rw [hi] at hi'; cases hi'
  obtain ⟨e1, cs_, e2⟩ := call2_run (P := P) (w := w) (ρ := ρ) ho hc1 hc2 hc3
  have run : ∀ {v w'}, (Builtin.append_ #[t, tx] o.type #[ρ x, ρ y]).run P w = .ok v w' → (execOp ρ o).run P w = .ok (.value v) w' := by
    intro v w' hl
    rw [e1]
    simp [e2, invoke, builtin, hl]
  simp only [evalK] at he
  cases hs : srcOf h (e y') with
  | none => rw [hs] at he; cases he
  | some p =>
    obtain ⟨n, ys⟩ := p
    rw [hs] at he
    simp only at he
    split at he
    · next hl =>
      obtain ⟨news, hsrc, hyv, hyc⟩ := src_ok hI hry hs hl hk
      have hnl := hsrc.newsLen
      -- from a row without cells, or none
      have empty : ∀ (base : Option Addr), ρ x = .slice base 0 0 → n ≤ mostLen → Res P o ρ w (After w O M F h new (new + stride) (.own new i.size 0 n) (applyU h [(new, some (.row ys))])) := by
        intro base hq hm
        by_cases hn : n = 0
        · subst hn
          have hys : ys = [] := by simpa using hl
          subst hys
          have hnews : news = [] := by simpa using hnl
          subst hnews
          refine .val (run (v := .slice base 0 0) (w' := w) ?_) (after_none hI hfree)
          rw [hq]
          exact run_append_nothing w t tx o.type el i ht hi base 0 0 (Nat.le_refl _) _ hsrc
        · have hold : (Builtin.firstCells i.size 0 (.slice base 0 0)).run P w.drew = .ok ([] : List Value).toArray w.drew := by
            cases base with
            | none => exact run_firstCells_none w.drew i.size 0 0 0
            | some a => exact run_firstCells_some w.drew i.size 0 a 0 0 [] (by simp) (by simp)
          obtain ⟨v, w', k1, k2⟩ := after_grow (P := P) (ty := o.type) hI hfree ht hi hz1 hz2 hpos hold hsrc (by omega) (by omega) hby .nil (by simp) rfl (by simp) hyv hyc
          rw [Nat.zero_add] at k2
          exact .val (run (by rw [hq]; exact k1)) k2
      cases hv : e x' <;> rw [hv] at he hr <;> (try simp only at he) <;> try (cases he; done)
      · -- nil
        split at he
        · next hm => cases he; exact empty none hr.nil_inv hm
        · cases he
      · -- shared, without room
        next len tight xs =>
        cases tight with
        | false => simp at he
        | true =>
          simp only at he
          split at he
          · next hc =>
            obtain ⟨hm, hxl⟩ := hc
            rcases hr.sl_inv with ⟨base, cap, hq, hz0, hxs, ht0⟩ | ⟨b, off, cap, c', el', fz, vs, hq, hm2, hb, q5, q6, q7, q8, q9, q10⟩
            · subst hz0
              rw [if_pos rfl] at he
              cases he
              have := ht0 rfl; subst this
              exact empty base hq (by omega)
            · have := q10 rfl; subst this
              by_cases h0 : cap = 0
              · rw [if_pos h0] at he
                cases he
                subst h0
                exact empty _ hq (by omega)
              · rw [if_neg h0] at he
                have q5l := q5.length
                by_cases hn : n = 0
                · rw [if_pos hn] at he
                  cases he
                  subst hn
                  have hnews : news = [] := by simpa using hnl
                  subst hnews
                  refine .val (run (v := ρ x) (w' := w) ?_) ⟨O, M, F, hr, Nxt.of_same hI _ _⟩
                  rw [hq]
                  exact run_append_nothing w t tx o.type el i ht hi _ cap cap (Nat.le_refl _) _ hsrc
                · rw [if_neg hn] at he
                  cases he
                  have hold : (Builtin.firstCells i.size cap (.slice (some ⟨b, off, none⟩) cap cap)).run P w.drew = .ok vs.toArray w.drew :=
                    run_firstCells_some w.drew i.size cap _ cap cap vs (by omega) (by simpa using cell_of_prefix hb q8)
                  obtain ⟨v, w', k1, k2⟩ := after_grow (P := P) (ty := o.type) hI hfree ht hi hz1 hz2 hpos hold hsrc (by omega) hm hby q5 q6 q7 (by omega) hyv hyc
                  exact .val (run (by rw [hq]; exact k1)) k2
          · cases he
      · -- own
        next id es off len =>
        cases hB : hget h id with
        | none => rw [hB] at he; cases he
        | some B =>
          rw [hB] at he
          cases B with
          | box cs => cases he
          | froz cs => cases he
          | mp cs => cases he
          | row cs =>
            simp only at he
            split at he
            · next hc =>
              obtain ⟨hm, hlc, hof, hes⟩ := hc
              subst hof; subst hes
              cases he
              have hne : new ≠ id := by rintro rfl; rw [hfree.2] at hB; cases hB
              have hI' := hI.del id
              have hfree' : O new = none ∧ hget (hdel h id) new = none := ⟨hfree.1, by rw [hget_hdel, if_neg (Ne.symm hne)]; exact hfree.2⟩
              have eu : applyU h [(id, none), (new, some (.row (cs.take (len * i.size) ++ ys)))] = applyU (hdel h id) [(new, some (.row (cs.take (len * i.size) ++ ys)))] := rfl
              rw [eu]
              rcases hr.own_inv with ⟨base, hq, hz0⟩ | ⟨b, el', n', cap, hq, hO, hsh, hl2, hf⟩
              · subst hz0
                simp only [Nat.zero_mul, List.take_zero, List.nil_append, Nat.zero_add]
                by_cases hn : n = 0
                · subst hn
                  have hys : ys = [] := by simpa using hl
                  subst hys
                  have hnews : news = [] := by simpa using hnl
                  subst hnews
                  refine .val (run (v := .slice base 0 0) (w' := w) ?_) (After.of_del (after_none hI' hfree'))
                  rw [hq]
                  exact run_append_nothing w t tx o.type el i ht hi base 0 0 (Nat.le_refl _) _ hsrc
                · have hold : (Builtin.firstCells i.size 0 (.slice base 0 0)).run P w.drew = .ok ([] : List Value).toArray w.drew := by
                    cases base with
                    | none => exact run_firstCells_none w.drew i.size 0 0 0
                    | some a => exact run_firstCells_some w.drew i.size 0 a 0 0 [] (by simp) (by simp)
                  obtain ⟨v, w', k1, k2⟩ := after_grow (P := P) (ty := o.type) hI' hfree' ht hi hz1 hz2 hpos hold hsrc (by omega) (by omega) hby .nil (by simp) rfl (by simp) hyv hyc
                  rw [Nat.zero_add] at k2
                  exact .val (run (by rw [hq]; exact k1)) (After.of_del k2)
              · rcases hI.blk _ _ hB with ⟨_, q⟩ | ⟨b', c', el2, fz, vs, q1, q2, q3, q4, q5, q6, q7, q8⟩
                · rw [hO] at q; cases q
                · rw [hO] at q1; cases q1
                  have hsz : n' = c'.size := by have := shape_of q3; rw [this] at hsh; cases hsh; rfl
                  subst hsz
                  have q5l := q5.length
                  have w1 := q5.take (len * i.size)
                  have hpre : vs.take (len * i.size) <+: c'.toList := (List.take_prefix _ _).trans q8
                  have hl8 : vs.length ≤ c'.size := by have := q8.length_le; simpa using this
                  by_cases hroom : len + n ≤ cap
                  · -- in place
                    have hcap : (len + n) * i.size ≤ cap * i.size := Nat.mul_le_mul_right _ hroom
                    rw [Nat.add_mul] at hcap
                    have hth := there_of q3 q4 (len * i.size) news.length (by omega)
                    have hrun := run_append_room_src (P := P) w t tx o.type el i ht hi b 0 len cap (ρ y) n news hsrc hroom (fun j hj => by simpa using (hth j hj).1) (fun j hj => by simpa using (hth j hj).2)
                    rw [Nat.zero_add] at hrun
                    obtain ⟨c2, r1, r2, r3, r4⟩ := setCells_heap news (len * i.size) w c' q3 (by omega)
                    have hs : Stp F w (w.setCells b (len * i.size) news) := r4.mono (fun x _ q => q ▸ hI.sub b q2)
                    have hext2 : ∀ id b', O id = some b' → putO O new b id = some b' := fun j b' q => by
                      unfold putO; split
                      · next e => subst e; rw [hfree.1] at q; cases q
                      · exact q
                    refine .val (run (by rw [hq]; exact hrun)) ⟨putO O new b, M, F, .own (by simp [putO]) (shape_of r1) hroom (by omega), ⟨⟨fun j C hC => ?_, hI.mlt.same hs (fun _ q => q), hI.sub, fun j k x C D hC hD hj hk => ?_⟩, r4.mono (fun x _ q => q ▸ q2), hext2, fun j q => ?_, fun j q hj => ?_, fun _ _ q => q, fun _ _ q => q, fun _ q _ => q, fun j b2 C q rr => ?_⟩⟩
                    · simp only [applyU, hget_hset, hget_hdel] at hC
                      split at hC
                      · next q =>
                        subst q; cases hC
                        refine .inr ⟨b, c2, el2, fz, vs.take (len * i.size) ++ news, by simp [putO], q2, r1, r2 ▸ q4, (VRs.step hs hext2 (fun _ _ q => q) w1).append (VRs.step hs hext2 (fun _ _ q => q) hyv), ?_, closedL_append (closedL_take _ q7) hyc, ?_⟩
                        · intro u hu
                          rcases List.mem_append.1 hu with q | q
                          · exact q6 u (List.mem_of_mem_take q)
                          · exact hsrc.one u q
                        · rw [r3]
                          obtain ⟨rr, hrr⟩ := q8
                          rw [← hrr, List.take_append_of_le_length (by omega)]
                          exact List.prefix_append _ _
                      · next q =>
                        split at hC
                        · cases hC
                        · next q' => exact BR.step r4 (fun x e => e ▸ hI.sub b q2) hext2 (fun _ _ q => q) (fun x hx => ⟨fun e => q' (hI.inj id j b _ C hB hC hO (e ▸ hx)), fun q => q⟩) (fun e => by unfold putO; rw [if_neg (Ne.symm q)]; exact e) (hI.blk j C hC)
                    · simp only [applyU, hget_hset, hget_hdel] at hC hD
                      unfold putO at hj hk
                      by_cases e1 : new = j <;> by_cases e2 : new = k
                      · omega
                      · rw [if_pos e1.symm] at hj; rw [if_neg (Ne.symm e2)] at hk; rw [if_neg e2] at hD
                        cases hj
                        split at hD
                        · cases hD
                        · next q' => exact absurd (hI.inj id k b _ D hB hD hO hk) q'
                      · rw [if_pos e2.symm] at hk; rw [if_neg (Ne.symm e1)] at hj; rw [if_neg e1] at hC
                        cases hk
                        split at hC
                        · cases hC
                        · next q' => exact absurd (hI.inj id j b _ C hB hC hO hj) q'
                      · rw [if_neg (Ne.symm e1)] at hj; rw [if_neg (Ne.symm e2)] at hk; rw [if_neg e1] at hC; rw [if_neg e2] at hD
                        split at hC
                        · cases hC
                        · split at hD
                          · cases hD
                          · exact hI.inj j k x C D hC hD hj hk
                    · unfold putO; rw [if_neg]; rintro rfl; exact q ⟨Nat.le_refl _, stride_pos _⟩
                    · simp only [applyU, hget_hset, hget_hdel]
                      rw [if_neg]
                      · split <;> simp_all
                      · rintro rfl; exact q ⟨Nat.le_refl _, stride_pos _⟩
                    · simp only [applyU, hget_hset, hget_hdel] at q
                      unfold putO at rr
                      by_cases e : new = j
                      · rw [if_pos e.symm] at rr; cases rr; exact .inr ⟨id, _, hB, hO⟩
                      · rw [if_neg (Ne.symm e)] at rr; rw [if_neg e] at q
                        split at q
                        · cases q
                        · exact .inr ⟨j, C, q, rr⟩
                  · -- anew
                    have hold : (Builtin.firstCells i.size len (.slice (some ⟨b, 0, none⟩) len cap)).run P w.drew = .ok (vs.take (len * i.size)).toArray w.drew :=
                      run_firstCells_some w.drew i.size len _ len cap _ (by simp; omega) (by simpa using cell_of_prefix (off := 0) q3 (by simpa using hpre))
                    obtain ⟨v, w', k1, k2⟩ := after_grow (P := P) (ty := o.type) hI' hfree' ht hi hz1 hz2 hpos hold hsrc (by omega) hm hby w1 (fun u hu => q6 u (List.mem_of_mem_take hu)) (closedL_take _ q7) (by simp; omega) hyv hyc
                    exact .val (run (by rw [hq]; exact k1)) (After.of_del k2)
            · cases he
    · cases he
end
end Go.Proofs.YtipnedhclbopdaaDoorEv

/- Copies, conversions, rows and numbers made, equality, least and greatest; rows shared from here on. -/
set_option linter.unusedVariables false
set_option linter.unusedSimpArgs false
namespace Go.Proofs.YtipnedhclbopdaaDoorEv

theorem applyU_append (h : Heap) : ∀ (a b : Upd), applyU h (a ++ b) = applyU (applyU h a) b
  | [], b => rfl
  | (k, some x) :: a, b => by simp only [List.cons_append, applyU]; exact applyU_append _ a b
  | (k, none) :: a, b => by simp only [List.cons_append, applyU]; exact applyU_append _ a b

mutual
theorem PV.peek_ids {h : Heap} : ∀ {v v' : PV}, v.peek h = some v' → ∀ id ∈ v.ids, ∃ cs, hget h id = some (.row cs) ∨ hget h id = some (.froz cs)
  | .agg cs, v', hp, id, hid => by
    simp only [PV.peek] at hp
    cases hl : peekL h cs with
    | none => rw [hl] at hp; cases hp
    | some l => exact peekL_ids hl id (by simpa [PV.ids] using hid)
  | .tup cs, v', hp, id, hid => by
    simp only [PV.peek] at hp
    cases hl : peekL h cs with
    | none => rw [hl] at hp; cases hp
    | some l => exact peekL_ids hl id (by simpa [PV.ids] using hid)
  | .own i es off len, v', hp, id, hid => by
    simp only [PV.peek] at hp
    simp [PV.ids] at hid; subst hid
    cases hB : hget h id with
    | none => rw [hB] at hp; cases hp
    | some B => rw [hB] at hp; cases B <;> simp at hp
                · exact ⟨_, .inl rfl⟩
                · exact ⟨_, .inr rfl⟩
  | .fn f a b, v', hp, id, hid => by
    simp only [PV.peek] at hp
    cases hl : peekL h a with
    | none => rw [hl] at hp; cases hp
    | some l =>
      cases hl2 : peekL h b with
      | none => rw [hl, hl2] at hp; cases hp
      | some l2 =>
        simp [PV.ids] at hid
        rcases hid with q | q
        · exact peekL_ids hl id q
        · exact peekL_ids hl2 id q
  | .ptr _ _, _, hp, _, _ => by simp [PV.peek] at hp
  | .map _, _, hp, _, _ => by simp [PV.peek] at hp
  | .int _ _, _, _, _, hid => by simp [PV.ids] at hid
  | .bool _, _, _, _, hid => by simp [PV.ids] at hid
  | .str _, _, _, _, hid => by simp [PV.ids] at hid
  | .flt _ _, _, _, _, hid => by simp [PV.ids] at hid
  | .cpx _ _ _, _, _, _, hid => by simp [PV.ids] at hid
  | .nil, _, _, _, hid => by simp [PV.ids] at hid
  | .sl _ _ _, _, _, _, hid => by simp [PV.ids] at hid
  | .rop _, _, _, _, hid => by simp [PV.ids] at hid
  | .cp v, _, hp, id, hid => by
    simp only [PV.peek] at hp
    cases hl : v.peek h with
    | none => rw [hl] at hp; cases hp
    | some v' => exact PV.peek_ids hl id (by simpa [PV.ids] using hid)
  | .nilp, _, _, _, hid => by simp [PV.ids] at hid
  | .nilfn, _, _, _, hid => by simp [PV.ids] at hid
  | .undef, _, _, _, hid => by simp [PV.ids] at hid
theorem peekL_ids {h : Heap} : ∀ {vs vs' : List PV}, peekL h vs = some vs' → ∀ id ∈ idsL vs, ∃ cs, hget h id = some (.row cs) ∨ hget h id = some (.froz cs)
  | [], _, _, _, hid => by simp [idsL] at hid
  | v :: r, vs', hp, id, hid => by
    simp only [peekL] at hp
    cases hl : v.peek h with
    | none => rw [hl] at hp; cases hp
    | some l =>
      cases hl2 : peekL h r with
      | none => rw [hl, hl2] at hp; cases hp
      | some l2 =>
        simp [idsL] at hid
        rcases hid with q | q
        · exact PV.peek_ids hl id q
        · exact peekL_ids hl2 id q
end

section
variable {P : Program} {o : Oper} {ρ : Operand → Value} {w w' : World} {O : Nat → Option Nat} {M F : Nat → Prop} {h : Heap} {new n1 n2 : Nat} {e : X → PV}
  (hI : Inv w O M F h) (hρ : ∀ x y, copX x = some y → VR w O F (e y) (ρ x)) (hfree : O new = none ∧ hget h new = none)

/-- the blocks of rows that are shared from here on are not one's own -/
def Less (O : Nat → Option Nat) (M : Nat → Prop) (l : List Nat) : Nat → Prop := fun b => M b ∧ ∀ id ∈ l, O id ≠ some b

include hI in
theorem Inv.freezeIds {l : List Nat} (hl : ∀ id ∈ l, ∃ cs, hget h id = some (.row cs) ∨ hget h id = some (.froz cs)) : Inv w O (Less O M l) (Less O F l) (applyU h (frz h l)) := by
  refine hI.freeze (fun b q => q.1) (fun b q => ⟨hI.sub b q.1, q.2⟩) l (fun id B b hB hO hM => ?_) (fun id hid b cs _ hO q => q.2 id hid hO)
  by_cases q : ∀ id ∈ l, O id ≠ some b
  · exact .inl ⟨hM, q⟩
  · simp only [Classical.not_forall, ne_eq, Decidable.not_not] at q
    obtain ⟨id', hid', hO'⟩ := q
    obtain ⟨cs, hc⟩ := hl id' hid'
    rcases hc with hc | hc
    · have := hI.inj id' id b _ _ hc hB hO' hO
      subst this
      rw [hc] at hB; cases hB
      exact .inr ⟨hid', cs, rfl⟩
    · rcases hI.blk _ _ hc with ⟨_, q⟩ | ⟨b', c, el, fz, vs, q1, q2, _⟩
      · rw [hO'] at q; cases q
      · rw [hO'] at q1; cases q1; exact absurd (hI.sub _ hM) q2
include hI in
theorem less_keeps {l : List Nat} (hl : ∀ id ∈ l, ∃ cs, hget h id = some (.row cs) ∨ hget h id = some (.froz cs)) {b : Nat} (hF : F b) (hM : ¬ M b) : Less O F l b := by
  refine ⟨hF, fun id hid hO => ?_⟩
  obtain ⟨cs, hc⟩ := hl id hid
  rcases hc with hc | hc
  · rcases hI.blk _ _ hc with ⟨_, q⟩ | ⟨b', c, el, fz, vs, q1, q2, _⟩
    · rw [hO] at q; cases q
    · rw [hO] at q1; cases q1; exact hM q2
  · rcases hI.blk _ _ hc with ⟨_, q⟩ | ⟨b', c, el, fz, vs, q1, q2, _⟩
    · rw [hO] at q; cases q
    · rw [hO] at q1; cases q1; exact q2 hF
theorem hget_frz_none {l : List Nat} {j : Nat} (hj : hget h j = none) : hget (applyU h (frz h l)) j = none := by
  have hu : ∀ l, uget (frz h l) j = none := by
    intro l
    induction l with
    | nil => rfl
    | cons i l ih =>
      simp only [frz]
      cases hi : hget h i with
      | none => exact ih
      | some B =>
        cases B with
        | row cs =>
          simp only [uget, ih]
          rw [if_neg]
          rintro rfl; rw [hi] at hj; cases hj
        | box cs => exact ih
        | froz cs => exact ih
        | mp es => exact ih
  rw [hget_applyU, hu]; exact hj
theorem frz_live {l : List Nat} {j : Nat} {C : Blk} (hj : hget (applyU h (frz h l)) j = some C) : ∃ D, hget h j = some D := by
  cases hh : hget h j with
  | none => rw [hget_frz_none hh] at hj; cases hj
  | some D => exact ⟨D, rfl⟩
include hI in
theorem After.of_less {l : List Nat} {r : PV} {h' : Heap} {v : Value} (hl : ∀ id ∈ l, ∃ cs, hget h id = some (.row cs) ∨ hget h id = some (.froz cs)) (k : After w O (Less O M l) (Less O F l) (applyU h (frz h l)) n1 n2 r h' v w') : After w O M F h n1 n2 r h' v w' := by
  obtain ⟨O', M', F', k1, k2⟩ := k
  exact ⟨O', M', F', k1, k2.inv, k2.stp.mono (fun _ _ q => q.1), k2.ext, k2.out, fun j hj hn => k2.hout j hj (hget_frz_none hn), fun b hb q => (k2.less b hb q).1, fun b hb q => (k2.lessM b hb q).1, fun b hF hM => k2.keepF b (less_keeps hI hl hF hM) (fun q => hM q.1), fun i b B q r => (k2.prov i b B q r).imp (fun q => q) (fun ⟨j, C, q1, q2⟩ => (frz_live q1).elim fun D hD => ⟨j, D, hD, q2⟩)⟩

include hI hρ hfree in
theorem s_s2b {t t' el : TypeId} {x : Operand} {x' : X} {s : ByteArray} (ho : o.op = .convert t t' x) (h1 : P.underlying t = some .string) (h2 : P.underlying t' = some (.slice el)) (h3 : P.underlying el = some (.int .u8)) (hx : copX x = some x') (hv : e x' = .str s) :
    Res P o ρ w (After w O M F h new (new + stride) (.own new 1 0 s.size) (applyU h [(new, some (.row (s.toList.map fun b => .int .u8 b.toNat)))])) := by
  have hr := hρ _ _ hx
  rw [hv] at hr
  have hq := hr.str_inv
  have hrun := run_bytes_of_string (P := P) w t t' el s h1 h2 h3
  have hge : s.size ≤ grownCap w s.size 0 el := grownCap_ge w s.size 0 el
  have hsz : (bytesRow s (grownCap w s.size 0 el)).size = grownCap w s.size 0 el := by
    have : s.data.size = s.size := rfl
    simp [bytesRow, this]; omega
  refine .val (v := .slice (some ⟨w.heap.size, 0, none⟩) s.size (grownCap w s.size 0 el)) (w' := w.drew.alloc (.cells (bytesRow s (grownCap w s.size 0 el)) el ((bytesRow s (grownCap w s.size 0 el)).size, (bytesRow s (grownCap w s.size 0 el)).size + 1))) (by simp only [execOp, ho, hq, Sem.run_bind, hrun, Result.andThen_ok]; rfl)
    (after_row hI hfree (vs := byteCells s) rfl rfl rfl rfl (by rw [hsz]; exact unfroz_end _) ?_ ?_ ?_ ?_ hge (by rw [hsz]; omega))
  · unfold byteCells
    have : s.toList = s.data.toList := by rw [ByteArray.toList_eq]
    rw [this]
    induction s.data.toList with
    | nil => exact .nil
    | cons x l ih => exact .cons (.int _ _) ih
  · intro u hu
    obtain ⟨_, _, rfl⟩ := List.mem_map.1 hu
    rfl
  · refine closedL_iff.2 fun c hc => ?_
    obtain ⟨_, _, rfl⟩ := List.mem_map.1 hc
    rfl
  · unfold bytesRow byteCells
    simp

theorem bytesOf_ints : ∀ {cs : List PV} {l : List UInt8} {vs : List Value}, bytesOf cs = some l → VRs w O F cs vs → ∃ ns : List Int, vs = ns.map (Value.int .u8) ∧ ns.map (fun n => UInt8.ofNat n.toNat) = l
  | [], l, vs, hb, hv => by simp [bytesOf] at hb; subst hb; cases hv; exact ⟨[], rfl, rfl⟩
  | c :: cs, l, vs, hb, hv => by
    cases hv with
    | cons h1 h2 =>
      cases c <;> (try simp only [bytesOf] at hb) <;> try (cases hb; done)
      next k n =>
      cases k <;> (try simp only [bytesOf] at hb) <;> try (cases hb; done)
      cases hr : bytesOf cs with
      | none => rw [hr] at hb; cases hb
      | some l' =>
        rw [hr] at hb; cases hb
        obtain ⟨ns, q1, q2⟩ := bytesOf_ints hr h2
        have := h1.int_inv
        subst this; subst q1; subst q2
        exact ⟨n :: ns, rfl, rfl⟩
theorem foldl_push : ∀ (ns : List Int) (r : ByteArray), ns.foldl (fun r n => r.push (UInt8.ofNat n.toNat)) r = ⟨r.data ++ (ns.map (fun n => UInt8.ofNat n.toNat)).toArray⟩
  | [], r => by simp
  | n :: ns, r => by
    simp only [List.foldl_cons, List.map_cons]
    rw [foldl_push ns]
    simp [ByteArray.push]

include hI hρ in
theorem s_b2s {t t' el : TypeId} {x : Operand} {x' : X} {cf : CF} {r : PV} {u : Upd} (ho : o.op = .convert t t' x) (h1 : P.underlying t = some (.slice el)) (h2 : P.underlying t' = some .string) (h3 : P.underlying el = some (.int .u8)) (hx : copX x = some x')
    (he : evalK cf (.b2s x') new e h = some (r, u)) : u = [] ∧ Res P o ρ w (After w O M F h n1 n2 r h) := by
  have hr := hρ _ _ hx
  simp only [evalK] at he
  have hns : ∀ s, e x' ≠ .str s := by rintro s q; rw [q] at he; cases he
  have he2 : (match srcOf h (e x') with
      | none => none
      | some (n, cs) => if cs.length = n then (match bytesOf cs with | some l => some (PV.str ⟨l.toArray⟩, ([] : Upd)) | none => none) else none) = some (r, u) := by
    split at he
    · next q => exact absurd q (hns _)
    · exact he
  cases hs : srcOf h (e x') with
  | none => rw [hs] at he2; cases he2
  | some p =>
    obtain ⟨n, cs⟩ := p
    rw [hs] at he2
    simp only at he2
    split at he2
    · next hl =>
      cases hb : bytesOf cs with
      | none => rw [hb] at he2; cases he2
      | some l =>
        rw [hb] at he2; cases he2
        refine ⟨rfl, .pure hI (v := .string ⟨l.toArray⟩) ?_ (.str _)⟩
        have hconv : ∀ a n c, ρ x = .slice a n c → (convert t t' (ρ x)).run P w = (Conv.bytesToString (.slice a n c)).run P w := fun a n c q => by
          rw [q]; exact run_convert_bytes_string w t t' el a n c h1 h3 h2
        have fin : (convert t t' (ρ x)).run P w = .ok (.string ⟨l.toArray⟩) w → (execOp ρ o).run P w = .ok (.value (.string ⟨l.toArray⟩)) w := fun q => by
          simp only [execOp, ho, Sem.run_bind, q, Result.andThen_ok]; rfl
        rcases src_cells hI hr hs hns with ⟨base, cap, hq, hys, hbase⟩ | ⟨b, off, cap, cc, el2, fz, vs, hq, hb2, q5, q6, q7, q8⟩
        · subst hys
          simp at hl
          subst hl
          simp [bytesOf] at hb; subst hb
          refine fin ?_
          rw [hconv _ _ _ hq]
          cases base with
          | none => rfl
          | some a =>
            exact run_bytesToString (P := P) w a 0 cap [] (by simp [loadCells, loadCellsFrom])
        · obtain ⟨ns, e1, e2⟩ := bytesOf_ints hb q5
          have hlen := q5.length
          refine fin ?_
          rw [hconv _ _ _ hq]
          have hld := run_load_cells P hb2 q8 (n := n) (by omega)
          rw [e1] at hld
          rw [run_bytesToString w _ n cap ns hld, foldl_push, e2]
          simp
    · cases he2

include hI hρ hfree in
theorem s_mkslice {t el : TypeId} {l c : Operand} {l' c' : X} {i : TypeInfo} {z : List PV} {cf : CF} {r : PV} {u : Upd} (ho : o.op = .makeSlice t l c) (ht : P.underlying t = some (.slice el)) (hi : P.info? el = some i) (hz : zeroT P el = some z) (hby : i.bytes ≤ 65536) (hl : copX l = some l') (hc : copX c = some c')
    (he : evalK cf (.mkslice i.size z l' c') new e h = some (r, u)) : Res P o ρ w (After w O M F h new (new + stride) r (applyU h u)) := by
  have h1 := hρ _ _ hl
  have h2 := hρ _ _ hc
  obtain ⟨i', zv, hi', hz1, hz2, hz3, hz4, hz5, hz6⟩ := zeroT_spec hz
  rw [hi] at hi'; cases hi'
  simp only [evalK] at he
  split at he
  · next k1 a k2 b e1 e2 =>
    rw [e1] at h1; rw [e2] at h2
    split at he
    · next hcnd =>
      obtain ⟨rfl, h0, hm, hm2⟩ := hcnd
      cases he
      have hbb : (i.bytes : Int) * a ≤ 281474976710656 := by
        have : (i.bytes : Int) * a ≤ 65536 * a := Int.mul_le_mul_of_nonneg_right (by omega) h0
        omega
      have hrun := run_makeSlice (P := P) (w := w) t el i zv ht hi hz1 k1 k2 a a h0 (Int.le_refl _) hm hbb (by omega)
      have hcells : (madeCells zv.cells (a.toNat * i.size)).toList = (List.replicate a.toNat zv.cells.toList).flatten := by
        unfold madeCells
        rw [← hz2, Array.toList_map, Array.toList_range]
        exact range_mod zv.cells a.toNat
      refine .val (v := .slice (some ⟨w.heap.size, 0, none⟩) a.toNat a.toNat) (w' := w.alloc (.cells (madeCells zv.cells (a.toNat * i.size)) el)) (by simp only [execOp, ho, h1.int_inv, h2.int_inv, Sem.run_bind, hrun, Result.andThen_ok]; rfl)
        (after_row hI hfree (fz := (0, 0)) (el := el) (vs := (List.replicate a.toNat zv.cells.toList).flatten) rfl rfl rfl rfl (unfroz00 _) ((hz4 _ _ _).flat _) (mem_flat hz5 _) (closedL_flat hz6 _) (by rw [hcells]; exact List.prefix_rfl) (Nat.le_refl _) (by rw [size_madeCells]; exact Nat.le_refl _))
    · cases he
  · cases he
end
end Go.Proofs.YtipnedhclbopdaaDoorEv

