/- General words (6): an evaluator of the model's code, and that what it answers the model answers. -/
import Derived.Test.YtoihpjpgihhcjaaEv4
import Derived.OpenShut
import Derived.Lib.SmallJoins
import Derived.Deep.Slices
import Derived.Below
import Derived.WideShapes
import Derived.RangeFuncNested
import Derived.RangeFuncFrom
import Derived.RangeFuncBound
import Derived.RangeFuncCalls
import Derived.RangeFuncLeaves
import Derived.RangeFuncBox
import Derived.Shelf.Abstract
import Derived.WalkKit
import Derived.OwnWalkIn
import Derived.TacticsInMore
import Derived.LoopNIn
import Derived.LoopIn
/- What comes in, as the evaluator's values; the row. -/
set_option linter.unusedVariables false
set_option linter.unusedSimpArgs false
namespace Go.Proofs.YtoihpjpgihhcjaaEv
open Go Go.ChangeShapes Go.WideShapes Go.Deep Go.RowKit
def O0 : Nat → Option Nat := fun _ => none
def F0 : Nat → Prop := fun _ => False
/-- the cells stand for what is told -/
structure Cel (w : World) (xs : List PV) (cs : List Value) : Prop where
  vr : VRs w O0 F0 xs cs
  one : ∀ v ∈ cs, v.oneCell' = true
  clo : closedL xs = true
theorem Cel.nil {w : World} : Cel w [] [] := ⟨.nil, fun v hv => (by cases hv), rfl⟩
theorem Cel.append {w : World} {xs ys : List PV} {cs ds : List Value} (h : Cel w xs cs) (k : Cel w ys ds) : Cel w (xs ++ ys) (cs ++ ds) :=
  ⟨h.vr.append k.vr, fun v hv => (List.mem_append.1 hv).elim (h.one v) (k.one v), closedL_append h.clo k.clo⟩
/-- Whatever reads at type t holds the cells of an 'a' that is 'ok'. -/
def OpensE {α : Type} (P : Program) (t : TypeId) (sz : Nat) (ec : α → List PV) (ok : α → Prop) : Prop :=
  ∀ (H : Type) (enc : TypeId × Value → H) (w : World) (fuel : Nat) (cs : List Value) (x : DataW H × List MemPlace), DataW.trod enc P w 0 (fun _ => true) true fuel t cs = some x → ∃ a : α, Cel w (ec a) cs ∧ ok a
theorem OpensE.int {P : Program} {t : TypeId} {k : IntKind} (ht : P.underlying t = some (.int k)) : OpensE P t 1 (fun n => [.int k n]) (fun n => (Lit.int k n).wf = true) := fun H enc w fuel cs x h => by
  obtain ⟨n, rfl, _, hw⟩ := DataW.trod_int ht h
  exact ⟨n, ⟨.cons (.int k n) .nil, by simp [Value.oneCell'], rfl⟩, hw⟩
theorem OpensE.bool {P : Program} {t : TypeId} (ht : P.underlying t = some .bool) : OpensE P t 1 (fun b => [.bool b]) (fun _ => True) := fun H enc w fuel cs x h => by
  obtain ⟨b, rfl, _⟩ := DataW.trod_bool ht h
  exact ⟨b, ⟨.cons (.bool b) .nil, by simp [Value.oneCell'], rfl⟩, trivial⟩
theorem OpensE.string {P : Program} {t : TypeId} (ht : P.underlying t = some .string) : OpensE P t 1 (fun s => [.str s]) (fun s => s.size ≤ maxLen) := fun H enc w fuel cs x h => by
  obtain ⟨s, rfl, _, hs⟩ := DataW.trod_string ht h
  exact ⟨s, ⟨.cons (.str s) .nil, by simp [Value.oneCell'], rfl⟩, hs⟩
theorem OpensE.iso {α β : Type} {P : Program} {t : TypeId} {sz : Nat} {k : α → List PV} {ok : α → Prop} (h : OpensE P t sz k ok) (g : α → β) {k2 : β → List PV} {ok2 : β → Prop} (hg : ∀ a, k2 (g a) = k a) (ho : ∀ a, ok a → ok2 (g a)) : OpensE P t sz k2 ok2 := fun H enc w fuel cs x hx => by
  obtain ⟨a, h1, h2⟩ := h H enc w fuel cs x hx
  exact ⟨g a, by rw [hg]; exact h1, ho a h2⟩
/-- The fields from place 'off' on. -/
def OpensFE {α : Type} (P : Program) (fs : List Field) (off sz : Nat) (ec : α → List PV) (ok : α → Prop) : Prop :=
  ∀ (H : Type) (enc : TypeId × Value → H) (w : World) (n : Nat) (cs : List Value), cs.length = off + sz → (∀ f ∈ fs, ∃ y, DataW.trod enc P w 0 (fun _ => true) true n f.type ((cs.drop f.offset).take (P.cellsOf f.type)) = some y) → ∃ a : α, Cel w (ec a) (cs.drop off) ∧ ok a
theorem OpensFE.one {α : Type} {P : Program} {f : Field} {off sz : Nat} {ec : α → List PV} {ok : α → Prop} (h : OpensE P f.type sz ec ok) (ho : f.offset = off) (hs : P.cellsOf f.type = sz) : OpensFE P [f] off sz ec ok := fun H enc w n cs hl hf => by
  obtain ⟨y, hy⟩ := hf f (List.mem_singleton.2 rfl)
  rw [ho, hs, List.take_of_length_le (by rw [List.length_drop]; omega)] at hy
  exact h H enc w n _ y hy
theorem OpensFE.cons {α β : Type} {P : Program} {f : Field} {fs : List Field} {off sz sz2 : Nat} {ec : α → List PV} {ec2 : β → List PV} {ok : α → Prop} {ok2 : β → Prop} (h : OpensE P f.type sz ec ok) (ho : f.offset = off) (hs : P.cellsOf f.type = sz)
    (h2 : OpensFE P fs (off + sz) sz2 ec2 ok2) : OpensFE P (f :: fs) off (sz + sz2) (fun p : α × β => ec p.1 ++ ec2 p.2) (fun p => ok p.1 ∧ ok2 p.2) := fun H enc w n cs hl hf => by
  obtain ⟨y, hy⟩ := hf f (List.mem_cons_self)
  rw [ho, hs] at hy
  obtain ⟨a, ha, hoka⟩ := h H enc w n _ y hy
  obtain ⟨b, hb, hokb⟩ := h2 H enc w n cs (by omega) (fun f' hf' => hf f' (List.mem_cons_of_mem _ hf'))
  refine ⟨(a, b), ?_, hoka, hokb⟩
  have := ha.append hb
  rw [← List.drop_drop, List.take_append_drop] at this
  exact this
theorem OpensE.struct {α : Type} {P : Program} {t : TypeId} {fs : Array Field} {sz : Nat} {ec : α → List PV} {ok : α → Prop} (ht : P.underlying t = some (.struct fs)) (hc : P.cellsOf t = sz) (h : OpensFE P fs.toList 0 sz ec ok) : OpensE P t sz ec ok := fun H enc w fuel cs x hx => by
  obtain ⟨xs, n, _, rfl, hl, hlen, hf⟩ := DataW.trod_struct ht hx
  obtain ⟨a, h1, h2⟩ := h H enc w n cs (by omega) (fun f hf' => by
    obtain ⟨i, hi, rfl⟩ := List.getElem_of_mem hf'
    have hx' : fs[i]? = some fs.toList[i] := by rw [← Array.getElem?_toList]; exact List.getElem?_eq_getElem hi
    have hxs : i < xs.length := by rw [hlen]; simpa using hi
    exact ⟨_, (hf i _ hx').trans (List.getElem?_eq_getElem hxs)⟩)
  exact ⟨a, by simpa using h1, h2⟩
def encU8 (b : UInt8) : List PV := [.int .u8 b.toNat]
theorem byte_of {n : Int} (h : (Lit.int .u8 n).wf = true) : ∃ b : UInt8, n = (b.toNat : Int) := by
  have h1 : 0 ≤ n ∧ n < 256 := by
    simp only [Lit.wf, Bool.and_eq_true, decide_eq_true_eq] at h
    have e1 : IntKind.u8.min = 0 := by decide
    have e2 : IntKind.u8.max = 255 := by decide
    omega
  refine ⟨UInt8.ofNat n.toNat, ?_⟩
  rw [UInt8.toNat_ofNat']
  omega
theorem OpensE.byte {P : Program} {t : TypeId} (ht : P.underlying t = some (.int .u8)) : OpensE P t 1 (fun b => encU8 b) (fun _ => True) := fun H enc w fuel cs x h => by
  obtain ⟨n, rfl, _, hw⟩ := DataW.trod_int ht h
  obtain ⟨b, rfl⟩ := byte_of hw
  exact ⟨b, ⟨.cons (.int .u8 _) .nil, by simp [Value.oneCell'], rfl⟩, trivial⟩
theorem wf_i64 {n : Int} (h : (Lit.int .i64 n).wf = true) : -9223372036854775808 ≤ n ∧ n ≤ 9223372036854775807 := by
  simp only [Lit.wf, Bool.and_eq_true, decide_eq_true_eq] at h
  have e1 : IntKind.i64.min = -9223372036854775808 := by decide
  have e2 : IntKind.i64.max = 9223372036854775807 := by decide
  omega
theorem cell_at {w : World} {a : Addr} {v : Value} (h : w.cell? a = some v) : ∃ c el fz, w.heap[a.block]? = some (.cells c el fz) ∧ a.spot = none ∧ c[a.off]? = some v := by
  unfold World.cell? at h
  split at h
  · next c el fz hb =>
    split at h
    · cases h
    · next hs => exact ⟨c, el, fz, hb, by simpa using hs, h⟩
  · cases h
theorem take_ext {l : List Value} {off n : Nat} {cs : List Value} (hl : cs.length = n) (h : ∀ i, i < n → l[off + i]? = cs[i]?) : (l.drop off).take n = cs := by
  apply List.ext_getElem?
  intro i
  rw [List.getElem?_take]
  split
  · next hi => rw [List.getElem?_drop, h i hi]
  · next hi => rw [List.getElem?_eq_none (by omega)]
theorem OpensE.slice {α : Type} {P : Program} {t e : TypeId} {sz : Nat} {ec : α → List PV} {ok : α → Prop} (ht : P.underlying t = some (.slice e)) (hc : P.cellsOf e = sz) (hp : 0 < sz) (h : OpensE P e sz ec ok) :
    OpensE P t 1 (fun l : List α => [.sl l.length false (flat ec l)]) (fun l => l.length ≤ maxLen ∧ ∀ x ∈ l, ok x) := fun H enc w fuel cs x hx => by
  rcases open_slice ht hx with ⟨rfl, _⟩ | ⟨a, len, cap, m, n, D, Pl, rfl, _, hl, hm, hmm, _, hel⟩
  · exact ⟨[], ⟨.cons (.slEmpty none 0 false (fun h => by cases h)) .nil, by simp [Value.oneCell'], rfl⟩, Nat.zero_le _, fun x hx => by cases hx⟩
  have hlm : len ≤ m := by rw [hmm]; split <;> omega
  have keyc : len = 0 ∨ ∃ c el fz, w.heap[a.block]? = some (.cells c el fz) ∧ a.spot = none ∧ ∀ k, k ≤ len → ∃ l : List α, l.length = k ∧ (∀ x ∈ l, ok x) ∧ Cel w (flat ec l) ((c.toList.drop a.off).take (k * sz)) := by
    rcases Nat.eq_zero_or_pos len with h0 | hpos
    · exact .inl h0
    right
    obtain ⟨cs0, hc0, _⟩ := hel 0 (by omega)
    rw [hc] at hc0
    obtain ⟨_, hlen0, hcell0⟩ := World.cells?_some hc0
    have h00 := hcell0 0 hp
    rw [List.getElem?_eq_getElem (by omega)] at h00
    simp only [Nat.zero_mul, Addr.add, if_true] at h00
    obtain ⟨c, el, fz, hb, hs, _⟩ := cell_at h00
    refine ⟨c, el, fz, hb, hs, fun k => ?_⟩
    induction k with
    | zero => intro _; exact ⟨[], rfl, fun x hx => (by cases hx), by simpa [flat] using Cel.nil⟩
    | succ k ih =>
      intro hk
      obtain ⟨l, hll, hlo, hlc⟩ := ih (by omega)
      obtain ⟨ck, hck, htk⟩ := hel k (by omega)
      rw [hc] at hck
      obtain ⟨v, hv, hokv⟩ := h H enc w n ck _ htk
      obtain ⟨_, hlenk, hcellk⟩ := World.cells?_some hck
      refine ⟨l ++ [v], by simp [hll], fun x hx => ?_, ?_⟩
      · rcases List.mem_append.1 hx with hx | hx
        · exact hlo x hx
        · rw [List.mem_singleton.1 hx]; exact hokv
      · have e1 : (c.toList.drop a.off).take ((k + 1) * sz) = (c.toList.drop a.off).take (k * sz) ++ ck := by
          rw [Nat.add_mul, Nat.one_mul, List.take_add, List.drop_drop]
          congr 1
          refine take_ext hlenk (fun i hi => ?_)
          rw [← hcellk i hi]
          have hcl := hcellk i hi
          rw [List.getElem?_eq_getElem (by omega)] at hcl
          obtain ⟨c', el', fz', hb', hs', hv'⟩ := cell_at hcl
          rw [hcl]
          have hbk : ((a.add (k * sz)).add i).block = a.block := by simp only [Addr.add]; split <;> split <;> rfl
          have hof : ((a.add (k * sz)).add i).off = a.off + k * sz + i := by simp only [Addr.add]; split <;> split <;> simp_all
          rw [hbk, hb] at hb'
          simp only [Option.some.injEq, Obj.cells.injEq] at hb'
          rw [hof, ← hb'.1] at hv'
          rw [← hv']
          simp
        rw [e1, flat_append]
        refine hlc.append ?_
        simpa [flat] using hv
  rcases keyc with rfl | ⟨c, el, fz, hb, hs, hk⟩
  · exact ⟨[], ⟨.cons (.slEmpty (some a) cap false (fun h => by cases h)) .nil, by simp [Value.oneCell'], rfl⟩, Nat.zero_le _, fun x hx => by cases hx⟩
  · obtain ⟨l, hll, hlo, hlc⟩ := hk len (Nat.le_refl _)
    refine ⟨l, ⟨.cons ?_ .nil, by simp [Value.oneCell'], rfl⟩, by omega, hlo⟩
    obtain ⟨b, off, spot⟩ := a
    simp only at hs hb hlc
    subst hs
    rw [hll]
    exact .sl (fun h => h) hb hlc.vr hlc.one hlc.clo (List.take_prefix _ _) hl (fun h => by cases h)
/-- A value that came in. -/
theorem OpensE.value {α : Type} {P : Program} {t : TypeId} {sz : Nat} {ec : α → List PV} {ok : α → Prop} (h : OpensE P t sz ec ok) {H : Type} {enc : TypeId × Value → H} {w : World} {v : Value} {d : DataW H} {p : List MemPlace} (hv : DataW.Trod enc P w 0 (fun _ => true) true t v d p) :
    ∃ a, Cel w (ec a) v.cells.toList ∧ ok a := by
  obtain ⟨fuel, hf⟩ := hv
  exact h H enc w fuel _ _ hf
theorem cel_agg {w : World} {xs : List PV} {cs : Array Value} (h : Cel w xs cs.toList) : VR w O0 F0 (.agg xs) (.agg cs) := by
  have := VR.agg h.vr h.one
  simpa using this
theorem cel_one {w : World} {x : PV} {v : Value} (h : Cel w [x] [v]) : VR w O0 F0 x v := by
  cases h.vr with
  | cons a _ => exact a
/-- the row's walk -/
theorem law_calls {P : Program} {raws : Nat → List Bool} {env : Env} (he : EnvOk P raws env) {f : Nat} {args : List PV} (hx : ev env f args [] = some (.bool true, [])) {w : World} {vs : List Value} (hv : VRs w O0 F0 args vs) :
    Calls P f vs.toArray w (fun e w' => e = .returned (.bool true) ∧ Below w.heap.size w w') := by
  have hi : Inv w O0 F0 F0 (heapOf 0 []) := ⟨fun id B h => (by cases h), fun b h => (h : False).elim, fun b h => h, fun i j b B C h => (by cases h)⟩
  refine ((ev_sound he f args [] _ _ hx).2 w O0 F0 F0 vs hv hi (fun _ _ => rfl)).mono fun e w' ⟨v, h1, O', M', F', h2, h3, h4, _⟩ => ?_
  cases h2
  exact ⟨h1, ⟨h4.os, h4.tape, h4.output, h4.size, fun k hk => h4.keep k hk (fun h => h)⟩⟩
theorem envOk_of {P : Program} {raws : Nat → List Bool} {tab : List (Nat × Def)} (h : ∀ p ∈ tab, match p.2 with
  | .body d => ∃ ann, copF P raws ann p.1 = some d
  | .pub d => ∃ ann, copF P raws ann p.1 = some d
  | .prim g => Callable P p.1 ∧ ∀ args H r H', g args H = some (r, H') → FSpec P p.1 args H r H') : EnvOk P raws (fun f => tab.lookup f) := fun f d hd => by
  have hm : (f, d) ∈ tab := by
    clear h
    induction tab with
    | nil => cases hd
    | cons q l ih =>
      obtain ⟨a, b⟩ := q
      simp only [List.lookup] at hd
      split at hd
      · next e => simp only [Option.some.injEq] at hd; rw [eq_of_beq e, hd]; exact List.mem_cons_self ..
      · exact List.mem_cons_of_mem _ (ih hd)
  exact h _ hm
end Go.Proofs.YtoihpjpgihhcjaaEv

/- A range over an iterator that keeps a cell of its own; a body that never leaves. -/
set_option linter.unusedVariables false
namespace Go.Proofs.YtoihpjpgihhcjaaEv
open Go Go.RowKit Go.Shelf
/-- what an iterator's own steps leave alone: new blocks; stores into its own cell -/
structure Bides {α : Type} (Bs : Nat) (J : List α → World → Prop) : Prop where
  grow : ∀ s W W', J s W → W.grownBy W' none → J s W'
  set : ∀ s W v, J s W → J s (W.setCell ⟨Bs, 0, none⟩ v)
/-- what a round leaves alone -/
def KeepB (Keep : Nat → Prop) (W W' : World) : Prop := ∀ b, Keep b → W'.heap[b]? = W.heap[b]?
theorem KeepB.trans {Keep : Nat → Prop} {A B C : World} (h : KeepB Keep A B) (k : KeepB Keep B C) : KeepB Keep A C := fun b hb => (k b hb).trans (h b hb)
theorem KeepB.putObj {Keep : Nat → Prop} (W : World) {r : Nat} (o : Obj) (hr : ¬ Keep r) : KeepB Keep W (W.putObj r o) := fun b hb => World.putObj_heap_other fun e => hr (e ▸ hb)
/-- what an iterator gives: of a list S, each element in a round -/
def Gives {α : Type} (F : Fence) (n : Nat) (P : Program) (gf : Nat) (lb : Array Value) (encs : α → Array Value) (Bs : Nat) (Keep : Nat → Prop) (S : List α → Prop) (N : Nat) (w : World) : Prop :=
  ∀ (l : Nat) (J : List α → World → Prop) (W : World), KeepB Keep w W → w.heap.size ≤ W.heap.size → Bides Bs J →
    (∀ pre x W1, J pre W1 → pre.length < N → YieldAt F (n - 1) P l (encs x) W1 fun e W' => e = .returned (.bool true) ∧ J (pre ++ [x]) W' ∧ KeepB Keep W1 W') →
    J [] W → CallsIn F n P gf (#[.func (.yield l) #[] #[]] ++ lb) W fun e W' => (∃ v, e = .returned v) ∧ ∃ xs, S xs ∧ J xs W'
theorem wpIn_range_priv {F : Fence} {n : Nat} {P : Program} {α : Type} {g : Operand} {ps : Array Tmp} {assign body : Code} {Q : Exit → Act → World → Prop} {a : Act} {w : World}
    (hro : F.round = none) (h1 : 1 ≤ n) {gf : Nat} {lb : Array Value} (hg : a.eval g = .func (.func gf) #[] lb) (hFg : F.fn gf) (eg : ∀ args w, (callFunc gf args).run P w = .ok (.enter gf args) w)
    {encs : α → Array Value} (hps : ∀ x, (encs x).size = ps.size) {Bs : Nat} (hBs : Bs < w.heap.size) {Keep : Nat → Prop} (hKeep : ∀ b, Keep b → b < w.heap.size) {S : List α → Prop} {N : Nat}
    (hseq : Gives F (n - 1) P gf lb encs Bs Keep S N w)
    (I : List α → World → Prop) (hI : OwnFrom w.heap.size I) (hIs : ∀ s W v, I s W → I s (W.setCell ⟨Bs, 0, none⟩ v)) (h0 : I [] w) (a₁ : α → Act)
    (hassign : ∀ (l : Nat) (x : α) (W : World) (K : Act → World → Prop), K (a₁ x) W →
      assign.wpIn (F.inRound l) (n - 1 - 1) P (Exit.then K (fun _ _ _ => False)) { tmps := (ps.zip (encs x)).foldl (fun t (p, v) => t.setIfInBounds p v) a.tmps, defers := [] } W)
    (hbody : ∀ (l : Nat) (pre : List α) (x : α) (W : World), w.heap.size ≤ W.heap.size → I pre W → pre.length < N →
      body.wpIn (F.inRound l) (n - 1 - 1) P (fun e _ W' => e = .normal ∧ KeepsOthers W W' ∧ KeepB Keep W W' ∧ I (pre ++ [x]) W') (a₁ x) W)
    (hdone : ∀ (D : Nat) (xs : List α) (W : World), S xs → I xs W → w.heap.size ≤ D → W.heap[D]? = some (.deferred (some [])) → Q .normal { a with defers := { target := .collected D, args := #[] } :: a.defers } W) :
    (Code.rangeFunc g ps assign body).wpIn F n P Q a w := by
  refine wpIn_rangeFunc fun fn hfn => ?_
  rw [hro]
  -- the record of the loop, and the block for deferred calls
  let D := w.heap.size
  let l := w.heap.size + 1
  let rec' : LoopState → Loop := fun st => { state := st, pending := none, fn, tmps := a.tmps, params := ps, assign, body, defers := D }
  let W1 := (w.alloc (.deferred (some []))).alloc (.loop (rec' .ready))
  have sz1 : (w.alloc (.deferred (some []))).heap.size = w.heap.size + 1 := World.size_alloc ..
  have hl1 : W1.heap[l]? = some (.loop (rec' .ready)) := by
    have := World.alloc_heap_new (w.alloc (.deferred (some []))) (.loop (rec' .ready))
    rwa [sz1] at this
  have hd1 : W1.heap[D]? = some (.deferred (some [])) := (Below.heap_alloc _ _ _ (by rw [sz1]; exact Nat.lt_succ_self _)).trans (World.alloc_heap_new w _)
  have hk1 : KeepB Keep w W1 := fun b hb => (Below.heap_alloc _ _ _ (by rw [sz1]; have := hKeep b hb; omega)).trans (Below.heap_alloc _ _ _ (hKeep b hb))
  have hs1 : w.heap.size ≤ W1.heap.size := by
    have : W1.heap.size = w.heap.size + 1 + 1 := (World.size_alloc ..).trans (by rw [sz1])
    omega
  have hi1 : I [] W1 := hI.alloc _ (hI.alloc _ h0)
  have nl : ¬ Keep l := fun h => by have := hKeep _ h; omega
  have nb : l ≠ Bs := by omega
  have nd : D ≠ Bs := by omega
  let J : List α → World → Prop := fun pre W => (I pre W ∧ w.heap.size ≤ W.heap.size) ∧ W.heap[l]? = some (.loop (rec' .ready)) ∧ W.heap[D]? = some (.deferred (some []))
  have hJ : Bides Bs J := ⟨fun s W W' h hg' => ⟨⟨hI s W W' none h.1.1 hg' (fun r e => by cases e), Nat.le_trans h.1.2 hg'.size⟩,
      (hg'.block l (Array.getElem?_eq_some_iff.1 h.2.1).1 (by simp)).trans h.2.1, (hg'.block D (Array.getElem?_eq_some_iff.1 h.2.2).1 (by simp)).trans h.2.2⟩,
    fun s W v h => ⟨⟨hIs s W v h.1.1, by show _ ≤ (W.heap.modify _ _).size; rw [Array.size_modify]; exact h.1.2⟩, (Below.heap_setCell W _ v l nb).trans h.2.1, (Below.heap_setCell W _ v D nd).trans h.2.2⟩⟩
  refine ⟨l, [{ target := .collected D, args := #[] }], W1, { target := .fn (.func gf) lb, args := #[.func (.yield l) #[] #[]] }, W1, gf,
    #[.func (.yield l) #[] #[]] ++ lb, W1, run_enterLoop_outer _ _ _ _ _, ?_, ?_, ?_, fun _ => h1, ?_⟩
  · simp only [resolve, hg]
    simp [go_sem]
  · intro f' hf'; simp [Target.leads] at hf'; subst hf'; exact hFg
  · simp [invoke, go_sem, eg]
  · refine (hseq l J W1 hk1 hs1 hJ ?_ ⟨⟨hi1, hs1⟩, hl1, hd1⟩).mono ?_
    · rintro pre x W ⟨⟨hi, hsz⟩, hl, hd⟩ hlen
      have hlt : l < W.heap.size := (Array.getElem?_eq_some_iff.1 hl).1
      refine ⟨fn, _, assign, body, run_yield (P := P) (args := encs x) hl (hps x), roundIn_of_wpIn hfn (hassign _ x W _ ⟨_, run_beginRound hl rfl, ?_⟩)⟩
      have hl2 : (W.putObj l (.loop (rec' .busy))).heap[l]? = some (.loop (rec' .busy)) := World.putObj_heap_same hlt
      have hd2 : (W.putObj l (.loop (rec' .busy))).heap[D]? = some (.deferred (some [])) := (World.putObj_heap_other (by omega)).trans hd
      refine wpIn_mono (hbody _ pre x _ (by rw [World.putObj_size]; exact hsz) (hI.putObj _ hi (by omega) hl rfl) hlen) ?_
      rintro e a3 W3 ⟨rfl, hk3, hkb, hi3⟩
      have hl3 := hk3.same _ _ hl2 rfl
      have hd3 := hk3.same _ _ hd2 rfl
      refine ⟨_, _, run_endRound (P := P) none hl3, rfl, ⟨⟨hI.putObj _ hi3 (by omega) hl3 rfl, ?_⟩, World.putObj_heap_same (Array.getElem?_eq_some_iff.1 hl3).1, (World.putObj_heap_other (by omega)).trans hd3⟩, ?_⟩
      · rw [World.putObj_size]
        have := hk3.size
        rw [World.putObj_size] at this
        omega
      · exact ((KeepB.putObj W _ nl).trans hkb).trans (KeepB.putObj W3 _ nl)
    · rintro e W2 ⟨⟨v, rfl⟩, xs, hS, ⟨⟨hi, hsz⟩, hl, hd⟩⟩
      exact ⟨none, _, run_endLoop (P := P) hl (by simp [rec']), hdone D xs _ hS (hI.putObj _ hi (by omega) hl rfl) (Nat.le_refl _) ((World.putObj_heap_other (by omega)).trans hd)⟩
/-- a function proved by hand: nothing is lent but what is told by value; what comes back lies in new blocks -/
theorem fspec_plain {P : Program} {f : Nat} {args : List PV} {r : PV}
    (h : ∀ (w : World) (O : Nat → Option Nat) (F : Nat → Prop) (vs : List Value), VRs w O F args vs → (∀ b, F b → b < w.heap.size) →
      Calls P f vs.toArray w fun e w' => ∃ v, e = .returned v ∧ Below w.heap.size w w' ∧ VR w' O F r v) : FSpec P f args [] r [] := by
  intro w O M F vs hv hI hO
  refine (h w O F vs hv hI.mlt).mono ?_
  rintro e w' ⟨v, rfl, hb, hr⟩
  refine ⟨v, rfl, O, M, F, hr, ⟨fun id B q => (by cases q), fun b q => Nat.lt_of_lt_of_le (hI.mlt b q) hb.size, hI.sub, fun i j b B C q => (by cases q)⟩,
    ⟨hb.size, fun b q _ => hb.block b q, fun b q => ?_, hb.os, hb.tape, hb.output⟩, fun _ _ => rfl, fun _ _ q => q, fun _ _ q => q, fun _ q _ => q, fun id b B q => (by cases q)⟩
  unfold World.shape?
  rw [hb.block b q]
theorem vr_str {w : World} {O : Nat → Option Nat} {F : Nat → Prop} {s : ByteArray} {v : Value} (h : VR w O F (.str s) v) : v = .string s := by cases h; rfl
theorem vr_int {w : World} {O : Nat → Option Nat} {F : Nat → Prop} {k : IntKind} {n : Int} {v : Value} (h : VR w O F (.int k n) v) : v = .int k n := by cases h; rfl
theorem vr_bool {w : World} {O : Nat → Option Nat} {F : Nat → Prop} {b : Bool} {v : Value} (h : VR w O F (.bool b) v) : v = .bool b := by cases h; rfl
/-- what the evaluator says of plain data, the model does -/
theorem calls_plain {P : Program} {f : Nat} {args : List PV} {r : PV} (h : FSpec P f args [] r []) {w : World} {vs : List Value} (hv : VRs w (fun _ => none) (fun _ => False) args vs) :
    Calls P f vs.toArray w fun e w' => ∃ (v : Value) (O' : Nat → Option Nat) (F' : Nat → Prop), e = .returned v ∧ Below w.heap.size w w' ∧ VR w' O' F' r v := by
  have hi : Inv w (fun _ => none) (fun _ => False) (fun _ => False) (heapOf 0 []) := ⟨fun id B q => (by cases q), fun b q => q.elim, fun b q => q, fun i j b B C q => (by cases q)⟩
  refine (h w _ _ _ vs hv hi (fun _ _ => rfl)).mono ?_
  rintro e w' ⟨v, rfl, O', M', F', h2, h3, h4, _⟩
  exact ⟨v, O', F', rfl, ⟨h4.os, h4.tape, h4.output, h4.size, fun k hk => h4.keep k hk fun q => q⟩, h2⟩
end Go.Proofs.YtoihpjpgihhcjaaEv

/- The same, where the loop's variable lies in a cell of its own in each round. -/
set_option linter.unusedVariables false
namespace Go.Proofs.YtoihpjpgihhcjaaEv
open Go Go.RowKit Go.Shelf
theorem wpIn_range_ax {F : Fence} {n : Nat} {P : Program} {α : Type} {g : Operand} {ps : Array Tmp} {assign body : Code} {Q : Exit → Act → World → Prop} {a : Act} {w : World}
    (hro : F.round = none) (h1 : 1 ≤ n) {gf : Nat} {lb : Array Value} (hg : a.eval g = .func (.func gf) #[] lb) (hFg : F.fn gf) (eg : ∀ args w, (callFunc gf args).run P w = .ok (.enter gf args) w)
    {encs : α → Array Value} (hps : ∀ x, (encs x).size = ps.size) {Bs : Nat} (hBs : Bs < w.heap.size) {Keep : Nat → Prop} (hKeep : ∀ b, Keep b → b < w.heap.size) {S : List α → Prop} {N : Nat}
    (hseq : Gives F (n - 1) P gf lb encs Bs Keep S N w)
    (I : List α → World → Prop) (hI : OwnFrom w.heap.size I) (hIs : ∀ s W v, I s W → I s (W.setCell ⟨Bs, 0, none⟩ v)) (h0 : I [] w) (Ax : α → Act → World → Prop) (hAx : ∀ x a' W W' row, Ax x a' W → W.grownBy W' row → (∀ r, row = some r → w.heap.size ≤ r ∧ ∃ o : Obj, W.heap[r]? = some o ∧ o.isCells = false) → Ax x a' W')
    (hassign : ∀ (l : Nat) (pre : List α) (x : α) (W : World) (K : Act → World → Prop), w.heap.size ≤ W.heap.size → I pre W → (∀ a' W', KeepsOthers W W' → KeepB Keep W W' → I pre W' → Ax x a' W' → K a' W') →
      assign.wpIn (F.inRound l) (n - 1 - 1) P (Exit.then K (fun _ _ _ => False)) { tmps := (ps.zip (encs x)).foldl (fun t (p, v) => t.setIfInBounds p v) a.tmps, defers := [] } W)
    (hbody : ∀ (l : Nat) (pre : List α) (x : α) (a' : Act) (W : World), w.heap.size ≤ W.heap.size → I pre W → Ax x a' W → pre.length < N →
      body.wpIn (F.inRound l) (n - 1 - 1) P (fun e _ W' => e = .normal ∧ KeepsOthers W W' ∧ KeepB Keep W W' ∧ I (pre ++ [x]) W') a' W)
    (hdone : ∀ (D : Nat) (xs : List α) (W : World), S xs → I xs W → w.heap.size ≤ D → W.heap[D]? = some (.deferred (some [])) → Q .normal { a with defers := { target := .collected D, args := #[] } :: a.defers } W) :
    (Code.rangeFunc g ps assign body).wpIn F n P Q a w := by
  refine wpIn_rangeFunc fun fn hfn => ?_
  rw [hro]
  -- the record of the loop, and the block for deferred calls
  let D := w.heap.size
  let l := w.heap.size + 1
  let rec' : LoopState → Loop := fun st => { state := st, pending := none, fn, tmps := a.tmps, params := ps, assign, body, defers := D }
  let W1 := (w.alloc (.deferred (some []))).alloc (.loop (rec' .ready))
  have sz1 : (w.alloc (.deferred (some []))).heap.size = w.heap.size + 1 := World.size_alloc ..
  have hl1 : W1.heap[l]? = some (.loop (rec' .ready)) := by
    have := World.alloc_heap_new (w.alloc (.deferred (some []))) (.loop (rec' .ready))
    rwa [sz1] at this
  have hd1 : W1.heap[D]? = some (.deferred (some [])) := (Below.heap_alloc _ _ _ (by rw [sz1]; exact Nat.lt_succ_self _)).trans (World.alloc_heap_new w _)
  have hk1 : KeepB Keep w W1 := fun b hb => (Below.heap_alloc _ _ _ (by rw [sz1]; have := hKeep b hb; omega)).trans (Below.heap_alloc _ _ _ (hKeep b hb))
  have hs1 : w.heap.size ≤ W1.heap.size := by
    have : W1.heap.size = w.heap.size + 1 + 1 := (World.size_alloc ..).trans (by rw [sz1])
    omega
  have hi1 : I [] W1 := hI.alloc _ (hI.alloc _ h0)
  have nl : ¬ Keep l := fun h => by have := hKeep _ h; omega
  have nb : l ≠ Bs := by omega
  have nd : D ≠ Bs := by omega
  let J : List α → World → Prop := fun pre W => (I pre W ∧ w.heap.size ≤ W.heap.size) ∧ W.heap[l]? = some (.loop (rec' .ready)) ∧ W.heap[D]? = some (.deferred (some []))
  have hJ : Bides Bs J := ⟨fun s W W' h hg' => ⟨⟨hI s W W' none h.1.1 hg' (fun r e => by cases e), Nat.le_trans h.1.2 hg'.size⟩,
      (hg'.block l (Array.getElem?_eq_some_iff.1 h.2.1).1 (by simp)).trans h.2.1, (hg'.block D (Array.getElem?_eq_some_iff.1 h.2.2).1 (by simp)).trans h.2.2⟩,
    fun s W v h => ⟨⟨hIs s W v h.1.1, by show _ ≤ (W.heap.modify _ _).size; rw [Array.size_modify]; exact h.1.2⟩, (Below.heap_setCell W _ v l nb).trans h.2.1, (Below.heap_setCell W _ v D nd).trans h.2.2⟩⟩
  refine ⟨l, [{ target := .collected D, args := #[] }], W1, { target := .fn (.func gf) lb, args := #[.func (.yield l) #[] #[]] }, W1, gf,
    #[.func (.yield l) #[] #[]] ++ lb, W1, run_enterLoop_outer _ _ _ _ _, ?_, ?_, ?_, fun _ => h1, ?_⟩
  · simp only [resolve, hg]
    simp [go_sem]
  · intro f' hf'; simp [Target.leads] at hf'; subst hf'; exact hFg
  · simp [invoke, go_sem, eg]
  · refine (hseq l J W1 hk1 hs1 hJ ?_ ⟨⟨hi1, hs1⟩, hl1, hd1⟩).mono ?_
    · rintro pre x W ⟨⟨hi, hsz⟩, hl, hd⟩ hlen
      refine ⟨fn, _, assign, body, run_yield (P := P) (args := encs x) hl (hps x), roundIn_of_wpIn hfn (hassign _ pre x W _ hsz hi fun a' W0 hk0 hkb0 hi0 hax0 => ?_)⟩
      have hl0 := hk0.same _ _ hl rfl
      have hd0 := hk0.same _ _ hd rfl
      have hsz0 : w.heap.size ≤ W0.heap.size := Nat.le_trans hsz hk0.size
      have hlt : l < W0.heap.size := (Array.getElem?_eq_some_iff.1 hl0).1
      refine ⟨_, run_beginRound hl0 rfl, ?_⟩
      have hl2 : (W0.putObj l (.loop (rec' .busy))).heap[l]? = some (.loop (rec' .busy)) := World.putObj_heap_same hlt
      have hd2 : (W0.putObj l (.loop (rec' .busy))).heap[D]? = some (.deferred (some [])) := (World.putObj_heap_other (by omega)).trans hd0
      refine wpIn_mono (hbody _ pre x a' _ (by rw [World.putObj_size]; exact hsz0) (hI.putObj _ hi0 (by omega) hl0 rfl) (hAx _ _ _ _ _ hax0 (grownBy_putObj' W0 l _) fun r e => by cases e; exact ⟨by omega, _, hl0, rfl⟩) hlen) ?_
      rintro e a3 W3 ⟨rfl, hk3, hkb, hi3⟩
      have hl3 := hk3.same _ _ hl2 rfl
      have hd3 := hk3.same _ _ hd2 rfl
      refine ⟨_, _, run_endRound (P := P) none hl3, rfl, ⟨⟨hI.putObj _ hi3 (by omega) hl3 rfl, ?_⟩, World.putObj_heap_same (Array.getElem?_eq_some_iff.1 hl3).1, (World.putObj_heap_other (by omega)).trans hd3⟩, ?_⟩
      · rw [World.putObj_size]
        have := hk3.size
        rw [World.putObj_size] at this
        omega
      · exact ((hkb0.trans (KeepB.putObj W0 _ nl)).trans hkb).trans (KeepB.putObj W3 _ nl)
    · rintro e W2 ⟨⟨v, rfl⟩, xs, hS, ⟨⟨hi, hsz⟩, hl, hd⟩⟩
      exact ⟨none, _, run_endLoop (P := P) hl (by simp [rec']), hdone D xs _ hS (hI.putObj _ hi (by omega) hl rfl) (Nat.le_refl _) ((World.putObj_heap_other (by omega)).trans hd)⟩
end Go.Proofs.YtoihpjpgihhcjaaEv

