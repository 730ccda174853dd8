/- General words (6): an evaluator of the model's code, and that what it answers the model answers. -/
import Derived.Test.YtcphpiboamlanaaEv4
import Derived.OpenShut
import Derived.Lib.SmallJoins
import Derived.Deep.Slices
import Derived.Below
import Derived.WideShapes
/- What comes in, as the evaluator's values; the row. -/
set_option linter.unusedVariables false
set_option linter.unusedSimpArgs false
namespace Go.Proofs.YtcphpiboamlanaaEv
open Go Go.ChangeShapes Go.WideShapes Go.Deep Go.RowKit
def O0 : Nat → Option Nat := fun _ => none
def F0 : Nat → Prop := fun _ => False
/-- the cells stand for what is told -/
structure Cel (w : World) (xs : List PV) (cs : List Value) : Prop where
  vr : VRs w O0 F0 xs cs
  one : ∀ v ∈ cs, v.oneCell' = true
  clo : closedL xs = true
theorem Cel.nil {w : World} : Cel w [] [] := ⟨.nil, fun v hv => (by cases hv), rfl⟩
theorem Cel.append {w : World} {xs ys : List PV} {cs ds : List Value} (h : Cel w xs cs) (k : Cel w ys ds) : Cel w (xs ++ ys) (cs ++ ds) :=
  ⟨h.vr.append k.vr, fun v hv => (List.mem_append.1 hv).elim (h.one v) (k.one v), closedL_append h.clo k.clo⟩
/-- Whatever reads at type t holds the cells of an 'a' that is 'ok'. -/
def OpensE {α : Type} (P : Program) (t : TypeId) (sz : Nat) (ec : α → List PV) (ok : α → Prop) : Prop :=
  ∀ (H : Type) (enc : TypeId × Value → H) (w : World) (fuel : Nat) (cs : List Value) (x : DataW H × List MemPlace), DataW.trod enc P w 0 (fun _ => true) true fuel t cs = some x → ∃ a : α, Cel w (ec a) cs ∧ ok a
theorem OpensE.int {P : Program} {t : TypeId} {k : IntKind} (ht : P.underlying t = some (.int k)) : OpensE P t 1 (fun n => [.int k n]) (fun n => (Lit.int k n).wf = true) := fun H enc w fuel cs x h => by
  obtain ⟨n, rfl, _, hw⟩ := DataW.trod_int ht h
  exact ⟨n, ⟨.cons (.int k n) .nil, by simp [Value.oneCell'], rfl⟩, hw⟩
theorem OpensE.bool {P : Program} {t : TypeId} (ht : P.underlying t = some .bool) : OpensE P t 1 (fun b => [.bool b]) (fun _ => True) := fun H enc w fuel cs x h => by
  obtain ⟨b, rfl, _⟩ := DataW.trod_bool ht h
  exact ⟨b, ⟨.cons (.bool b) .nil, by simp [Value.oneCell'], rfl⟩, trivial⟩
theorem OpensE.string {P : Program} {t : TypeId} (ht : P.underlying t = some .string) : OpensE P t 1 (fun s => [.str s]) (fun s => s.size ≤ maxLen) := fun H enc w fuel cs x h => by
  obtain ⟨s, rfl, _, hs⟩ := DataW.trod_string ht h
  exact ⟨s, ⟨.cons (.str s) .nil, by simp [Value.oneCell'], rfl⟩, hs⟩
theorem OpensE.iso {α β : Type} {P : Program} {t : TypeId} {sz : Nat} {k : α → List PV} {ok : α → Prop} (h : OpensE P t sz k ok) (g : α → β) {k2 : β → List PV} {ok2 : β → Prop} (hg : ∀ a, k2 (g a) = k a) (ho : ∀ a, ok a → ok2 (g a)) : OpensE P t sz k2 ok2 := fun H enc w fuel cs x hx => by
  obtain ⟨a, h1, h2⟩ := h H enc w fuel cs x hx
  exact ⟨g a, by rw [hg]; exact h1, ho a h2⟩
/-- The fields from place 'off' on. -/
def OpensFE {α : Type} (P : Program) (fs : List Field) (off sz : Nat) (ec : α → List PV) (ok : α → Prop) : Prop :=
  ∀ (H : Type) (enc : TypeId × Value → H) (w : World) (n : Nat) (cs : List Value), cs.length = off + sz → (∀ f ∈ fs, ∃ y, DataW.trod enc P w 0 (fun _ => true) true n f.type ((cs.drop f.offset).take (P.cellsOf f.type)) = some y) → ∃ a : α, Cel w (ec a) (cs.drop off) ∧ ok a
theorem OpensFE.one {α : Type} {P : Program} {f : Field} {off sz : Nat} {ec : α → List PV} {ok : α → Prop} (h : OpensE P f.type sz ec ok) (ho : f.offset = off) (hs : P.cellsOf f.type = sz) : OpensFE P [f] off sz ec ok := fun H enc w n cs hl hf => by
  obtain ⟨y, hy⟩ := hf f (List.mem_singleton.2 rfl)
  rw [ho, hs, List.take_of_length_le (by rw [List.length_drop]; omega)] at hy
  exact h H enc w n _ y hy
theorem OpensFE.cons {α β : Type} {P : Program} {f : Field} {fs : List Field} {off sz sz2 : Nat} {ec : α → List PV} {ec2 : β → List PV} {ok : α → Prop} {ok2 : β → Prop} (h : OpensE P f.type sz ec ok) (ho : f.offset = off) (hs : P.cellsOf f.type = sz)
    (h2 : OpensFE P fs (off + sz) sz2 ec2 ok2) : OpensFE P (f :: fs) off (sz + sz2) (fun p : α × β => ec p.1 ++ ec2 p.2) (fun p => ok p.1 ∧ ok2 p.2) := fun H enc w n cs hl hf => by
  obtain ⟨y, hy⟩ := hf f (List.mem_cons_self)
  rw [ho, hs] at hy
  obtain ⟨a, ha, hoka⟩ := h H enc w n _ y hy
  obtain ⟨b, hb, hokb⟩ := h2 H enc w n cs (by omega) (fun f' hf' => hf f' (List.mem_cons_of_mem _ hf'))
  refine ⟨(a, b), ?_, hoka, hokb⟩
  have := ha.append hb
  rw [← List.drop_drop, List.take_append_drop] at this
  exact this
theorem OpensE.struct {α : Type} {P : Program} {t : TypeId} {fs : Array Field} {sz : Nat} {ec : α → List PV} {ok : α → Prop} (ht : P.underlying t = some (.struct fs)) (hc : P.cellsOf t = sz) (h : OpensFE P fs.toList 0 sz ec ok) : OpensE P t sz ec ok := fun H enc w fuel cs x hx => by
  obtain ⟨xs, n, _, rfl, hl, hlen, hf⟩ := DataW.trod_struct ht hx
  obtain ⟨a, h1, h2⟩ := h H enc w n cs (by omega) (fun f hf' => by
    obtain ⟨i, hi, rfl⟩ := List.getElem_of_mem hf'
    have hx' : fs[i]? = some fs.toList[i] := by rw [← Array.getElem?_toList]; exact List.getElem?_eq_getElem hi
    have hxs : i < xs.length := by rw [hlen]; simpa using hi
    exact ⟨_, (hf i _ hx').trans (List.getElem?_eq_getElem hxs)⟩)
  exact ⟨a, by simpa using h1, h2⟩
def encU8 (b : UInt8) : List PV := [.int .u8 b.toNat]
theorem byte_of {n : Int} (h : (Lit.int .u8 n).wf = true) : ∃ b : UInt8, n = (b.toNat : Int) := by
  have h1 : 0 ≤ n ∧ n < 256 := by
    simp only [Lit.wf, Bool.and_eq_true, decide_eq_true_eq] at h
    have e1 : IntKind.u8.min = 0 := by decide
    have e2 : IntKind.u8.max = 255 := by decide
    omega
  refine ⟨UInt8.ofNat n.toNat, ?_⟩
  rw [UInt8.toNat_ofNat']
  omega
theorem OpensE.byte {P : Program} {t : TypeId} (ht : P.underlying t = some (.int .u8)) : OpensE P t 1 (fun b => encU8 b) (fun _ => True) := fun H enc w fuel cs x h => by
  obtain ⟨n, rfl, _, hw⟩ := DataW.trod_int ht h
  obtain ⟨b, rfl⟩ := byte_of hw
  exact ⟨b, ⟨.cons (.int .u8 _) .nil, by simp [Value.oneCell'], rfl⟩, trivial⟩
theorem wf_i64 {n : Int} (h : (Lit.int .i64 n).wf = true) : -9223372036854775808 ≤ n ∧ n ≤ 9223372036854775807 := by
  simp only [Lit.wf, Bool.and_eq_true, decide_eq_true_eq] at h
  have e1 : IntKind.i64.min = -9223372036854775808 := by decide
  have e2 : IntKind.i64.max = 9223372036854775807 := by decide
  omega
theorem cell_at {w : World} {a : Addr} {v : Value} (h : w.cell? a = some v) : ∃ c el fz, w.heap[a.block]? = some (.cells c el fz) ∧ a.spot = none ∧ c[a.off]? = some v := by
  unfold World.cell? at h
  split at h
  · next c el fz hb =>
    split at h
    · cases h
    · next hs => exact ⟨c, el, fz, hb, by simpa using hs, h⟩
  · cases h
theorem take_ext {l : List Value} {off n : Nat} {cs : List Value} (hl : cs.length = n) (h : ∀ i, i < n → l[off + i]? = cs[i]?) : (l.drop off).take n = cs := by
  apply List.ext_getElem?
  intro i
  rw [List.getElem?_take]
  split
  · next hi => rw [List.getElem?_drop, h i hi]
  · next hi => rw [List.getElem?_eq_none (by omega)]
theorem OpensE.slice {α : Type} {P : Program} {t e : TypeId} {sz : Nat} {ec : α → List PV} {ok : α → Prop} (ht : P.underlying t = some (.slice e)) (hc : P.cellsOf e = sz) (hp : 0 < sz) (h : OpensE P e sz ec ok) :
    OpensE P t 1 (fun l : List α => [.sl l.length false (flat ec l)]) (fun l => l.length ≤ maxLen ∧ ∀ x ∈ l, ok x) := fun H enc w fuel cs x hx => by
  rcases open_slice ht hx with ⟨rfl, _⟩ | ⟨a, len, cap, m, n, D, Pl, rfl, _, hl, hm, hmm, _, hel⟩
  · exact ⟨[], ⟨.cons (.slEmpty none 0 false (fun h => by cases h)) .nil, by simp [Value.oneCell'], rfl⟩, Nat.zero_le _, fun x hx => by cases hx⟩
  have hlm : len ≤ m := by rw [hmm]; split <;> omega
  have keyc : len = 0 ∨ ∃ c el fz, w.heap[a.block]? = some (.cells c el fz) ∧ a.spot = none ∧ ∀ k, k ≤ len → ∃ l : List α, l.length = k ∧ (∀ x ∈ l, ok x) ∧ Cel w (flat ec l) ((c.toList.drop a.off).take (k * sz)) := by
    rcases Nat.eq_zero_or_pos len with h0 | hpos
    · exact .inl h0
    right
    obtain ⟨cs0, hc0, _⟩ := hel 0 (by omega)
    rw [hc] at hc0
    obtain ⟨_, hlen0, hcell0⟩ := World.cells?_some hc0
    have h00 := hcell0 0 hp
    rw [List.getElem?_eq_getElem (by omega)] at h00
    simp only [Nat.zero_mul, Addr.add, if_true] at h00
    obtain ⟨c, el, fz, hb, hs, _⟩ := cell_at h00
    refine ⟨c, el, fz, hb, hs, fun k => ?_⟩
    induction k with
    | zero => intro _; exact ⟨[], rfl, fun x hx => (by cases hx), by simpa [flat] using Cel.nil⟩
    | succ k ih =>
      intro hk
      obtain ⟨l, hll, hlo, hlc⟩ := ih (by omega)
      obtain ⟨ck, hck, htk⟩ := hel k (by omega)
      rw [hc] at hck
      obtain ⟨v, hv, hokv⟩ := h H enc w n ck _ htk
      obtain ⟨_, hlenk, hcellk⟩ := World.cells?_some hck
      refine ⟨l ++ [v], by simp [hll], fun x hx => ?_, ?_⟩
      · rcases List.mem_append.1 hx with hx | hx
        · exact hlo x hx
        · rw [List.mem_singleton.1 hx]; exact hokv
      · have e1 : (c.toList.drop a.off).take ((k + 1) * sz) = (c.toList.drop a.off).take (k * sz) ++ ck := by
          rw [Nat.add_mul, Nat.one_mul, List.take_add, List.drop_drop]
          congr 1
          refine take_ext hlenk (fun i hi => ?_)
          rw [← hcellk i hi]
          have hcl := hcellk i hi
          rw [List.getElem?_eq_getElem (by omega)] at hcl
          obtain ⟨c', el', fz', hb', hs', hv'⟩ := cell_at hcl
          rw [hcl]
          have hbk : ((a.add (k * sz)).add i).block = a.block := by simp only [Addr.add]; split <;> split <;> rfl
          have hof : ((a.add (k * sz)).add i).off = a.off + k * sz + i := by simp only [Addr.add]; split <;> split <;> simp_all
          rw [hbk, hb] at hb'
          simp only [Option.some.injEq, Obj.cells.injEq] at hb'
          rw [hof, ← hb'.1] at hv'
          rw [← hv']
          simp
        rw [e1, flat_append]
        refine hlc.append ?_
        simpa [flat] using hv
  rcases keyc with rfl | ⟨c, el, fz, hb, hs, hk⟩
  · exact ⟨[], ⟨.cons (.slEmpty (some a) cap false (fun h => by cases h)) .nil, by simp [Value.oneCell'], rfl⟩, Nat.zero_le _, fun x hx => by cases hx⟩
  · obtain ⟨l, hll, hlo, hlc⟩ := hk len (Nat.le_refl _)
    refine ⟨l, ⟨.cons ?_ .nil, by simp [Value.oneCell'], rfl⟩, by omega, hlo⟩
    obtain ⟨b, off, spot⟩ := a
    simp only at hs hb hlc
    subst hs
    rw [hll]
    exact .sl (fun h => h) hb hlc.vr hlc.one hlc.clo (List.take_prefix _ _) hl (fun h => by cases h)
/-- A value that came in. -/
theorem OpensE.value {α : Type} {P : Program} {t : TypeId} {sz : Nat} {ec : α → List PV} {ok : α → Prop} (h : OpensE P t sz ec ok) {H : Type} {enc : TypeId × Value → H} {w : World} {v : Value} {d : DataW H} {p : List MemPlace} (hv : DataW.Trod enc P w 0 (fun _ => true) true t v d p) :
    ∃ a, Cel w (ec a) v.cells.toList ∧ ok a := by
  obtain ⟨fuel, hf⟩ := hv
  exact h H enc w fuel _ _ hf
theorem cel_agg {w : World} {xs : List PV} {cs : Array Value} (h : Cel w xs cs.toList) : VR w O0 F0 (.agg xs) (.agg cs) := by
  have := VR.agg h.vr h.one
  simpa using this
theorem cel_one {w : World} {x : PV} {v : Value} (h : Cel w [x] [v]) : VR w O0 F0 x v := by
  cases h.vr with
  | cons a _ => exact a
/-- the row's walk -/
theorem law_calls {P : Program} {raws : Nat → List Bool} {env : Env} (he : EnvOk P raws env) {f : Nat} {args : List PV} (hx : ev env f args [] = some (.bool true, [])) {w : World} {vs : List Value} (hv : VRs w O0 F0 args vs) :
    Calls P f vs.toArray w (fun e w' => e = .returned (.bool true) ∧ Below w.heap.size w w') := by
  have hi : Inv w O0 F0 F0 (heapOf 0 []) := ⟨fun id B h => (by cases h), fun b h => (h : False).elim, fun b h => h, fun i j b B C h => (by cases h)⟩
  refine ((ev_sound he f args [] _ _ hx).2 w O0 F0 F0 vs hv hi (fun _ _ => rfl)).mono fun e w' ⟨v, h1, O', M', F', h2, h3, h4, _⟩ => ?_
  cases h2
  exact ⟨h1, ⟨h4.os, h4.tape, h4.output, h4.size, fun k hk => h4.keep k hk (fun h => h)⟩⟩
theorem envOk_of {P : Program} {raws : Nat → List Bool} {tab : List (Nat × Def)} (h : ∀ p ∈ tab, match p.2 with
  | .body d => ∃ ann, copF P raws ann p.1 = some d
  | .pub d => ∃ ann, copF P raws ann p.1 = some d
  | .prim g => Callable P p.1 ∧ ∀ args H r H', g args H = some (r, H') → FSpec P p.1 args H r H') : EnvOk P raws (fun f => tab.lookup f) := fun f d hd => by
  have hm : (f, d) ∈ tab := by
    clear h
    induction tab with
    | nil => cases hd
    | cons q l ih =>
      obtain ⟨a, b⟩ := q
      simp only [List.lookup] at hd
      split at hd
      · next e => simp only [Option.some.injEq] at hd; rw [eq_of_beq e, hd]; exact List.mem_cons_self ..
      · exact List.mem_cons_of_mem _ (ih hd)
  exact h _ hm
end Go.Proofs.YtcphpiboamlanaaEv

