/- General words of this session: what a datum that came in says of the cells, kind by kind (structs, slices of structs): for a law's row by hand. -/
import Derived.Test.YtbgihgkobojfaaaWMore
import Derived.OpenShut
import Derived.Lib.SmallJoins
import Derived.Deep.Slices
set_option linter.unusedVariables false
namespace Go.Proofs.YtbgihgkobojfaaaO
open Go Go.RowKit Go.ChangeShapes Go.Deep Go.Proofs.YtbgihgkobojfaaaW.PrintWords Go.Proofs.YtbgihgkobojfaaaW.PrintLast Go.Proofs.YtbgihgkobojfaaaW.PrintMore
/-- Whatever reads at type t holds an 'a' of kind k that is 'ok'. -/
def Opens {α : Type} (P : Program) (t : TypeId) (k : Kd α) (ok : α → Prop) : Prop :=
  ∀ (H : Type) (enc : TypeId × Value → H) (w : World) (fuel : Nat) (cs : List Value) (x : DataW H × List MemPlace), DataW.trod enc P w 0 (fun _ => true) true fuel t cs = some x → ∃ a : α, k.K w a cs ∧ ok a
theorem Opens.int {P : Program} {t : TypeId} {k : IntKind} (ht : P.underlying t = some (.int k)) : Opens P t (Kd.int k) (fun n => (Lit.int k n).wf = true) := fun H enc w fuel cs x h => by
  obtain ⟨n, rfl, _, hw⟩ := DataW.trod_int ht h
  exact ⟨n, rfl, hw⟩
theorem Opens.bool {P : Program} {t : TypeId} (ht : P.underlying t = some .bool) : Opens P t Kd.bool (fun _ => True) := fun H enc w fuel cs x h => by
  obtain ⟨b, rfl, _⟩ := DataW.trod_bool ht h
  exact ⟨b, rfl, trivial⟩
theorem Opens.string {P : Program} {t : TypeId} (ht : P.underlying t = some .string) : Opens P t Kd.string (fun s => s.size ≤ maxLen) := fun H enc w fuel cs x h => by
  obtain ⟨s, rfl, _, hs⟩ := DataW.trod_string ht h
  exact ⟨s, rfl, hs⟩
theorem Opens.iso {α β : Type} {P : Program} {t : TypeId} {k : Kd α} {ok : α → Prop} (h : Opens P t k ok) (f : β → α) (g : α → β) (hg : ∀ a, f (g a) = a) : Opens P t (Kd.iso k f) (fun y => ok (f y)) := fun H enc w fuel cs x hx => by
  obtain ⟨a, h1, h2⟩ := h H enc w fuel cs x hx
  exact ⟨g a, by show k.K w (f (g a)) cs; rw [hg]; exact h1, by show ok (f (g a)); rw [hg]; exact h2⟩
/-- The fields from place 'off' on. -/
def OpensF {α : Type} (P : Program) (fs : List Field) (off : Nat) (k : Kd α) (ok : α → Prop) : Prop :=
  ∀ (H : Type) (enc : TypeId × Value → H) (w : World) (n : Nat) (cs : List Value), cs.length = off + k.sz → (∀ f ∈ fs, ∃ y, DataW.trod enc P w 0 (fun _ => true) true n f.type ((cs.drop f.offset).take (P.cellsOf f.type)) = some y) → ∃ a : α, k.K w a (cs.drop off) ∧ ok a
theorem OpensF.one {α : Type} {P : Program} {f : Field} {off : Nat} {k : Kd α} {ok : α → Prop} (h : Opens P f.type k ok) (ho : f.offset = off) (hs : P.cellsOf f.type = k.sz) : OpensF P [f] off k ok := fun H enc w n cs hl hf => by
  obtain ⟨y, hy⟩ := hf f (List.mem_singleton.2 rfl)
  rw [ho, hs, List.take_of_length_le (by rw [List.length_drop]; omega)] at hy
  exact h H enc w n _ y hy
theorem OpensF.cons {α β : Type} {P : Program} {f : Field} {fs : List Field} {off : Nat} {k : Kd α} {k2 : Kd β} {ok : α → Prop} {ok2 : β → Prop} (h : Opens P f.type k ok) (ho : f.offset = off) (hs : P.cellsOf f.type = k.sz)
    (h2 : OpensF P fs (off + k.sz) k2 ok2) : OpensF P (f :: fs) off (Kd.pair k k2) (fun p => ok p.1 ∧ ok2 p.2) := fun H enc w n cs hl hf => by
  have hl' : cs.length = off + (k.sz + k2.sz) := hl
  obtain ⟨y, hy⟩ := hf f (List.mem_cons_self)
  rw [ho, hs] at hy
  obtain ⟨a, ha, hoka⟩ := h H enc w n _ y hy
  obtain ⟨b, hb, hokb⟩ := h2 H enc w n cs (by omega) (fun f' hf' => hf f' (List.mem_cons_of_mem _ hf'))
  refine ⟨(a, b), ⟨_, _, ?_, ha, hb⟩, hoka, hokb⟩
  rw [← List.drop_drop, List.take_append_drop]
theorem Opens.struct {α : Type} {P : Program} {t : TypeId} {fs : Array Field} {k : Kd α} {ok : α → Prop} (ht : P.underlying t = some (.struct fs)) (hc : P.cellsOf t = k.sz) (h : OpensF P fs.toList 0 k ok) : Opens P t k ok := fun H enc w fuel cs x hx => by
  obtain ⟨xs, n, _, rfl, hl, hlen, hf⟩ := DataW.trod_struct ht hx
  obtain ⟨a, h1, h2⟩ := h H enc w n cs (by omega) (fun f hf' => by
    obtain ⟨i, hi, rfl⟩ := List.getElem_of_mem hf'
    have hx' : fs[i]? = some fs.toList[i] := by rw [← Array.getElem?_toList]; exact List.getElem?_eq_getElem hi
    have hxs : i < xs.length := by rw [hlen]; simpa using hi
    exact ⟨_, (hf i _ hx').trans (List.getElem?_eq_getElem hxs)⟩)
  exact ⟨a, by simpa using h1, h2⟩
theorem Opens.slice {α : Type} {P : Program} {t e : TypeId} {k : Kd α} {ok : α → Prop} (eN : Nat) (ht : P.underlying t = some (.slice e)) (hc : P.cellsOf e = k.sz) (h : Opens P e k ok) :
    Opens P t (Kd.slice eN k) (fun xs => xs.length ≤ maxLen ∧ ∀ x ∈ xs, ok x) := fun H enc w fuel cs x hx => by
  rcases open_slice ht hx with ⟨rfl, _⟩ | ⟨a, len, cap, m, n, D, Pl, rfl, _, hl, hm, hmm, _, hel⟩
  · exact ⟨[], ⟨none, 0, rfl, Nat.le_refl _, Kd.C_nil k w⟩, Nat.zero_le _, fun x hx => by cases hx⟩
  · have hlm : len ≤ m := by rw [hmm]; split <;> omega
    rcases Nat.eq_zero_or_pos len with rfl | hpos
    · exact ⟨[], ⟨some a, cap, rfl, hl, ⟨rfl, Nat.zero_le _, fun h => absurd h (Nat.lt_irrefl 0)⟩⟩, Nat.zero_le _, fun x hx => by cases hx⟩
    obtain ⟨v0⟩ : Nonempty α := by
      obtain ⟨cs', _, h2⟩ := hel 0 (by omega)
      obtain ⟨v, _⟩ := h H enc w n cs' _ h2
      exact ⟨v⟩
    have inh : Inhabited α := ⟨v0⟩
    obtain ⟨V, hV⟩ := choose_lt (n := len) (p := fun i (v : α) => ok v ∧ ∃ c, k.K w v c ∧ w.cells? 0 (a.add (i * k.sz)) k.sz = some c) (fun i hi => by
      obtain ⟨cs', h1, h2⟩ := hel i (by omega)
      obtain ⟨v, hv, hokv⟩ := h H enc w n cs' _ h2
      rw [hc] at h1
      exact ⟨v, hokv, cs', hv, h1⟩)
    have hlen : ((List.range len).map V).length = len := by simp
    refine ⟨(List.range len).map V, ⟨some a, cap, by rw [hlen], by rw [hlen]; exact hl, rfl, ?_, ?_⟩, by rw [hlen]; omega, fun x hx => ?_⟩
    · rw [hlen]; unfold maxLen at hm; omega
    · intro _
      refine ⟨a, rfl, fun j p hj => ?_⟩
      have hjl : j < len := by
        have := (List.getElem?_eq_some_iff.1 hj).1
        omega
      obtain rfl : V j = p := by
        rw [List.getElem?_map, List.getElem?_range hjl] at hj
        exact Option.some.inj hj
      obtain ⟨_, c, hK, hcells⟩ := hV j hjl
      obtain ⟨_, hlen2, hcell⟩ := World.cells?_some hcells
      refine ⟨c, hlen2, hK, fun i u hu => ?_⟩
      rw [← Go.Deep.add_add, hcell i (by have := (List.getElem?_eq_some_iff.1 hu).1; omega)]
      exact hu
    · obtain ⟨i, hi, rfl⟩ := List.mem_map.1 hx
      exact (hV i (List.mem_range.1 hi)).1
/-- A value that came in. -/
theorem Opens.value {α : Type} {P : Program} {t : TypeId} {k : Kd α} {ok : α → Prop} (h : Opens P t k ok) {H : Type} {enc : TypeId × Value → H} {w : World} {v : Value} {d : DataW H} {p : List MemPlace} (hv : DataW.Trod enc P w 0 (fun _ => true) true t v d p) :
    ∃ a, k.K w a v.cells.toList ∧ ok a := by
  obtain ⟨fuel, hf⟩ := hv
  exact h H enc w fuel _ _ hf
end Go.Proofs.YtbgihgkobojfaaaO
