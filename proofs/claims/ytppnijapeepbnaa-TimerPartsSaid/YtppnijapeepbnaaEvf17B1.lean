/- timer.Due. -/
import Derived.Test.YtppnijapeepbnaaEvf17A1
import Derived.Test.YtppnijapeepbnaaEvf17A3
open Go Go.Proofs.YtppnijapeepbnaaEv Go.Proofs.YtppnijapeepbnaaR Go.RowKit Go.Shelf Go.Proofs
attribute [local go_sem] Oper.semAt_some
set_option linter.unusedVariables false
set_option linter.unusedSimpArgs false
namespace Go.Proofs.YtppnijapeepbnaaR
def flatV (es : List Np) : List Value := es.flatMap fun x => [.int .i64 x.1, .int .i64 x.2]
/-- a slice, and what lies there -/
def SlAt (W : World) (v : Value) (k : Nat) (vs : List Value) : Prop :=
  (∃ base cap, v = .slice base 0 cap ∧ k = 0) ∨ ∃ b off cap c el fz, v = .slice (some ⟨b, off, none⟩) k cap ∧ k ≤ cap ∧ W.heap[b]? = some (.cells c el fz) ∧ vs <+: c.toList.drop off
theorem flatV_len (es : List Np) : (flatV es).length = es.length * 2 := by
  induction es with
  | nil => rfl
  | cons x es ih => show ([_, _] ++ flatV es).length = _; rw [List.length_append, ih]; simp; omega
theorem flatV_at : ∀ {es : List Np} {j : Nat}, j < es.length → (flatV es)[j * 2]? = some (.int .i64 (es.getD j (0, 0)).1) ∧ (flatV es)[j * 2 + 1]? = some (.int .i64 (es.getD j (0, 0)).2)
  | x :: es, 0, _ => ⟨rfl, rfl⟩
  | x :: es, j + 1, h => by
    have := flatV_at (es := es) (j := j) (by simpa using h)
    refine ⟨?_, ?_⟩
    · rw [show (j + 1) * 2 = j * 2 + 1 + 1 by omega]; exact this.1
    · rw [show (j + 1) * 2 + 1 = j * 2 + 1 + 1 + 1 by omega]; exact this.2
theorem cell_at {W : World} {b off i : Nat} {c : Array Value} {el : TypeId} {fz : Nat × Nat} {vs : List Value} {v : Value} (h : W.heap[b]? = some (.cells c el fz)) (hp : vs <+: c.toList.drop off) (hv : vs[i]? = some v) : W.cell? ⟨b, off + i, none⟩ = some v := by
  obtain ⟨r, hr⟩ := hp
  have hi : i < vs.length := by
    rcases Nat.lt_or_ge i vs.length with q | q
    · exact q
    · rw [List.getElem?_eq_none q] at hv; cases hv
  have e : (c.toList.drop off)[i]? = some v := by rw [← hr, List.getElem?_append_left hi]; exact hv
  rw [List.getElem?_drop] at e
  unfold World.cell?
  rw [h]
  simpa using e
theorem SlAt.naps {W : World} {b off cap : Nat} {es : List Np} (h : SlAt W (.slice (some ⟨b, off, none⟩) es.length cap) es.length (flatV es)) (hp : 0 < es.length) : ∀ j, j < es.length → NpAt W ⟨b, off + j * 2, none⟩ (es.getD j (0, 0)) := fun j hj => by
  rcases h with ⟨_, _, _, q⟩ | ⟨b', off', cap', c, el, fz, e, hc, hb, hpre⟩
  · omega
  · cases e
    have := flatV_at hj
    exact ⟨cell_at hb hpre this.1, by show W.cell? ⟨b, off + j * 2 + 1, none⟩ = _; rw [Nat.add_assoc]; exact cell_at hb hpre this.2⟩
theorem SlAt.keep {W W' : World} {v : Value} {k : Nat} {vs : List Value} (h : SlAt W v k vs) (hk : ∀ b, b < W.heap.size → W'.heap[b]? = W.heap[b]?) : SlAt W' v k vs := by
  rcases h with q | ⟨b, off, cap, c, el, fz, e, hc, hb, hpre⟩
  · exact .inl q
  · exact .inr ⟨b, off, cap, c, el, fz, e, hc, (hk b (Array.getElem?_eq_some_iff.1 hb).1).trans hb, hpre⟩
/-- what the evaluator tells of naps, and what lies in memory -/
theorem vrs_flatV {w : World} {O : Nat → Option Nat} {F : Nat → Prop} : ∀ es : List Np, VRs w O F (flat encN es) (flatV es)
  | [] => .nil
  | x :: es => .cons (.int _ _) (.cons (.int _ _) (vrs_flatV es))
theorem vrs_flatV_inv {w : World} {O : Nat → Option Nat} {F : Nat → Prop} : ∀ {es : List Np} {vs : List Value}, VRs w O F (flat encN es) vs → vs = flatV es
  | [], vs, h => by cases h; rfl
  | x :: es, vs, h => by
    have e : flat encN (x :: es) = .int .i64 x.1 :: .int .i64 x.2 :: flat encN es := rfl
    rw [e] at h
    cases h with
    | cons a t =>
      cases t with
      | cons b t =>
        rw [vr_int a, vr_int b, vrs_flatV_inv t]
        rfl
theorem closed_N : ∀ es : List Np, closedL (flat encN es) = true
  | [] => rfl
  | x :: es => by
    have e : flat encN (x :: es) = .int .i64 x.1 :: .int .i64 x.2 :: flat encN es := rfl
    rw [e]
    simp only [closedL, PV.closed, closed_N es, Bool.and_self]
theorem one_V (es : List Np) : ∀ v ∈ flatV es, v.oneCell' = true := fun v hv => by
  obtain ⟨x, _, hx⟩ := List.mem_flatMap.1 hv
  rcases List.mem_cons.1 hx with rfl | hx
  · rfl
  · rw [List.mem_singleton.1 hx]; rfl
theorem SlAt.vr {W : World} {O : Nat → Option Nat} {F : Nat → Prop} {v : Value} {es : List Np} (h : SlAt W v es.length (flatV es)) (hF : ∀ b off k cap, v = .slice (some ⟨b, off, none⟩) k cap → 0 < es.length → ¬ F b) : VR W O F (slN es) v := by
  rcases h with ⟨base, cap, rfl, q⟩ | ⟨b, off, cap, c, el, fz, rfl, hc, hb, hpre⟩
  · have : es = [] := List.length_eq_zero_iff.1 q
    subst this
    exact .slEmpty base cap false fun q => by cases q
  · by_cases h0 : 0 < es.length
    · exact .sl (hF _ _ _ _ rfl h0) hb (vrs_flatV es) (one_V es) (closed_N es) hpre hc fun q => by cases q
    · have : es = [] := List.length_eq_zero_iff.1 (by omega)
      subst this
      exact .slEmpty _ _ false fun q => by cases q
theorem vr_slAt {W : World} {O : Nat → Option Nat} {F : Nat → Prop} {v : Value} {n : Nat} {t : Bool} {es : List Np} (h : VR W O F (.sl n t (flat encN es)) v) (hn : n = es.length) : SlAt W v es.length (flatV es) ∧ ∀ b off k cap, v = .slice (some ⟨b, off, none⟩) k cap → 0 < es.length → ¬ F b := by
  subst hn
  generalize hx : flat encN es = xs at h
  generalize hl : es.length = n at h
  cases h with
  | slEmpty base cap tight ht => exact ⟨.inl ⟨base, cap, rfl, rfl⟩, fun b off k cap e h0 => absurd h0 (by omega)⟩
  | sl hm hb hvs h1 hc ht hl2 hti =>
    subst hx; subst hl
    rw [vrs_flatV_inv hvs] at ht
    exact ⟨.inr ⟨_, _, _, _, _, _, rfl, hl2, hb, ht⟩, fun b off k cap e _ => by cases e; exact hm⟩
end Go.Proofs.YtppnijapeepbnaaR
