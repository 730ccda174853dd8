/- timer.Due: as a prim of the evaluator. -/
import Derived.Test.YtppnijapeepbnaaEvf17C1
open Go Go.Proofs.YtppnijapeepbnaaEv Go.Proofs.YtppnijapeepbnaaR Go.RowKit Go.Shelf Go.Proofs
set_option maxRecDepth 20000
set_option maxHeartbeats 8000000
set_option linter.unusedVariables false
set_option linter.unusedSimpArgs false
namespace Go.Proofs.YtppnijapeepbnaaR
theorem clone0_26 (l : List Np) (h : l.length ≤ 1000000) (hp : 0 < l.length) : ev env0 26 [slN l] [] = some (.own 0 2 0 l.length, [some (.row (flat encN l))]) := by
  refine ev_ofC envZ26 ?_
  have hne : l.length ≠ 0 := by omega
  simp only [slN]
  conv => arg 2; simp only [ir26]
  conv => arg 3; simp only [ir26, Go.Proofs.YtppnijapeepbnaaEv.start, List.length, Nat.reduceAdd, Nat.reduceSub, List.reduceReplicate, List.append_eq, List.cons_append, List.nil_append]
  conv => arg 4; simp only [heapOf]
  try conv => arg 5; simp only [List.length, Nat.reduceAdd]
  try conv => arg 6; simp only [List.length, Nat.reduceAdd]
  refine EVgo9 trivial trivial trivial trivial trivial trivial trivial trivial trivial trivial (k_eqNil_sl rfl hne) trivial ?_
  refine EVgo9 (lenN) trivial trivial trivial trivial trivial trivial trivial trivial trivial trivial trivial ?_
  exact WQ.ret rfl
theorem s26 (l : List Np) (h : l.length ≤ 1000000) : ev envh 26 [slN l] [] = some (.own 0 2 0 l.length, [some (.row (flat encN l))]) := by
  cases l with
  | nil => exact ev_prim envhP26 _ _ rfl
  | cons x l => exact ev_prim envhP26 _ _ (clone0_26 (x :: l) h (by simp))
theorem clone_at (W : World) (v : Value) (xs : List Np) (h : xs.length ≤ 1000000) (hv : SlAt W v xs.length (flatV xs)) :
    Calls Try.prog 26 #[v] W fun e W' => ∃ v', e = .returned v' ∧ (∃ a c, v' = .slice a xs.length c) ∧ Below W.heap.size W W' ∧ SlAt W' v' xs.length (flatV xs) ∧ NewAt W.heap.size v' := by
  have hvr : VR W (fun _ => none) (fun _ => False) (slN xs) v := hv.vr fun _ _ _ _ _ _ => id
  have hi : Inv W (fun _ => none) (fun _ => False) (fun _ => False) (heapOf 0 []) := ⟨fun id B q => (by cases q), fun b q => q.elim, fun b q => q, fun i j b B C q => (by cases q)⟩
  refine ((ev_sound envhOk 26 _ _ _ _ (s26 xs h)).2 W _ _ _ [v] (.cons hvr .nil) hi (fun _ _ => rfl)).mono ?_
  rintro e w' ⟨v', rfl, O', M', F', h2, h3, h4, _, _, _, _, h5⟩
  have hb : Below W.heap.size W w' := ⟨h4.os, h4.tape, h4.output, h4.size, fun k hk => h4.keep k hk fun q => q⟩
  have hrow := h3.blk 0 _ (show hget (heapOf 0 [some (Blk.row (flat encN xs))]) 0 = some _ from rfl)
  generalize hl : xs.length = n at h2
  cases h2 with
  | ownEmpty id es off base => exact ⟨_, rfl, ⟨_, _, rfl⟩, hb, .inl ⟨_, _, rfl, rfl⟩, fun b off k c e h0 => by cases e; exact absurd h0 (Nat.lt_irrefl _)⟩
  | own ho hs hlc hf =>
    subst hl
    have hnew := h5 0 _ _ (show hget (heapOf 0 [some (Blk.row (flat encN xs))]) 0 = some _ from rfl) ho
    refine ⟨_, rfl, ⟨_, _, rfl⟩, hb, ?_, fun b off k c e h0 => ?_⟩
    rotate_left
    · cases e
      rcases hnew with q | ⟨j, C, q, _⟩
      · exact q
      · cases q
    rcases hrow with ⟨q1, q2⟩ | ⟨b, c, el, fz, vs, q1, q2, q3, q4, q5, q6, q7, q8⟩
    · rw [q2] at ho; cases ho
    · rw [q1] at ho
      cases ho
      rw [vrs_flatV_inv q5] at q8
      exact .inr ⟨_, _, _, _, _, _, rfl, hlc, q3, by rw [List.drop_zero]; exact q8⟩
def decN : List PV → Option (List Np)
  | [] => some []
  | .int .i64 a :: .int .i64 b :: r => (decN r).map ((a, b) :: ·)
  | _ => none
theorem decN_enc : ∀ l : List Np, decN (flat encN l) = some l
  | [] => rfl
  | x :: l => by
    have e : flat encN (x :: l) = .int .i64 x.1 :: .int .i64 x.2 :: flat encN l := rfl
    rw [e, decN, decN_enc l]
    rfl
theorem decN_inv : ∀ {xs : List PV} {l : List Np}, decN xs = some l → xs = flat encN l := fun {xs} => by
  induction xs using decN.induct with
  | case1 => intro l h; cases h; rfl
  | case2 a b r ih =>
    intro l h
    rw [decN] at h
    cases hr : decN r with
    | none => rw [hr] at h; cases h
    | some q =>
      rw [hr] at h
      cases h
      rw [ih hr]
      rfl
  | case3 xs h1 h2 => 
    intro l h
    rw [decN] at h
    · cases h
    · exact h1
    · exact h2
def restL (t : Int) (es : List Np) : List Np := (saneL es).drop (dueL t (saneL es)).length
def idsP (es : List Np) : List PV := es.map fun x => PV.int .i64 x.1
def dueP (t : Int) (es : List Np) : PV := .tup [slN (restL t es), .sl (dueL t (saneL es)).length false (idsP (dueL t (saneL es)))]
def dueG : List PV → List (Option Blk) → Option (PV × List (Option Blk)) := fun args H =>
  match args, H with
  | [v, .int .i64 t], [] =>
    match v.norm with
    | .sl n false xs =>
      match decN xs with
      | some es => if n = es.length ∧ es.length ≤ 1000000 then some (dueP t es, []) else none
      | none => none
    | _ => none
  | _, _ => none
theorem vrs_ids {w : World} {O : Nat → Option Nat} {F : Nat → Prop} : ∀ es : List Np, VRs w O F (idsP es) (idV es)
  | [] => .nil
  | x :: es => .cons (.int _ _) (vrs_ids es)
theorem closed_ids : ∀ es : List Np, closedL (idsP es) = true
  | [] => rfl
  | x :: es => by
    have e : idsP (x :: es) = .int .i64 x.1 :: idsP es := rfl
    rw [e]
    simp only [closedL, PV.closed, closed_ids es, Bool.and_self]
theorem saneL_len (es : List Np) : (saneL es).length ≤ es.length := by
  unfold saneL
  split
  · exact Nat.le_refl _
  · simp
theorem slAt_slice {W : World} {v : Value} {k : Nat} {vs : List Value} (h : SlAt W v k vs) : ∃ a c, v = .slice a k c := by
  rcases h with ⟨b, c, rfl, rfl⟩ | ⟨b, off, cap, c, el, fz, rfl, _⟩
  · exact ⟨_, _, rfl⟩
  · exact ⟨_, _, rfl⟩
theorem one_ids (es : List Np) : ∀ v ∈ idV es, v.oneCell' = true := fun v hv => by
  obtain ⟨x, _, rfl⟩ := List.mem_map.1 hv
  rfl
theorem slAt_ids {W : World} {v : Value} {O : Nat → Option Nat} {F : Nat → Prop} {es : List Np} (h : SlAt W v es.length (idV es)) (hF : ∀ b off k cap, v = .slice (some ⟨b, off, none⟩) k cap → 0 < es.length → ¬ F b) : VR W O F (.sl es.length false (idsP es)) v := by
  rcases h with ⟨base, cap, rfl, q⟩ | ⟨b, off, cap, c, el, fz, rfl, hc, hb, hpre⟩
  · have : es = [] := List.length_eq_zero_iff.1 q
    subst this
    exact .slEmpty base cap false fun q => by cases q
  · by_cases h0 : 0 < es.length
    · exact .sl (hF _ _ _ _ rfl h0) hb (vrs_ids es) (one_ids es) (closed_ids es) hpre hc fun q => by cases q
    · have : es = [] := List.length_eq_zero_iff.1 (by omega)
      subst this
      exact .slEmpty _ _ false fun q => by cases q
theorem due_ok (args : List PV) (H : List (Option Blk)) (r : PV) (H' : List (Option Blk)) (h : dueG args H = some (r, H')) : FSpec Try.prog 9 args H r H' := by
  unfold dueG at h
  split at h
  · next v t =>
    split at h
    · next n xs hnorm =>
      split at h
      · next es hdec =>
        split at h
        · next hc =>
          obtain ⟨rfl, hle⟩ := hc
          obtain rfl := decN_inv hdec
          cases h
          refine fspec_plain fun w O F vs hv hF => ?_
          cases hv with
          | cons h1 tl =>
            cases tl with
            | cons h2 tl =>
              cases tl
              obtain rfl := vr_int h2
              have h1n := h1.norm
              rw [hnorm] at h1n
              obtain ⟨hsl, -⟩ := vr_slAt h1n rfl
              obtain ⟨ua, uc, rfl⟩ := slAt_slice hsl
              have hvr := hsl.vr (O := fun _ => none) (F := fun _ => False) fun _ _ _ _ _ _ => id
              have hS0 := calls_plain (sane22 es hle rfl hvr (fun b h => h.elim) rfl) (.cons hvr .nil)
              have hlen := saneL_len es
              refine ((callsIn_wide (n := 4)).1 (Due_in Fence.wide (fun _ => trivial) rfl 4 (by omega) _ ⟨_, _, _, rfl⟩ (saneL es) (by omega) t w (callsIn_wide.2 (hS0.mono ?_)) (fun W v xs h1 h2 _ => callsIn_wide.2 (clone_at W v xs h1 h2)))).mono ?_
              · rintro e w0 ⟨v, O', F', rfl, hb, hvv⟩
                obtain ⟨hs2, -⟩ := vr_slAt hvv rfl
                obtain ⟨a, c, rfl⟩ := slAt_slice hs2
                exact ⟨a, c, rfl, hb, hs2⟩
              · rintro e w' ⟨hb, v1, v2, rfl, k1, k2, n1, n2⟩
                refine ⟨_, rfl, hb, ?_⟩
                refine .tup (vs := [v1, v2]) (.cons (k1.vr fun b off k c e h0 hf => ?_) (.cons (slAt_ids k2 fun b off k c e h0 hf => ?_) .nil))
                · obtain ⟨a', c', e'⟩ := slAt_slice k1
                  rw [e'] at e
                  cases e
                  have := n1 _ _ _ _ e' h0
                  have := hF _ hf
                  omega
                · obtain ⟨a', c', e'⟩ := slAt_slice k2
                  rw [e'] at e
                  cases e
                  have := n2 _ _ _ _ e' h0
                  have := hF _ hf
                  omega
        · cases h
      · cases h
    · cases h
  · cases h
end Go.Proofs.YtppnijapeepbnaaR
