/- dict.Find as a prim of the evaluator. -/
import Derived.Test.YtbgihgkobojfaaaEvf11A2
import Derived.Test.YtbgihgkobojfaaaEvf11A1
open Go Go.Proofs.YtbgihgkobojfaaaEv Go.Proofs.YtbgihgkobojfaaaR Go.RowKit Go.Shelf Go.Proofs
attribute [local go_sem] Oper.semAt_some
set_option maxRecDepth 20000
set_option maxHeartbeats 8000000
set_option linter.unusedVariables false
set_option linter.unusedSimpArgs false
namespace Go.Proofs.YtbgihgkobojfaaaR
abbrev En := ByteArray × Bool × Int × Int × Int × Int
def encE (e : En) : List PV := [.str e.1, .bool e.2.1, .int .i64 e.2.2.1, .int .i64 e.2.2.2.1, .int .i64 e.2.2.2.2.1, .int .i64 e.2.2.2.2.2]
def slE (l : List En) : PV := .sl l.length false (flat encE l)
def toEN (e : En) : EN := ⟨e.1, e.2.1, e.2.2.1, e.2.2.2.1, e.2.2.2.2.1, e.2.2.2.2.2⟩
def nilE : En := (⟨#[]⟩, false, 0, 0, 0, 0)
def valE (e : En) : List Value := [.string e.1, .bool e.2.1, .int .i64 e.2.2.1, .int .i64 e.2.2.2.1, .int .i64 e.2.2.2.2.1, .int .i64 e.2.2.2.2.2]
def flatV (es : List En) : List Value := es.flatMap valE
/-- a slice, and what lies there -/
def SlAt (W : World) (v : Value) (k : Nat) (vs : List Value) : Prop :=
  (∃ base cap, v = .slice base 0 cap ∧ k = 0) ∨ ∃ b off cap c el fz, v = .slice (some ⟨b, off, none⟩) k cap ∧ k ≤ cap ∧ W.heap[b]? = some (.cells c el fz) ∧ vs <+: c.toList.drop off
theorem flatV_len (es : List En) : (flatV es).length = es.length * 6 := by
  induction es with
  | nil => rfl
  | cons x es ih => show (valE x ++ flatV es).length = _; rw [List.length_append, ih]; simp [valE]; omega
theorem flatV_at : ∀ {es : List En} {j i : Nat}, j < es.length → i < 6 → (flatV es)[j * 6 + i]? = (valE (es.getD j nilE))[i]?
  | x :: es, 0, i, _, hi => by
    show (valE x ++ flatV es)[0 * 6 + i]? = _
    rw [Nat.zero_mul, Nat.zero_add, List.getElem?_append_left (by simpa [valE] using hi)]
    rfl
  | x :: es, j + 1, i, h, hi => by
    have := flatV_at (es := es) (j := j) (i := i) (by simpa using h) hi
    show (valE x ++ flatV es)[(j + 1) * 6 + i]? = _
    rw [List.getElem?_append_right (by simp [valE]; omega), show (j + 1) * 6 + i - (valE x).length = j * 6 + i by simp [valE]; omega, this]
    rfl
theorem cell_at {W : World} {b off i : Nat} {c : Array Value} {el : TypeId} {fz : Nat × Nat} {vs : List Value} {v : Value} (h : W.heap[b]? = some (.cells c el fz)) (hp : vs <+: c.toList.drop off) (hv : vs[i]? = some v) : W.cell? ⟨b, off + i, none⟩ = some v := by
  obtain ⟨r, hr⟩ := hp
  have hi : i < vs.length := by
    rcases Nat.lt_or_ge i vs.length with q | q
    · exact q
    · rw [List.getElem?_eq_none q] at hv; cases hv
  have e : (c.toList.drop off)[i]? = some v := by rw [← hr, List.getElem?_append_left hi]; exact hv
  rw [List.getElem?_drop] at e
  unfold World.cell?
  rw [h]
  simpa using e
theorem add_eq (b off n : Nat) : Addr.add ⟨b, off, none⟩ n = ⟨b, off + n, none⟩ := by
  unfold Addr.add
  split
  · next h => rw [h]; rfl
  · rfl
theorem SlAt.ents {W : World} {b off cap : Nat} {es : List En} (h : SlAt W (.slice (some ⟨b, off, none⟩) es.length cap) es.length (flatV es)) (hp : 0 < es.length) : ∀ j, j < es.length → EN.At W (Addr.add ⟨b, off, none⟩ (j * 6)) (toEN (es.getD j nilE)) := fun j hj => by
  rcases h with ⟨_, _, _, q⟩ | ⟨b', off', cap', c, el, fz, e, hc, hb, hpre⟩
  · omega
  · cases e
    have g : ∀ i v, i < 6 → (valE (es.getD j nilE))[i]? = some v → W.cell? ⟨b, off + (j * 6 + i), none⟩ = some v := fun i v hi hv => cell_at hb hpre ((flatV_at hj hi).trans hv)
    generalize es.getD j nilE = x at *
    have g0 := g 0 _ (by omega) rfl
    have g1 := g 1 _ (by omega) rfl
    have g2 := g 2 _ (by omega) rfl
    have g3 := g 3 _ (by omega) rfl
    have g4 := g 4 _ (by omega) rfl
    have g5 := g 5 _ (by omega) rfl
    simp only [← Nat.add_assoc, Nat.add_zero] at g0 g1 g2 g3 g4 g5
    rw [add_eq]
    exact ⟨g0, g1, g2, g3, g4, g5⟩
theorem vrs_flatV_inv {w : World} {O : Nat → Option Nat} {F : Nat → Prop} : ∀ {es : List En} {vs : List Value}, VRs w O F (flat encE es) vs → vs = flatV es
  | [], vs, h => by cases h; rfl
  | x :: es, vs, h => by
    have e : flat encE (x :: es) = .str x.1 :: .bool x.2.1 :: .int .i64 x.2.2.1 :: .int .i64 x.2.2.2.1 :: .int .i64 x.2.2.2.2.1 :: .int .i64 x.2.2.2.2.2 :: flat encE es := rfl
    rw [e] at h
    rcases h with _ | ⟨a0, t⟩
    rcases t with _ | ⟨a1, t⟩
    rcases t with _ | ⟨a2, t⟩
    rcases t with _ | ⟨a3, t⟩
    rcases t with _ | ⟨a4, t⟩
    rcases t with _ | ⟨a5, t⟩
    cases a0
    cases a1
    rw [vr_int a2, vr_int a3, vr_int a4, vr_int a5, vrs_flatV_inv t]
    rfl
theorem vr_slAt {W : World} {O : Nat → Option Nat} {F : Nat → Prop} {v : Value} {n : Nat} {t : Bool} {es : List En} (h : VR W O F (.sl n t (flat encE es)) v) (hn : n = es.length) : SlAt W v es.length (flatV es) := by
  subst hn
  generalize hx : flat encE es = xs at h
  generalize hl : es.length = n at h
  cases h with
  | slEmpty base cap tight ht => exact .inl ⟨base, cap, rfl, rfl⟩
  | sl hm hb hvs h1 hc ht hl2 hti =>
    subst hx; subst hl
    rw [vrs_flatV_inv hvs] at ht
    exact .inr ⟨_, _, _, _, _, _, rfl, hl2, hb, ht⟩
theorem slAt_slice {W : World} {v : Value} {k : Nat} {vs : List Value} (h : SlAt W v k vs) : ∃ a c, v = .slice a k c ∧ (0 < k → ∃ b off, a = some ⟨b, off, none⟩) := by
  rcases h with ⟨b, c, rfl, rfl⟩ | ⟨b, off, cap, c, el, fz, rfl, _⟩
  · exact ⟨_, _, rfl, fun h => absurd h (Nat.lt_irrefl _)⟩
  · exact ⟨_, _, rfl, fun _ => ⟨_, _, rfl⟩⟩
/-- the last of a name -/
def lastN (u : Bs) : List En → Nat → Option Nat
  | [], _ => none
  | e :: r, k => match lastN u r (k + 1) with
    | some j => some j
    | none => if e.1.toList = u then some k else none
def findN (es : List En) (s : ByteArray) : Option Nat := if upL s.toList = [] then none else lastN (upL s.toList) es 0
def encF : Option Nat → PV
  | none => .tup [.int .i64 0, .bool false]
  | some k => .tup [.int .i64 (k : Nat), .bool true]
theorem lastN_none {u : Bs} : ∀ {es : List En} {k : Nat}, (∀ j, j < es.length → (es.getD j nilE).1.toList ≠ u) → lastN u es k = none
  | [], _, _ => rfl
  | e :: r, k, h => by
    have h1 := lastN_none (u := u) (es := r) (k := k + 1) fun j hj => h (j + 1) (by simpa using hj)
    unfold lastN
    rw [h1]
    exact if_neg (h 0 (by simp))
theorem lastN_some {u : Bs} : ∀ {es : List En} {k i : Nat}, i < es.length → (es.getD i nilE).1.toList = u → (∀ j, i < j → j < es.length → (es.getD j nilE).1.toList ≠ u) → lastN u es k = some (k + i)
  | e :: r, k, 0, _, h1, h2 => by
    have hn := lastN_none (u := u) (es := r) (k := k + 1) fun j hj => h2 (j + 1) (by omega) (by simpa using hj)
    unfold lastN
    rw [hn]
    exact if_pos h1
  | e :: r, k, i + 1, h0, h1, h2 => by
    have hn := lastN_some (u := u) (es := r) (k := k + 1) (i := i) (by simpa using h0) h1 fun j hj hl => h2 (j + 1) (by omega) (by simpa using hl)
    unfold lastN
    rw [hn]
    show some (k + 1 + i) = some (k + (i + 1))
    congr 1
    omega
def decE : List PV → Option (List En)
  | [] => some []
  | .str a :: .bool b :: .int .i64 c :: .int .i64 d :: .int .i64 e :: .int .i64 f :: r => (decE r).map ((a, b, c, d, e, f) :: ·)
  | _ => none
theorem decE_enc : ∀ l : List En, decE (flat encE l) = some l
  | [] => rfl
  | x :: l => by
    have e : flat encE (x :: l) = .str x.1 :: .bool x.2.1 :: .int .i64 x.2.2.1 :: .int .i64 x.2.2.2.1 :: .int .i64 x.2.2.2.2.1 :: .int .i64 x.2.2.2.2.2 :: flat encE l := rfl
    rw [e, decE, decE_enc l]
    rfl
theorem decE_inv : ∀ {xs : List PV} {l : List En}, decE xs = some l → xs = flat encE l := fun {xs} => by
  induction xs using decE.induct with
  | case1 => intro l h; cases h; rfl
  | case2 a b c d e f r ih =>
    intro l h
    rw [decE] at h
    cases hr : decE r with
    | none => rw [hr] at h; cases h
    | some q =>
      rw [hr] at h
      cases h
      rw [ih hr]
      rfl
  | case3 xs h1 h2 =>
    intro l h
    rw [decE] at h
    · cases h
    · exact h1
    · exact h2
def findG : List PV → List (Option Blk) → Option (PV × List (Option Blk)) := fun args H =>
  match args, H with
  | [v, .str s], [] =>
    match v.norm with
    | .sl n false xs =>
      match decE xs with
      | some es => if n = es.length ∧ es.length ≤ 1000000 ∧ s.size ≤ 1000000 then some (encF (findN es s), []) else none
      | none => none
    | _ => none
  | _, _ => none
theorem upper_calls (s : ByteArray) (hs : s.size ≤ 1000000) (W : World) : Calls Try.prog 22 #[.string s] W fun e w' => e = .returned (.string ⟨(upL s.toList).toArray⟩) ∧ Below W.heap.size W w' := by
  have h := (ev_sound envhOk 22 _ _ _ _ ((s22 rfl (fun _ _ => rfl) s hs).ok [.str s] rfl rfl)).2
  refine (calls_plain h (vs := [.string s]) (.cons (.str s) .nil)).mono ?_
  rintro e w' ⟨v, O', F', rfl, hb, hv⟩
  cases hv
  exact ⟨rfl, hb⟩
set_option maxRecDepth 100000 in
set_option maxHeartbeats 4000000 in
theorem Find_empty (F : Fence) (n : Nat) (h1 : 1 ≤ n) (hfn : ∀ k, F.fn k) (hro : F.round = none) (v : Value) (hv : ∃ a b c, v = .slice a b c) (s u : ByteArray) (hu : u.toList = []) (w : World)
    (hU : ∀ W, CallsIn F (n - 1) Try.prog 22 #[.string s] W fun e w' => e = .returned (.string u) ∧ Below W.heap.size W w') :
    CallsIn F n Try.prog 11 #[v, .string s] w fun e W' => e = .returned (.tuple #[.int .i64 0, .bool false]) ∧ Below w.heap.size w W' := by
  obtain ⟨a, b, c, rfl⟩ := hv
  have c4b0 : (u.toList == ([] : List UInt8)) = true := beq_iff_eq.mpr hu
  have c4b1 : (u.toList != ([] : List UInt8)) = false := bne_eq_false_iff_eq.mpr hu
  clear hu
  refine callsIn_of_wp Try.func11 rfl (hfn _) ?_ hro
  simp only [Try.ntmps11, List.size_toArray, List.length_cons, List.length_nil, Nat.reduceAdd, Nat.reduceSub, Array.replicate_succ, Array.replicate_zero, List.push_toArray, List.append_toArray, List.nil_append, List.cons_append]
  gi_wp2_with (gi_at_call 22; refine (hU _).mono ?_; rintro e w5 ⟨rfl, hb⟩; have bR1 := ((Boxed.new w 3 (.int .i64 0)).alloc (.cells #[.bool false] 4)).below hb; have bR2 := (Boxed.new (w.alloc (.cells #[.int .i64 0] 3)) 4 (.bool false)).below hb; simp only [World.size_alloc] at bR2; replace bR1 := bR1.alloc (.cells #[.string u] 9); replace bR2 := bR2.alloc (.cells #[.string u] 9); have cA := bR1.cell; have fA := bR1.frozen; have cB := bR2.cell; have fB := bR2.frozen; replace hb := Aside0.mk hb; replace bR1 := Aside0.mk bR1; replace bR2 := Aside0.mk bR2)
  have bA2 := (bR1.out.set (.int .i64 0)).other (B' := w.heap.size + 1) (by omega) (.bool false)
  have bB2 := (bR2.out.other (B' := w.heap.size) (by omega) (.int .i64 0)).set (.bool false)
  have hc5 := bA2.cell
  have hc6 := bB2.cell
  refine bodyPost_ret (v := .tuple #[.int .i64 0, .bool false]) (by simp [results, Try.f11, go_sem, hc5, hc6]) rfl ?_
  have hB1 : Below w.heap.size w w5 := (((Below.refl _ w).alloc (Nat.le_refl _) _).alloc (by simp) _).trans (hb.out.mono (by simp; omega))
  exact ⟨rfl, ((hB1.alloc hB1.size _).setCell (p := ⟨w.heap.size, 0, none⟩) (Nat.le_refl _) _).setCell (p := ⟨w.heap.size + 1, 0, none⟩) (by simp) _⟩
theorem find_ok (args : List PV) (H : List (Option Blk)) (r : PV) (H' : List (Option Blk)) (h : findG args H = some (r, H')) : FSpec Try.prog 11 args H r H' := by
  unfold findG at h
  split at h
  · next v s =>
    split at h
    · next n xs hnorm =>
      split at h
      · next es hdec =>
        split at h
        · next hc =>
          obtain ⟨rfl, hle, hs⟩ := hc
          obtain rfl := decE_inv hdec
          cases h
          refine fspec_plain fun w O F vs hv hF => ?_
          cases hv with
          | cons h1 tl =>
            cases tl with
            | cons h2 tl =>
              cases tl
              cases h2
              have h1n := h1.norm
              rw [hnorm] at h1n
              have hsl := vr_slAt h1n rfl
              obtain ⟨A, cap, rfl, hA⟩ := slAt_slice hsl
              have hU := fun W => callsIn_wide (n := 2).2 (upper_calls s hs W)
              unfold findN
              by_cases hu : upL s.toList = []
              · rw [if_pos hu]
                refine ((callsIn_wide (n := 3)).1 (Find_empty Fence.wide 3 (by omega) (fun _ => trivial) rfl _ ⟨_, _, _, rfl⟩ s _ (by rw [toL]; exact hu) w hU)).mono ?_
                rintro e w' ⟨rfl, hb⟩
                exact ⟨_, rfl, hb, .tup (vs := [_, _]) (.cons (.int _ _) (.cons (.bool _) .nil))⟩
              · rw [if_neg hu]
                refine ((callsIn_wide (n := 3)).1 (Find_in Fence.wide 3 (fun _ => trivial) rfl (Nat.le_refl _) es.length cap es.length A (A.getD ⟨0, 0, none⟩) (fun j => toEN (es.getD j nilE)) s _ (by rw [toL]; exact hu) (by unfold wrap64; omega) (Nat.le_refl _) (by omega) (fun h => by obtain ⟨b, off, rfl⟩ := hA h; rfl) w (fun j hj => by
                  obtain ⟨b, off, rfl⟩ := hA (by omega)
                  exact hsl.ents (by omega) j hj) hU)).mono ?_
                rintro e w' ⟨h, hb⟩
                rcases h with ⟨rfl, h⟩ | ⟨k, hk, rfl, hk1, hk2⟩
                · rw [lastN_none fun j hj => by have := h j hj; rw [toL (upL s.toList)] at this; exact this]
                  exact ⟨_, rfl, hb, .tup (vs := [_, _]) (.cons (.int _ _) (.cons (.bool _) .nil))⟩
                · rw [lastN_some hk (by rw [toL (upL s.toList)] at hk1; exact hk1) fun j hj hl => by have := hk2 j hj hl; rw [toL (upL s.toList)] at this; exact this, Nat.zero_add]
                  exact ⟨_, rfl, hb, .tup (vs := [_, _]) (.cons (.int _ _) (.cons (.bool _) .nil))⟩
        · cases h
      · cases h
    · cases h
  · cases h
end Go.Proofs.YtbgihgkobojfaaaR
