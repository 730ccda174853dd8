/- General words (4): an evaluator of the model's code, and that what it answers the model answers. -/
import Derived.Test.YtipnedhclbopdaaDoorEv3
import Derived.OpenShut
import Derived.Lib.SmallJoins
import Derived.Deep.Slices
import Derived.Below
import Derived.WideShapes
import Derived.RangeFuncNested
import Derived.RangeFuncFrom
import Derived.RangeFuncBound
import Derived.RangeFuncCalls
import Derived.RangeFuncLeaves
import Derived.RangeFuncBox
import Derived.Shelf.Abstract
import Derived.WalkKit
import Derived.OwnWalkIn
import Derived.TacticsInMore
import Derived.LoopNIn
import Derived.LoopIn
/- A function's code as the evaluator's; what it comes to. -/
set_option linter.unusedVariables false
set_option linter.unusedSimpArgs false
namespace Go.Proofs.YtipnedhclbopdaaDoorEv

abbrev Ann := List Nat × List (Nat × Option Nat × Nat)
def copRegion (P : Program) (raws : Nat → List Bool) (ops : Array Oper) (draw : Bool) : Option C :=
  match ops.toList.mapM (copOp P raws ops) with
  | none => none
  | some l => if draw then (if P.follows .mixedOrders && drawOk ops l then some (.ops (some (confOf ops l)) l) else none) else some (.ops none l)
def copC (P : Program) (raws : Nat → List Bool) : Code → List Ann → Option (C × List Ann)
  | .skip, a => some (.skip, a)
  | .region _ ops d, a => match copRegion P raws ops d with | some c => some (c, a) | none => none
  | .seq x y, a => match copC P raws x a with
    | some (x', a') => match copC P raws y a' with
      | some (y', a'') => some (.seq x' y', a'')
      | none => none
    | none => none
  | .cond c x y, a => match copX c with
    | some c' => match copC P raws x a with
      | some (x', a') => match copC P raws y a' with
        | some (y', a'') => some (.cond c' x' y', a'')
        | none => none
      | none => none
    | none => none
  | .block id c, a => match copC P raws c a with | some (c', a') => some (.block id c', a') | none => none
  | .loop c, n :: a => match copC P raws c a with | some (c', a') => some (.loop n.1 n.2 c', a') | none => none
  | .exit id, a => some (.exit id, a)
  | .ret, a => some (.ret, a)
  | _, _ => none
def copF (P : Program) (raws : Nat → List Bool) (ann : List Ann) (f : Nat) : Option F :=
  match P.funcs[f]? with
  | none => none
  | some fn => if fn.name == "runtime.NumGoroutine" then none else
    match fn.body with
    | none => none
    | some c => match copC P raws c ann, fn.results.toList.mapM (copRV P) with
      | some (c', []), some rv => some { ntmps := fn.ntmps, res := rv, code := c' }
      | _, _ => none

def exOf : Ex → Exit
  | .normal => .normal
  | .exit id => .exit id
  | .ret => .ret
def QQ (B : Base) (ex : Ex) (s : St) : Exit → Act → World → Prop := fun e a w => e = exOf ex ∧ CI B s s.next a w

theorem exists_least {p : Nat → Prop} : ∀ n, p n → ∃ m, p m ∧ ∀ k, p k → m ≤ k := by
  intro n
  induction n using Nat.strongRecOn with
  | _ n ih =>
    intro h
    by_cases q : ∃ m, m < n ∧ p m
    · obtain ⟨m, q1, q2⟩ := q
      exact ih m q1 q2
    · refine ⟨n, h, fun k hk => ?_⟩
      rcases Nat.lt_or_ge k n with q' | q'
      · exact absurd ⟨k, q', hk⟩ q
      · exact q'
open Classical in
noncomputable def least (p : Nat → Prop) : Nat := if h : ∃ m, p m ∧ ∀ k, p k → m ≤ k then h.choose else 0
theorem least_spec {p : Nat → Prop} {n : Nat} (h : p n) : p (least p) ∧ ∀ k, p k → least p ≤ k := by
  unfold least
  have := exists_least n h
  rw [dif_pos this]
  exact this.choose_spec

section
variable {P : Program} {raws : Nat → List Bool} {B : Base} {cf : CF} {fuel : Nat}

theorem cond_val {s : St} {a : Act} {w : World} {n : Nat} (hc : CI B s n a w) {x : Operand} {y : X} (hx : copX x = some y) {b : Bool} (hv : s.val y = .bool b) : a.eval x = .bool b := by
  obtain ⟨O, M, F, c⟩ := hc
  have := TR.val (s := s) (a := a) ⟨c.tr⟩ hx
  rw [hv] at this
  cases hq : a.eval x <;> rw [hq] at this <;> cases this
  rfl

theorem evalC_sound (hcf : CFok P cf) : ∀ (code : Code) (ann ann' : List Ann) (c : C), copC P raws code ann = some (c, ann') → ∀ (s s' : St) (ex : Ex), evalC cf fuel c s = some (ex, s') → ∀ a w, CI B s s.next a w → code.wp P (QQ B ex s') a w
  | .skip, ann, ann', c, hc, s, s', ex, he, a, w, hi => by
    simp [copC] at hc; obtain ⟨rfl, rfl⟩ := hc
    simp [evalC] at he; obtain ⟨rfl, rfl⟩ := he
    exact wp_skip ⟨rfl, hi⟩
  | .exit id, ann, ann', c, hc, s, s', ex, he, a, w, hi => by
    simp [copC] at hc; obtain ⟨rfl, rfl⟩ := hc
    simp [evalC] at he; obtain ⟨rfl, rfl⟩ := he
    exact wp_exit ⟨rfl, hi⟩
  | .ret, ann, ann', c, hc, s, s', ex, he, a, w, hi => by
    simp [copC] at hc; obtain ⟨rfl, rfl⟩ := hc
    simp [evalC] at he; obtain ⟨rfl, rfl⟩ := he
    exact wp_ret ⟨rfl, hi⟩
  | .region id ops d, ann, ann', c, hc, s, s', ex, he, a, w, hi => by
    simp only [copC] at hc
    split at hc
    · next c' hr =>
      cases hc
      unfold copRegion at hr
      split at hr
      · cases hr
      · next l hl =>
        cases d with
        | false =>
          simp at hr; subst hr
          simp only [evalC] at he
          split at he
          · next s1 hs =>
            cases he
            refine wp_region ?_
            have hlen : l.length = ops.size := by
              have : ∀ (xs : List Oper) (ys : List Op), xs.mapM (copOp P raws ops) = some ys → ys.length = xs.length := by
                intro xs
                induction xs with
                | nil => intro ys h; simp at h; subst h; rfl
                | cons x xs ih =>
                  intro ys h
                  rw [List.mapM_cons] at h
                  cases h1 : copOp P raws ops x with
                  | none => rw [h1] at h; cases h
                  | some y =>
                    cases h2 : xs.mapM (copOp P raws ops) with
                    | none => rw [h1, h2] at h; cases h
                    | some ys' => rw [h1, h2] at h; cases h; simp [ih ys' h2]
              have := this _ _ hl; simpa using this
            have := seqOps hcf ops (QQ B .normal s') s' (fun a w h => ⟨rfl, h⟩) l 0 s s.next a w (by simpa using hl) hs hi
            rw [hlen, ← List.range_eq_range'] at this
            exact this
          · cases he
        | true =>
          simp only [if_true] at hr
          split at hr
          · next hd =>
            simp only [Bool.and_eq_true] at hd
            cases hr
            simp only [evalC] at he
            split at he
            · next s1 hs =>
              split at he
              · next hcf2 =>
                cases he
                exact drawOps hcf hd.1 hl hd.2 hs hcf2 hi (fun a w h => ⟨rfl, h⟩)
              · cases he
            · cases he
          · cases hr
    · cases hc
  | .seq x y, ann, ann', c, hc, s, s', ex, he, a, w, hi => by
    simp only [copC] at hc
    split at hc
    · next x' a' hx =>
      split at hc
      · next y' a'' hy =>
        cases hc
        simp only [evalC] at he
        refine wp_seq ?_
        cases h1 : evalC cf fuel x' s with
        | none => rw [h1] at he; cases he
        | some p =>
          obtain ⟨ex1, s1⟩ := p
          rw [h1] at he
          refine wp_mono (evalC_sound hcf x ann a' x' hx s s1 ex1 h1 a w hi) ?_
          rintro e a2 w2 ⟨rfl, hi2⟩
          cases ex1 with
          | normal => exact evalC_sound hcf y a' ann' y' hy s1 s' ex he a2 w2 hi2
          | exit id => cases he; exact ⟨rfl, hi2⟩
          | ret => cases he; exact ⟨rfl, hi2⟩
      · cases hc
    · cases hc
  | .cond co x y, ann, ann', c, hc, s, s', ex, he, a, w, hi => by
    simp only [copC] at hc
    split at hc
    · next c' hco =>
      split at hc
      · next x' a' hx =>
        split at hc
        · next y' a'' hy =>
          cases hc
          simp only [evalC] at he
          split at he
          · next b hb =>
            refine wp_cond (cond_val hi hco hb) ?_
            cases b with
            | true => simp only [if_true] at he ⊢; exact evalC_sound hcf x ann a' x' hx s s' ex he a w hi
            | false => simp only [Bool.false_eq_true, if_false] at he ⊢; exact evalC_sound hcf y a' ann' y' hy s s' ex he a w hi
          · cases he
        · cases hc
      · cases hc
    · cases hc
  | .block id b, ann, ann', c, hc, s, s', ex, he, a, w, hi => by
    simp only [copC] at hc
    split at hc
    · next b' a' hb =>
      cases hc
      simp only [evalC] at he
      refine wp_block ?_
      cases h1 : evalC cf fuel b' s with
      | none => rw [h1] at he; cases he
      | some p =>
        obtain ⟨ex1, s1⟩ := p
        rw [h1] at he
        refine wp_mono (evalC_sound hcf b ann ann' b' hb s s1 ex1 h1 a w hi) ?_
        rintro e a2 w2 ⟨rfl, hi2⟩
        cases ex1 with
        | normal => cases he; exact ⟨rfl, hi2⟩
        | exit i =>
          simp only at he
          simp only [exOf, Exit.inBlock]
          split
          · next q => rw [if_pos q] at he; cases he; exact ⟨rfl, hi2⟩
          · next q => rw [if_neg q] at he; cases he; exact ⟨rfl, hi2⟩
        | ret => cases he; exact ⟨rfl, hi2⟩
    · cases hc
  | .loop b, [], ann', c, hc, s, s', ex, he, a, w, hi => by simp [copC] at hc
  | .loop b, n :: ann, ann', c, hc, s, s', ex, he, a, w, hi => by
    simp only [copC] at hc
    split at hc
    · next b' a' hb =>
      cases hc
      simp only [evalC] at he
      refine wp_loop (fun a w => ∃ m t, iter (fun s => evalC cf fuel b' (canonS n.1 n.2 s)) m t = some (ex, s') ∧ CI B t t.next a w)
        (fun a w => least fun m => ∃ t, iter (fun s => evalC cf fuel b' (canonS n.1 n.2 s)) m t = some (ex, s') ∧ CI B t t.next a w) ⟨fuel, s, he, hi⟩ ?_
      rintro a w ⟨m0, t0, h0, hi0⟩
      have hls := least_spec (p := fun m => ∃ t, iter (fun s => evalC cf fuel b' (canonS n.1 n.2 s)) m t = some (ex, s') ∧ CI B t t.next a w) ⟨t0, h0, hi0⟩
      generalize hm : least (fun m => ∃ t, iter (fun s => evalC cf fuel b' (canonS n.1 n.2 s)) m t = some (ex, s') ∧ CI B t t.next a w) = m at hls ⊢
      obtain ⟨⟨t, ht, hit⟩, _⟩ := hls
      cases m with
      | zero => simp [iter] at ht
      | succ m =>
        simp only [iter] at ht
        have hcan := canonS_sound n.1 n.2 hit
        cases h1 : evalC cf fuel b' (canonS n.1 n.2 t) with
        | none => rw [h1] at ht; cases ht
        | some p =>
          obtain ⟨ex1, s1⟩ := p
          rw [h1] at ht
          refine wp_mono (evalC_sound hcf b ann ann' b' hb _ s1 ex1 h1 a w hcan) ?_
          rintro e a2 w2 ⟨rfl, hi2⟩
          cases ex1 with
          | normal =>
            refine ⟨⟨m, s1, ht, hi2⟩, ?_⟩
            have := (least_spec (p := fun m => ∃ t, iter (fun s => evalC cf fuel b' (canonS n.1 n.2 s)) m t = some (ex, s') ∧ CI B t t.next a2 w2) ⟨s1, ht, hi2⟩).2 m ⟨s1, ht, hi2⟩
            omega
          | exit i => cases ht; exact ⟨rfl, hi2⟩
          | ret => cases ht; exact ⟨rfl, hi2⟩
    · cases hc
  | .rangeFunc _ _ _ _, ann, ann', c, hc, s, s', ex, he, a, w, hi => by cases ann <;> simp [copC] at hc
  | .scope _, ann, ann', c, hc, s, s', ex, he, a, w, hi => by cases ann <;> simp [copC] at hc
  | .label _, ann, ann', c, hc, s, s', ex, he, a, w, hi => by cases ann <;> simp [copC] at hc
  | .goto _, ann, ann', c, hc, s, s', ex, he, a, w, hi => by cases ann <;> simp [copC] at hc
  | .refuse _, ann, ann', c, hc, s, s', ex, he, a, w, hi => by cases ann <;> simp [copC] at hc

/-- the end of a call -/
theorem finish_sound {fn : Func} {f : F} {r : PV} {H H' : List (Option Blk)} (hr : fn.results.toList.mapM (copRV P) = some f.res) {s : St} (hf : finish f s = some (r, H')) {w0 : World} {O0 : Nat → Option Nat} {M0 F0 : Nat → Prop} {a : Act} {w : World}
    (hi : CI ⟨w0, O0, M0, F0, H.length, heapOf 0 H⟩ s s.next a w) : a.defers = [] ∧ ∃ v, (results fn a.tmps).run P w = .ok v w ∧ ∃ O' M' F', VR w O' F' r v ∧ Inv w O' M' F' (heapOf 0 H') ∧ Stp M0 w0 w ∧ (∀ id, id < H.length → O' id = O0 id) ∧
      (∀ b, b < w0.heap.size → F' b → F0 b) ∧ (∀ b, b < w0.heap.size → M' b → M0 b) ∧ (∀ b, F0 b → ¬ M0 b → F' b) ∧
      (∀ id b B, hget (heapOf 0 H') id = some B → O' id = some b → w0.heap.size ≤ b ∨ ∃ j C, hget (heapOf 0 H) j = some C ∧ O0 j = some b) := by
  obtain ⟨O, M, F, c⟩ := hi
  refine ⟨c.df, ?_⟩
  unfold finish at hf
  split at hf
  · cases hf
  · next vs hvs =>
    obtain ⟨cs, k1, k2⟩ := resVs_sound (P := P) c.inv c.tr _ _ _ hr hvs
    have hrun : (results fn a.tmps).run P w = .ok (if h : cs.toArray.size = 1 then cs.toArray[0] else .tuple cs.toArray) w := by
      have e1 : fn.results.mapM (resOf a) = List.toArray <$> fn.results.toList.mapM (resOf a) := by
        rw [← Array.mapM_eq_mapM_toList]
      have e2 : results fn a.tmps = (do let vs ← fn.results.mapM (resOf a); pure (if h : vs.size = 1 then vs[0] else .tuple vs)) := rfl
      rw [e2, e1]
      simp [k1]
    simp only at hf
    have hv : VR w O F (resOne vs) (if h : cs.toArray.size = 1 then cs.toArray[0] else .tuple cs.toArray) := by
      cases k2 with
      | nil => exact .tup .nil
      | cons h1 h2 =>
        cases h2 with
        | nil => simpa [resOne] using h1
        | cons h3 h4 =>
          have := VR.tup (.cons h1 (.cons h3 h4))
          simpa [resOne] using this
    obtain ⟨p1, p2, p3⟩ := reach_spec s.heap 100 (keptIds s.heap s.k0 ++ (resOne vs).ids) (List.range s.k0) List.nodup_range
    obtain ⟨g1, g2, g3, g4⟩ := renum c.inv p1
    cases hf
    refine ⟨_, hrun, _, _, F, VR.mapId g2 hv, g1, c.stp, fun id hid => ?_, c.less, fun b hb q => c.lessM b hb q.1, c.keepF, fun id b C hC hb => ?_⟩
    · have hk : s.k0 = H.length := c.k0
      have : (reach s.heap 100 (keptIds s.heap s.k0 ++ (resOne vs).ids) (List.range s.k0))[id]? = some id := range_prefix p3 (by omega)
      unfold OS; rw [this]
      exact c.keep id hid
    · obtain ⟨i, D, q1, q2, q3⟩ := g4 id C hC
      rw [q3] at hb
      exact c.prov i b D q2 hb

/-- what the evaluator knows of the functions -/
def EnvOk (P : Program) (raws : Nat → List Bool) (env : Env) : Prop := ∀ f d, env f = some d → match d with
  | .body d => ∃ ann, copF P raws ann f = some d
  | .pub d => ∃ ann, copF P raws ann f = some d
  | .prim g => Callable P f ∧ ∀ args H r H', g args H = some (r, H') → FSpec P f args H r H'

mutual
theorem VR.norm {w : World} {o : Nat → Option Nat} {F : Nat → Prop} : ∀ {v c}, VR w o F v c → VR w o F v.norm c
  | _, _, .int k n => .int k n
  | _, _, .bool b => .bool b
  | _, _, .str s => .str s
  | _, _, .flt k b => .flt k b
  | _, _, .cpx k a b => .cpx k a b
  | _, _, .agg h h1 => .agg (VRs.norm h) h1
  | _, _, .tup h => .tup (VRs.norm h)
  | _, _, .nil => .slEmpty none 0 false (fun h => by cases h)
  | _, _, .slEmpty base cap tight h => .slEmpty base cap false (fun h => by cases h)
  | _, _, .sl n hb h h1 hc ht hl hti => .sl n hb h h1 hc ht hl (fun h => by cases h)
  | _, _, .ownEmpty id es off base => .ownEmpty id es off base
  | _, _, .own h1 h2 h3 h4 => .own h1 h2 h3 h4
  | _, _, .ptr h1 h2 => .ptr h1 h2
  | _, _, .rop n hb h h1 hc ht => .rop n hb h h1 hc ht
  | _, _, .cp n hb h h1 ht => .cp n hb h h1 ht
  | _, _, .nilp => .nilp
  | _, _, .fn h1 h2 => .fn h1 h2
  | _, _, .nilfn => .nilfn
  | _, _, .map h1 h2 => .map h1 h2
  | _, _, .undef v => .undef v
theorem VRs.norm {w : World} {o : Nat → Option Nat} {F : Nat → Prop} : ∀ {v c}, VRs w o F v c → VRs w o F (norms v) c
  | _, _, .nil => .nil
  | _, _, .cons h t => .cons (VR.norm h) (VRs.norm t)
end
mutual
theorem peek_live {h : Heap} : ∀ {v v' : PV}, v.peek h = some v' → ∀ id ∈ v.ids, ∃ B, hget h id = some B
  | .agg cs, v', hp, id, hid => by
    simp only [PV.peek] at hp
    cases hl : peekL h cs with
    | none => rw [hl] at hp; cases hp
    | some l => exact peekL_live hl id (by simpa [PV.ids] using hid)
  | .tup cs, v', hp, id, hid => by
    simp only [PV.peek] at hp
    cases hl : peekL h cs with
    | none => rw [hl] at hp; cases hp
    | some l => exact peekL_live hl id (by simpa [PV.ids] using hid)
  | .own i es off len, v', hp, id, hid => by
    simp only [PV.ids, List.mem_singleton] at hid
    subst hid
    simp only [PV.peek] at hp
    cases hg : hget h id with
    | none => rw [hg] at hp; cases hp
    | some B => exact ⟨B, rfl⟩
  | .fn f a b, v', hp, id, hid => by
    simp only [PV.peek] at hp
    cases hl : peekL h a with
    | none => rw [hl] at hp; cases hp
    | some l =>
      cases hl2 : peekL h b with
      | none => rw [hl, hl2] at hp; cases hp
      | some l2 =>
        simp only [PV.ids, List.mem_append] at hid
        rcases hid with hid | hid
        · exact peekL_live hl id hid
        · exact peekL_live hl2 id hid
  | .ptr _ _, v', hp, id, hid => by simp [PV.peek] at hp
  | .map _, v', hp, id, hid => by simp [PV.peek] at hp
  | .int _ _, v', hp, id, hid => by simp [PV.ids] at hid
  | .bool _, v', hp, id, hid => by simp [PV.ids] at hid
  | .str _, v', hp, id, hid => by simp [PV.ids] at hid
  | .flt _ _, v', hp, id, hid => by simp [PV.ids] at hid
  | .cpx _ _ _, v', hp, id, hid => by simp [PV.ids] at hid
  | .nil, v', hp, id, hid => by simp [PV.ids] at hid
  | .sl _ _ _, v', hp, id, hid => by simp [PV.ids] at hid
  | .rop _, v', hp, id, hid => by simp [PV.ids] at hid
  | .cp v, v', hp, id, hid => by
    simp only [PV.peek] at hp
    cases hl : v.peek h with
    | none => rw [hl] at hp; cases hp
    | some l => exact peek_live hl id (by simpa [PV.ids] using hid)
  | .nilp, v', hp, id, hid => by simp [PV.ids] at hid
  | .nilfn, v', hp, id, hid => by simp [PV.ids] at hid
  | .undef, v', hp, id, hid => by simp [PV.ids] at hid
theorem peekL_live {h : Heap} : ∀ {v v' : List PV}, peekL h v = some v' → ∀ id ∈ idsL v, ∃ B, hget h id = some B
  | [], v', hp, id, hid => by simp [idsL] at hid
  | v :: r, v', hp, id, hid => by
    simp only [peekL] at hp
    cases hl : v.peek h with
    | none => rw [hl] at hp; cases hp
    | some l =>
      cases hl2 : peekL h r with
      | none => rw [hl, hl2] at hp; cases hp
      | some l2 =>
        simp only [idsL, List.mem_append] at hid
        rcases hid with hid | hid
        · exact peek_live hl id hid
        · exact peekL_live hl2 id hid
end
/-- an answer told by value: nothing of what the function made is spoken of -/
theorem FSpec.pub {f : Nat} {args : List PV} {r : PV} {H' : List (Option Blk)} {x : PV × List (Option Blk)} (hs : FSpec P f (norms args) [] r H') (hp : pubR (r, H') = some x) : FSpec P f args [] x.1 x.2 := by
  intro w O M F vs hv hI hO
  unfold pubR at hp
  simp only at hp
  split at hp
  · next v hpk =>
    cases hp
    have hI0 : Inv w O (fun _ => False) F (heapOf 0 []) := ⟨fun id B h => (by cases h), hI.mlt, fun b h => h.elim, fun i j b B C h => (by cases h)⟩
    refine (hs w O (fun _ => False) F vs hv.norm hI0 hO).mono ?_
    rintro e w' ⟨u, rfl, O', M', F', k1, k2, k3, k4, k5, k6, k7, k8⟩
    have hpe := VR.peek (F' := F) k2 (fun b hb h => k7 b h (fun q => q)) k1 hpk (fun id hid b hb hF => by
      obtain ⟨B, hB⟩ := peek_live hpk id hid
      rcases k8 id b B hB hb with h | ⟨j, C, hC, _⟩
      · have := hI.mlt.lt b hF; omega
      · cases hC)
    refine ⟨u, rfl, O, M, F, (hpe.1.reo hpe.2).norm, ⟨fun id B h => (by cases h), hI.mlt.same k3 (fun _ q => q.elim), hI.sub, fun i j b B C h => (by cases h)⟩, k3.mono (fun _ _ q => q.elim), fun _ _ => rfl, fun _ _ q => q, fun _ _ q => q, fun _ q _ => q, fun id b B h => (by cases h)⟩
  · cases hp

theorem body_sound {cf : CF} (hcf : CFok P cf) {n f : Nat} {d : F} (hd : ∃ ann, copF P raws ann f = some d) {args : List PV} {H : List (Option Blk)} {r : PV} {H' : List (Option Blk)}
    (h : (match evalC cf n d.code (start d args H) with | some (.normal, s) => finish d s | some (.ret, s) => finish d s | _ => none) = some (r, H')) : Callable P f ∧ FSpec P f args H r H' := by
      obtain ⟨ann, hann⟩ := hd
      unfold copF at hann
      split at hann
      · cases hann
      · next fn hfn =>
        split at hann
        · cases hann
        · next hname =>
          split at hann
          · cases hann
          · next c hb =>
            split at hann
            · next c' rv hc hrv =>
              have hd' : d = { ntmps := fn.ntmps, res := rv, code := c' } := by cases hann; rfl
              have hres : fn.results.toList.mapM (copRV P) = some d.res := by rw [hd']; exact hrv
              refine ⟨⟨fn, c, hfn, hb, by simpa using hname⟩, ?_⟩
              intro w O M F vs hv hI hO
              have hstart : CI ⟨w, O, M, F, H.length, heapOf 0 H⟩ (start d args H) (start d args H).next { tmps := vs.toArray ++ Array.replicate (fn.ntmps - vs.toArray.size) undef, defers := [] } w := by
                refine ⟨O, M, F, rfl, ?_, hI, fun id hid => ⟨hO id hid, ?_⟩, rfl, fun id hid => hid, .refl _ _, fun _ _ => rfl, fun _ _ q => q, fun _ _ q => q, fun _ q _ => q, fun id b C hC hb => .inr ⟨id, C, hC, hb⟩, hI.mlt.lt⟩
                · have hl := hv.length
                  have e1 : (vs.toArray ++ Array.replicate (fn.ntmps - vs.toArray.size) undef).toList = vs ++ List.replicate (d.ntmps - args.length) undef := by
                    rw [hd']; simp [hl]
                  rw [e1]
                  refine hv.append ?_
                  exact VRs.replicate (.undef _) _
                · show hget (heapOf 0 H) id = none
                  rw [hget_heapOf0]
                  rw [List.getElem?_eq_none (by exact hid)]; rfl
              have hev : ∀ ex s, evalC cf n d.code (start d args H) = some (ex, s) → c.wp P (QQ ⟨w, O, M, F, H.length, heapOf 0 H⟩ ex s) { tmps := vs.toArray ++ Array.replicate (fn.ntmps - vs.toArray.size) undef, defers := [] } w := fun ex s h => by
                refine evalC_sound (fuel := n) hcf c ann [] c' hc _ s ex ?_ _ w hstart
                rw [hd'] at h ⊢; exact h
              refine calls_of_wp hfn hb ?_
              split at h
              · next s hs =>
                refine wp_mono (hev _ _ hs) ?_
                rintro e a2 w2 ⟨rfl, hi2⟩
                obtain ⟨q1, v, q2, q3⟩ := finish_sound hres h hi2
                exact ⟨q1, v, q2, v, rfl, q3⟩
              · next s hs =>
                refine wp_mono (hev _ _ hs) ?_
                rintro e a2 w2 ⟨rfl, hi2⟩
                obtain ⟨q1, v, q2, q3⟩ := finish_sound hres h hi2
                exact ⟨q1, v, q2, v, rfl, q3⟩
              · cases h
            · cases hann
theorem evalF_sound {env : Env} (henv : EnvOk P raws env) : ∀ n, CFok P (evalF env n)
  | 0 => fun f args H r H' h => by simp [evalF] at h
  | n + 1 => fun f args H r H' h => by
    simp only [evalF] at h
    split at h
    · cases h
    · next g hg => have := henv f _ hg; exact ⟨this.1, this.2 args H r H' h⟩
    · next d hd => exact body_sound (evalF_sound henv n) (henv f _ hd) h
    · next d hd =>
      split at h
      · next hi =>
        have key : ∀ s, finishP d s = some (r, H') → (match evalC (evalF env n) n d.code (start d (norms args) []) with | some (.normal, s) => finish d s | some (.ret, s) => finish d s | _ => none) = finish d s → Callable P f ∧ FSpec P f args [] r H' := by
          intro s hs hm
          unfold finishP at hs
          split at hs
          · next x hx =>
            obtain ⟨a, b⟩ := body_sound (evalF_sound henv n) (henv f _ hd) (hm.trans hx)
            exact ⟨a, b.pub hs⟩
          · cases hs
        split at h
        · next s hs => exact key s h (by rw [hs])
        · next s hs => exact key s h (by rw [hs])
        · cases h
      · cases h
end
end Go.Proofs.YtipnedhclbopdaaDoorEv

/- The evaluator without its fuel. -/
set_option linter.unusedVariables false
set_option linter.unusedSimpArgs false
namespace Go.Proofs.YtipnedhclbopdaaDoorEv

abbrev Qy := Nat × List PV × List (Option Blk)
def CF.at (cf : CF) (q : Qy) : Option (PV × List (Option Blk)) := cf q.1 q.2.1 q.2.2
/-- what has been asked of cf is answered alike by cf' -/
def Same (cf cf' : CF) (L : List Qy) : Prop := ∀ q ∈ L, cf'.at q = cf.at q
def Had (cf : CF) (L : List Qy) : Prop := ∀ q ∈ L, (cf.at q).isSome = true

theorem doCall0_sup {cf : CF} {new : Nat} {h : Heap} {f : Nat} {b : Bool} {raw : List Bool} {vs : List PV} {x : PV × Upd} (hx : doCall0 cf new h f b raw vs = some x) : ∃ L, Had cf L ∧ ∀ cf', Same cf cf' L → doCall0 cf' new h f b raw vs = some x := by
  unfold doCall0 at hx
  simp only at hx
  cases he : idsL (argsOf h raw vs) with
  | nil =>
    rw [he] at hx
    simp only at hx
    refine ⟨[(f, argsOf h raw vs, [])], ?_, fun cf' hs => ?_⟩
    · intro q hq
      simp at hq; subst hq
      simp only [CF.at]
      cases hc : cf f (argsOf h raw vs) [] with
      | none => rw [hc] at hx; cases hx
      | some p => rfl
    · have := hs _ (List.mem_singleton.2 rfl)
      simp only [CF.at] at this
      unfold doCall0
      simp only
      rw [he]
      simp only
      rw [this]
      exact hx
  | cons i is =>
    rw [he] at hx
    simp only at hx
    refine ⟨[(f, mapIds (idxIn (reach h 100 (i :: is) [])) (argsOf h raw vs), (reach h 100 (i :: is) []).map fun j => (hget h j).map (Blk.mapId (idxIn (reach h 100 (i :: is) []))))], ?_, fun cf' hs => ?_⟩
    · intro q hq
      simp at hq; subst hq
      simp only [CF.at]
      split at hx
      · cases hx
      · split at hx
        · cases hx
        · split at hx
          · cases hx
          · next h1 => rw [h1]; rfl
    · have := hs _ (List.mem_singleton.2 rfl)
      simp only [CF.at] at this
      unfold doCall0
      simp only
      rw [he]
      simp only
      rw [this]
      exact hx
theorem doCall_sup {cf : CF} {new : Nat} {h : Heap} {f : Nat} {b : Bool} {raw : List Bool} {vs : List PV} {x : PV × Upd} (hx : doCall cf new h f b raw vs = some x) : ∃ L, Had cf L ∧ ∀ cf', Same cf cf' L → doCall cf' new h f b raw vs = some x := by
  unfold doCall at hx
  split at hx
  · next asV has =>
    refine ⟨[(f, asV, [])], fun q hq => ?_, fun cf' hs => ?_⟩
    · simp at hq; subst hq
      simp only [CF.at]
      cases hc : cf f asV [] with
      | none => rw [hc] at hx; cases hx
      | some p => rfl
    · have := hs _ (List.mem_singleton.2 rfl)
      simp only [CF.at] at this
      unfold doCall
      rw [has]
      simp only
      rw [this]
      exact hx
  · next hn =>
    obtain ⟨L, h1, h2⟩ := doCall0_sup hx
    refine ⟨L, h1, fun cf' hs => ?_⟩
    unfold doCall
    rw [hn]
    exact h2 cf' hs
theorem evalK_sup {cf : CF} {k : K} {new : Nat} {e : X → PV} {h : Heap} {x : PV × Upd} (hx : evalK cf k new e h = some x) : ∃ L, Had cf L ∧ ∀ cf', Same cf cf' L → evalK cf' k new e h = some x := by
  cases k
  case call f b raw args => exact doCall_sup (vs := args.map e) hx
  case callv b raw f args =>
    simp only [evalK] at hx ⊢
    split at hx
    · next g a c hf => exact doCall_sup hx
    · cases hx
  all_goals exact ⟨[], fun q hq => by simp at hq, fun cf' _ => hx⟩
theorem stepOp_sup {cf : CF} {s s' : St} {new : Nat} {o : Op} (hx : stepOp cf s new o = some s') : ∃ L, Had cf L ∧ ∀ cf', Same cf cf' L → stepOp cf' s new o = some s' ∧ feet cf' s new o = feet cf s new o := by
  unfold stepOp at hx
  unfold stepOp feet
  cases hw : wantedO s o with
  | none => rw [hw] at hx; cases hx
  | some b =>
    rw [hw] at hx
    cases b with
    | false => exact ⟨[], fun q hq => by simp at hq, fun cf' _ => ⟨hx, rfl⟩⟩
    | true =>
      simp only at hx ⊢
      cases he : evalK cf o.k new s.val s.heap with
      | none => rw [he] at hx; cases hx
      | some p =>
        obtain ⟨L, h1, h2⟩ := evalK_sup he
        refine ⟨L, h1, fun cf' hs => ?_⟩
        rw [h2 cf' hs]
        rw [he] at hx
        exact ⟨hx, rfl⟩
theorem Had.append {cf : CF} {L M : List Qy} (h1 : Had cf L) (h2 : Had cf M) : Had cf (L ++ M) := fun q hq => (List.mem_append.1 hq).elim (h1 q) (h2 q)
theorem Same.left {cf cf' : CF} {L M : List Qy} (h : Same cf cf' (L ++ M)) : Same cf cf' L := fun q hq => h q (List.mem_append_left _ hq)
theorem Same.right {cf cf' : CF} {L M : List Qy} (h : Same cf cf' (L ++ M)) : Same cf cf' M := fun q hq => h q (List.mem_append_right _ hq)
theorem stepOps_sup {cf : CF} : ∀ (l : List Op) {s s' : St} {new : Nat}, stepOps cf s new l = some s' → ∃ L, Had cf L ∧ ∀ cf', Same cf cf' L → stepOps cf' s new l = some s' ∧ feetL cf' s new l = feetL cf s new l
  | [], s, s', new, h => ⟨[], fun q hq => by simp at hq, fun cf' _ => ⟨h, rfl⟩⟩
  | o :: l, s, s', new, h => by
    simp only [stepOps] at h
    cases h1 : stepOp cf s new o with
    | none => rw [h1] at h; cases h
    | some s1 =>
      rw [h1] at h
      obtain ⟨L, a1, a2⟩ := stepOp_sup h1
      obtain ⟨M, b1, b2⟩ := stepOps_sup l h
      refine ⟨L ++ M, a1.append b1, fun cf' hs => ?_⟩
      obtain ⟨q1, q2⟩ := a2 cf' hs.left
      obtain ⟨q3, q4⟩ := b2 cf' hs.right
      refine ⟨by simp only [stepOps, q1]; exact q3, by simp only [feetL, q1, h1, q2, q4]⟩
theorem evalC_sup {cf : CF} {m : Nat} : ∀ (c : C) {s : St} {r : Ex × St}, evalC cf m c s = some r → ∃ L, Had cf L ∧ ∀ cf' m', m ≤ m' → Same cf cf' L → evalC cf' m' c s = some r
  | .skip, s, r, h => ⟨[], fun q hq => by simp at hq, fun cf' m' _ _ => h⟩
  | .exit _, s, r, h => ⟨[], fun q hq => by simp at hq, fun cf' m' _ _ => h⟩
  | .ret, s, r, h => ⟨[], fun q hq => by simp at hq, fun cf' m' _ _ => h⟩
  | .ops conf l, s, r, h => by
    simp only [evalC] at h
    cases h1 : stepOps cf s s.next l with
    | none => rw [h1] at h; cases h
    | some s1 =>
      rw [h1] at h
      obtain ⟨L, a1, a2⟩ := stepOps_sup l h1
      refine ⟨L, a1, fun cf' m' _ hs => ?_⟩
      obtain ⟨q1, q2⟩ := a2 cf' hs
      simp only [evalC, q1, q2]
      exact h
  | .seq a b, s, r, h => by
    simp only [evalC] at h
    cases h1 : evalC cf m a s with
    | none => rw [h1] at h; cases h
    | some p =>
      obtain ⟨ex, s1⟩ := p
      rw [h1] at h
      obtain ⟨L, a1, a2⟩ := evalC_sup a h1
      cases ex with
      | normal =>
        obtain ⟨M, b1, b2⟩ := evalC_sup b h
        refine ⟨L ++ M, a1.append b1, fun cf' m' hm hs => ?_⟩
        simp only [evalC, a2 cf' m' hm hs.left]
        exact b2 cf' m' hm hs.right
      | exit i => exact ⟨L, a1, fun cf' m' hm hs => by simp only [evalC, a2 cf' m' hm hs]; exact h⟩
      | ret => exact ⟨L, a1, fun cf' m' hm hs => by simp only [evalC, a2 cf' m' hm hs]; exact h⟩
  | .cond x a b, s, r, h => by
    simp only [evalC] at h ⊢
    split at h
    · next c hc =>
      cases c with
      | true =>
        simp only [if_true] at h ⊢
        exact evalC_sup a h
      | false =>
        simp only [Bool.false_eq_true, if_false] at h ⊢
        exact evalC_sup b h
    · cases h
  | .block id c, s, r, h => by
    simp only [evalC] at h
    cases h1 : evalC cf m c s with
    | none => rw [h1] at h; cases h
    | some p =>
      obtain ⟨L, a1, a2⟩ := evalC_sup c h1
      rw [h1] at h
      exact ⟨L, a1, fun cf' m' hm hs => by simp only [evalC, a2 cf' m' hm hs]; exact h⟩
  | .loop lv pro c, s, r, h => by
    simp only [evalC] at h
    have key : ∀ (n : Nat) (s : St), iter (fun s => evalC cf m c (canonS lv pro s)) n s = some r → ∃ L, Had cf L ∧ ∀ cf' m' n', m ≤ m' → n ≤ n' → Same cf cf' L → iter (fun s => evalC cf' m' c (canonS lv pro s)) n' s = some r := by
      intro n
      induction n with
      | zero => intro s h; cases h
      | succ n ih =>
        intro s h
        simp only [iter] at h
        cases h1 : evalC cf m c (canonS lv pro s) with
        | none => rw [h1] at h; cases h
        | some p =>
          obtain ⟨ex, s1⟩ := p
          rw [h1] at h
          obtain ⟨L, a1, a2⟩ := evalC_sup c h1
          cases ex with
          | normal =>
            obtain ⟨M, b1, b2⟩ := ih s1 h
            refine ⟨L ++ M, a1.append b1, fun cf' m' n' hm hn hs => ?_⟩
            cases n' with
            | zero => omega
            | succ n' =>
              simp only [iter, a2 cf' m' hm hs.left]
              exact b2 cf' m' n' hm (by omega) hs.right
          | exit i =>
            refine ⟨L, a1, fun cf' m' n' hm hn hs => ?_⟩
            cases n' with
            | zero => omega
            | succ n' => simp only [iter, a2 cf' m' hm hs]; exact h
          | ret =>
            refine ⟨L, a1, fun cf' m' n' hm hn hs => ?_⟩
            cases n' with
            | zero => omega
            | succ n' => simp only [iter, a2 cf' m' hm hs]; exact h
    obtain ⟨L, a1, a2⟩ := key m s h
    exact ⟨L, a1, fun cf' m' hm hs => by simp only [evalC]; exact a2 cf' m' m' hm hm hs⟩

theorem evalF_mono {env : Env} : ∀ (n : Nat) {f : Nat} {a : List PV} {H : List (Option Blk)} {x : PV × List (Option Blk)}, evalF env n f a H = some x → ∀ n', n ≤ n' → evalF env n' f a H = some x
  | 0, f, a, H, x, h, n', hn => by cases h
  | n + 1, f, a, H, x, h, 0, hn => by omega
  | n + 1, f, a, H, x, h, n' + 1, hn => by
    simp only [evalF] at h ⊢
    split at h
    · cases h
    · exact h
    · next d hd =>
      cases h1 : evalC (evalF env n) n d.code (start d a H) with
      | none => rw [h1] at h; cases h
      | some p =>
        obtain ⟨L, a1, a2⟩ := evalC_sup _ h1
        have : evalC (evalF env n') n' d.code (start d a H) = some p := by
          refine a2 _ _ (by omega) (fun q hq => ?_)
          have hs := a1 q hq
          simp only [CF.at] at hs ⊢
          obtain ⟨y, hy⟩ := Option.isSome_iff_exists.1 hs
          rw [hy]
          exact evalF_mono n hy n' (by omega)
        rw [this]
        rw [h1] at h
        exact h
    · next d hd =>
      split at h
      · next hi =>
        have fin : (match evalC (evalF env n') n' d.code (start d (norms a) []) with
            | some (.normal, s) => finishP d s
            | some (.ret, s) => finishP d s
            | _ => none) = some x := by
          cases h1 : evalC (evalF env n) n d.code (start d (norms a) []) with
          | none => rw [h1] at h; cases h
          | some p =>
            obtain ⟨L, a1, a2⟩ := evalC_sup _ h1
            have : evalC (evalF env n') n' d.code (start d (norms a) []) = some p := by
              refine a2 _ _ (by omega) (fun q hq => ?_)
              have hs := a1 q hq
              simp only [CF.at] at hs ⊢
              obtain ⟨y, hy⟩ := Option.isSome_iff_exists.1 hs
              rw [hy]
              exact evalF_mono n hy n' (by omega)
            rw [this]
            rw [h1] at h
            exact h
        exact fin
      · cases h

open Classical in
/-- what a call comes to, however long it takes -/
noncomputable def ev (env : Env) : CF := fun f a H => if h : ∃ n x, evalF env n f a H = some x then some h.choose_spec.choose else none
theorem ev_eq {env : Env} {n f : Nat} {a : List PV} {H : List (Option Blk)} {x : PV × List (Option Blk)} (h : evalF env n f a H = some x) : ev env f a H = some x := by
  have hx : ∃ n x, evalF env n f a H = some x := ⟨n, x, h⟩
  unfold ev
  rw [dif_pos hx]
  have h1 := hx.choose_spec.choose_spec
  have h2 := evalF_mono _ h1 (max n hx.choose) (Nat.le_max_right _ _)
  rw [evalF_mono _ h _ (Nat.le_max_left _ _)] at h2
  exact h2.symm
theorem ev_some {env : Env} {f : Nat} {a : List PV} {H : List (Option Blk)} {x : PV × List (Option Blk)} (h : ev env f a H = some x) : ∃ n, evalF env n f a H = some x := by
  unfold ev at h
  split at h
  · next hx =>
    refine ⟨hx.choose, ?_⟩
    rw [hx.choose_spec.choose_spec]
    exact h
  · cases h
theorem ev_sound {P : Program} {raws : Nat → List Bool} {env : Env} (h : EnvOk P raws env) : CFok P (ev env) := fun f args H r H' hx => by
  obtain ⟨n, hn⟩ := ev_some hx
  exact evalF_sound h n f args H r H' hn
theorem ev_prim {env : Env} {f : Nat} {g} (hf : env f = some (.prim g)) (a : List PV) (H : List (Option Blk)) {x} (h : g a H = some x) : ev env f a H = some x :=
  ev_eq (n := 1) (by simp only [evalF, hf]; exact h)
theorem ev_body {env : Env} {f : Nat} {d : F} (hf : env f = some (.body d)) {a : List PV} {H : List (Option Blk)} {m : Nat} {ex : Ex} {s : St} (h : evalC (ev env) m d.code (start d a H) = some (ex, s)) (he : ex = .normal ∨ ex = .ret) {x} (hx : finish d s = some x) : ev env f a H = some x := by
  obtain ⟨L, a1, a2⟩ := evalC_sup _ h
  have : ∃ N, m ≤ N ∧ Same (ev env) (evalF env N) L := by
    clear h hx a2
    induction L with
    | nil => exact ⟨m, Nat.le_refl _, fun q hq => by simp at hq⟩
    | cons q L ih =>
      obtain ⟨N, h1, h2⟩ := ih (fun q hq => a1 q (List.mem_cons_of_mem _ hq))
      have hs := a1 q List.mem_cons_self
      obtain ⟨y, hy⟩ := Option.isSome_iff_exists.1 hs
      simp only [CF.at] at hy
      obtain ⟨n, hn⟩ := ev_some hy
      refine ⟨max N n, by omega, fun q' hq' => ?_⟩
      simp only [CF.at]
      rcases List.mem_cons.1 hq' with e | e
      · subst e
        rw [hy]
        exact evalF_mono _ hn _ (Nat.le_max_right _ _)
      · have h3 := h2 q' e
        have h4 := a1 q' hq'
        obtain ⟨z, hz⟩ := Option.isSome_iff_exists.1 h4
        simp only [CF.at] at h3 hz
        rw [hz] at h3 ⊢
        exact evalF_mono _ h3 _ (Nat.le_max_left _ _)
  obtain ⟨N, hN, hs⟩ := this
  refine ev_eq (n := N + 1) ?_
  simp only [evalF, hf]
  rw [a2 _ N hN hs]
  rcases he with rfl | rfl <;> exact hx

theorem sup_env {env : Env} {L : List Qy} (a1 : Had (ev env) L) (m : Nat) : ∃ N, m ≤ N ∧ Same (ev env) (evalF env N) L := by
  induction L with
  | nil => exact ⟨m, Nat.le_refl _, fun q hq => by simp at hq⟩
  | cons q L ih =>
    obtain ⟨N, h1, h2⟩ := ih (fun q hq => a1 q (List.mem_cons_of_mem _ hq))
    have hs := a1 q List.mem_cons_self
    obtain ⟨y, hy⟩ := Option.isSome_iff_exists.1 hs
    simp only [CF.at] at hy
    obtain ⟨n, hn⟩ := ev_some hy
    refine ⟨max N n, by omega, fun q' hq' => ?_⟩
    simp only [CF.at]
    rcases List.mem_cons.1 hq' with e | e
    · subst e
      rw [hy]
      exact evalF_mono _ hn _ (Nat.le_max_right _ _)
    · have h3 := h2 q' e
      have h4 := a1 q' hq'
      obtain ⟨z, hz⟩ := Option.isSome_iff_exists.1 h4
      simp only [CF.at] at h3 hz
      rw [hz] at h3 ⊢
      exact evalF_mono _ h3 _ (Nat.le_max_left _ _)
theorem ev_pub {env : Env} {f : Nat} {d : F} (hf : env f = some (.pub d)) {a : List PV} (ha : idsL a = []) {m : Nat} {ex : Ex} {s : St} (h : evalC (ev env) m d.code (start d (norms a) []) = some (ex, s)) (he : ex = .normal ∨ ex = .ret) {x} (hx : finishP d s = some x) : ev env f a [] = some x := by
  obtain ⟨L, a1, a2⟩ := evalC_sup _ h
  obtain ⟨N, hN, hs⟩ := sup_env a1 m
  refine ev_eq (n := N + 1) ?_
  simp only [evalF, hf, ha]
  rw [a2 _ N hN hs]
  rcases he with rfl | rfl <;> exact hx

/-- code comes to an end, of which Q holds -/
def W (cf : CF) (c : C) (s : St) (Q : Ex → St → Prop) : Prop := ∃ m ex s', evalC cf m c s = some (ex, s') ∧ Q ex s'
def QSeq (cf : CF) (b : C) (Q : Ex → St → Prop) : Ex → St → Prop
  | .normal, s => W cf b s Q
  | .exit i, s => Q (.exit i) s
  | .ret, s => Q .ret s
def QBlock (id : Nat) (Q : Ex → St → Prop) : Ex → St → Prop
  | .normal, s => Q .normal s
  | .exit i, s => if i = id then Q .normal s else Q (.exit i) s
  | .ret, s => Q .ret s
def QLoop (cf : CF) (lv : List Nat) (pro : List (Nat × Option Nat × Nat)) (c : C) (Q : Ex → St → Prop) : Ex → St → Prop
  | .normal, s => W cf (.loop lv pro c) s Q
  | .exit i, s => Q (.exit i) s
  | .ret, s => Q .ret s
def QFin (d : F) (x : PV × List (Option Blk)) : Ex → St → Prop
  | .normal, s => finish d s = some x
  | .exit _, _ => False
  | .ret, s => finish d s = some x
def QFinP (d : F) (x : PV × List (Option Blk)) : Ex → St → Prop
  | .normal, s => finishP d s = some x
  | .exit _, _ => False
  | .ret, s => finishP d s = some x
/-- the rest of a region -/
def WOps (cf : CF) (s : St) (new : Nat) (l : List Op) (K : St → Prop) : Prop := ∃ s', stepOps cf s new l = some s' ∧ K s'
/-- an operation's answer, and on -/
def WV (o : Option (PV × Upd)) (K : PV → Upd → Prop) : Prop := ∃ r u, o = some (r, u) ∧ K r u
def WB (o : Option Bool) (K : Bool → Prop) : Prop := ∃ b, o = some b ∧ K b

section
variable {cf : CF} {s : St} {Q : Ex → St → Prop}
theorem evalC_mono {m m' : Nat} {c : C} {r : Ex × St} (h : evalC cf m c s = some r) (hm : m ≤ m') : evalC cf m' c s = some r := by
  obtain ⟨L, _, h2⟩ := evalC_sup c h
  exact h2 cf m' hm (fun _ _ => rfl)
theorem W.skip (h : Q .normal s) : W cf .skip s Q := ⟨0, .normal, s, rfl, h⟩
theorem W.exit {i : Nat} (h : Q (.exit i) s) : W cf (.exit i) s Q := ⟨0, .exit i, s, rfl, h⟩
theorem W.ret (h : Q .ret s) : W cf .ret s Q := ⟨0, .ret, s, rfl, h⟩
theorem W.seq {a b : C} (h : W cf a s (QSeq cf b Q)) : W cf (.seq a b) s Q := by
  obtain ⟨m, ex, s1, h1, h2⟩ := h
  cases ex with
  | normal =>
    obtain ⟨m2, ex2, s2, h3, h4⟩ := h2
    refine ⟨max m m2, ex2, s2, ?_, h4⟩
    simp only [evalC, evalC_mono h1 (Nat.le_max_left _ _)]
    exact evalC_mono h3 (Nat.le_max_right _ _)
  | exit i => exact ⟨m, .exit i, s1, by simp only [evalC, h1], h2⟩
  | ret => exact ⟨m, .ret, s1, by simp only [evalC, h1], h2⟩
theorem W.cond {x : X} {a b : C} {v : Bool} (hv : s.val x = .bool v) (h : if v = true then W cf a s Q else W cf b s Q) : W cf (.cond x a b) s Q := by
  cases v with
  | true =>
    obtain ⟨m, ex, s', h1, h2⟩ := h
    exact ⟨m, ex, s', by simp only [evalC, hv, if_true]; exact h1, h2⟩
  | false =>
    obtain ⟨m, ex, s', h1, h2⟩ := h
    exact ⟨m, ex, s', by simp only [evalC, hv, Bool.false_eq_true, if_false]; exact h1, h2⟩
theorem W.block {id : Nat} {c : C} (h : W cf c s (QBlock id Q)) : W cf (.block id c) s Q := by
  obtain ⟨m, ex, s', h1, h2⟩ := h
  cases ex with
  | normal => exact ⟨m, .normal, s', by simp only [evalC, h1], h2⟩
  | exit i =>
    simp only [QBlock] at h2
    split at h2
    · next e => exact ⟨m, .normal, s', by simp only [evalC, h1]; rw [if_pos e], h2⟩
    · next e => exact ⟨m, .exit i, s', by simp only [evalC, h1]; rw [if_neg e], h2⟩
  | ret => exact ⟨m, .ret, s', by simp only [evalC, h1], h2⟩
theorem iter_mono {body : St → Option (Ex × St)} : ∀ {n : Nat} {s : St} {r}, iter body n s = some r → ∀ {n'}, n ≤ n' → iter body n' s = some r
  | 0, s, r, h, n', hn => by cases h
  | n + 1, s, r, h, 0, hn => by omega
  | n + 1, s, r, h, n' + 1, hn => by
    simp only [iter] at h ⊢
    split at h
    · next s1 h1 => exact iter_mono h (by omega)
    · exact h
theorem W.loop {lv : List Nat} {pro : List (Nat × Option Nat × Nat)} {c : C} (h : W cf c (canonS lv pro s) (QLoop cf lv pro c Q)) : W cf (.loop lv pro c) s Q := by
  obtain ⟨m, ex, s1, h1, h2⟩ := h
  cases ex with
  | normal =>
    obtain ⟨m2, ex2, s2, h3, h4⟩ := h2
    refine ⟨max m m2 + 1, ex2, s2, ?_, h4⟩
    have h3' := evalC_mono h3 (m' := max m m2 + 1) (by omega)
    have h1' := evalC_mono h1 (m' := max m m2 + 1) (by omega)
    have h3'' := evalC_mono h3 (m' := max m m2) (by omega)
    simp only [evalC] at h3' ⊢
    simp only [iter, h1']
    simp only [evalC] at h3
    -- the rest, with one fewer
    have key : iter (fun s => evalC cf (max m m2 + 1) c (canonS lv pro s)) (max m m2) s1 = some (ex2, s2) := by
      have : ∀ (n : Nat) (s : St) r, iter (fun s => evalC cf m2 c (canonS lv pro s)) n s = some r → iter (fun s => evalC cf (max m m2 + 1) c (canonS lv pro s)) n s = some r := by
        intro n
        induction n with
        | zero => intro s r h; cases h
        | succ n ih =>
          intro s r h
          simp only [iter] at h ⊢
          cases hb : evalC cf m2 c (canonS lv pro s) with
          | none => rw [hb] at h; cases h
          | some p =>
            rw [hb] at h
            rw [evalC_mono hb (by omega)]
            obtain ⟨ex, s'⟩ := p
            cases ex with
            | normal => exact ih _ _ h
            | exit i => exact h
            | ret => exact h
      exact iter_mono (this m2 s1 _ h3) (by omega)
    exact key
  | exit i => exact ⟨m + 1, .exit i, s1, by simp only [evalC, iter]; rw [evalC_mono h1 (Nat.le_succ m)], h2⟩
  | ret => exact ⟨m + 1, .ret, s1, by simp only [evalC, iter]; rw [evalC_mono h1 (Nat.le_succ m)], h2⟩
theorem W.ops {l : List Op} (h : WOps cf s s.next l (Q .normal)) : W cf (.ops none l) s Q := by
  obtain ⟨s', h1, h2⟩ := h
  exact ⟨0, .normal, s', by simp only [evalC, h1], h2⟩
theorem W.opsE {l : List Op} (h : WOps cf s s.next l (Q .normal)) : W cf (.ops (some []) l) s Q := by
  obtain ⟨s', h1, h2⟩ := h
  exact ⟨0, .normal, s', by simp only [evalC, h1]; rfl, h2⟩
theorem W.opsC {l : List Op} {p} {ps} (h : WOps cf s s.next l (Q .normal)) (hc : confOk (feetL cf s s.next l) (p :: ps) = true) : W cf (.ops (some (p :: ps)) l) s Q := by
  obtain ⟨s', h1, h2⟩ := h
  exact ⟨0, .normal, s', by simp only [evalC, h1]; rw [if_pos hc], h2⟩
theorem WOps.nil {new : Nat} {K : St → Prop} (h : K { s with next := new }) : WOps cf s new [] K := ⟨_, rfl, h⟩
theorem WOps.cons {new : Nat} {d : Option Nat} {k : K} {l : List Op} {K : St → Prop} (h : WV (evalK cf k new s.val s.heap) fun r u => WOps cf { s with tmps := setOpt s.tmps d r, heap := applyU s.heap u } (new + stride) l K) : WOps cf s new (⟨d, k, none⟩ :: l) K := by
  obtain ⟨r, u, h1, s', h2, h3⟩ := h
  refine ⟨s', ?_, h3⟩
  simp only [stepOps, stepOp, wantedO, h1]
  exact h2
theorem WOps.guard {new : Nat} {d : Option Nat} {k : K} {t : Nat} {want b : Bool} {l : List Op} {K : St → Prop} (hb : s.tmps.getD t .undef = .bool b)
    (h : if b = want then WV (evalK cf k new s.val s.heap) fun r u => WOps cf { s with tmps := setOpt s.tmps d r, heap := applyU s.heap u } (new + stride) l K else WOps cf { s with tmps := setOpt s.tmps d (.tup []) } (new + stride) l K) : WOps cf s new (⟨d, k, some (t, want)⟩ :: l) K := by
  by_cases e : b = want
  · rw [if_pos e] at h
    obtain ⟨r, u, h1, s', h2, h3⟩ := h
    refine ⟨s', ?_, h3⟩
    have : (b == want) = true := by simpa using e
    simp only [stepOps, stepOp, wantedO, hb, this, h1]
    exact h2
  · rw [if_neg e] at h
    obtain ⟨s', h2, h3⟩ := h
    refine ⟨s', ?_, h3⟩
    have : (b == want) = false := by simpa using e
    simp only [stepOps, stepOp, wantedO, hb, this]
    exact h2
theorem WV.some {r : PV} {u : Upd} {K : PV → Upd → Prop} (h : K r u) : WV (some (r, u)) K := ⟨r, u, rfl, h⟩
theorem W.mono {c : C} {Q' : Ex → St → Prop} (h : W cf c s Q) (hq : ∀ ex s, Q ex s → Q' ex s) : W cf c s Q' := by
  obtain ⟨m, ex, s', h1, h2⟩ := h
  exact ⟨m, ex, s', h1, hq _ _ h2⟩
theorem ev_of {env : Env} {f : Nat} {d : F} (hf : env f = some (.body d)) {a : List PV} {H : List (Option Blk)} {x} (h : W (ev env) d.code (start d a H) (QFin d x)) : ev env f a H = some x := by
  obtain ⟨m, ex, s, h1, h2⟩ := h
  cases ex with
  | normal => exact ev_body hf h1 (.inl rfl) h2
  | exit i => exact h2.elim
  | ret => exact ev_body hf h1 (.inr rfl) h2
theorem ev_ofP {env : Env} {f : Nat} {d : F} (hf : env f = some (.pub d)) {a : List PV} (ha : idsL a = []) {x} (h : W (ev env) d.code (start d (norms a) []) (QFinP d x)) : ev env f a [] = some x := by
  obtain ⟨m, ex, s, h1, h2⟩ := h
  cases ex with
  | normal => exact ev_pub hf ha h1 (.inl rfl) h2
  | exit i => exact h2.elim
  | ret => exact ev_pub hf ha h1 (.inr rfl) h2
end
end Go.Proofs.YtipnedhclbopdaaDoorEv

/- The rules in the form in which they are used: a state told in its parts. -/
set_option linter.unusedVariables false
namespace Go.Proofs.YtipnedhclbopdaaDoorEv
def valT (T : List PV) : X → PV
  | .t n => T.getD n .undef
  | .c v => v
/-- the rest of a region -/
structure WO (cf : CF) (T : List PV) (H : Heap) (k0 new : Nat) (l : List Op) (K : St → Prop) : Prop where
  ok : ∀ n, WOps cf ⟨T, H, n, k0⟩ new l K
/-- an operation's answer, and on -/
structure WY (o : Option (PV × Upd)) (G : PV → Upd → Prop) : Prop where
  ok : WV o G
theorem WY.some {r : PV} {u : Upd} {G : PV → Upd → Prop} (h : G r u) : WY (some (r, u)) G := ⟨WV.some h⟩
/-- the same, where the order of some operations is open: acc: what the ones before asked for and changed -/
structure WOc (cf : CF) (T : List PV) (H : Heap) (k0 new : Nat) (l : List Op) (acc : List (List Nat × List Nat)) (ps : List (Nat × Nat)) (K : St → Prop) : Prop where
  ok : ∀ n, ∃ s', stepOps cf ⟨T, H, n, k0⟩ new l = some s' ∧ confOk (acc ++ feetL cf ⟨T, H, n, k0⟩ new l) ps = true ∧ K s'
/-- an operation's answer -/
structure EK (cf : CF) (k : K) (new : Nat) (T : List PV) (H : Heap) (r : PV) (u : Upd) : Prop where
  ok : evalK cf k new (valT T) H = some (r, u)
/-- code, from a state told in its parts -/
structure WC (cf : CF) (c : C) (T : List PV) (H : Heap) (k0 n : Nat) (Q : Ex → St → Prop) : Prop where
  ok : W cf c ⟨T, H, n, k0⟩ Q
/-- what is to hold at the end of a piece -/
structure WQ (Q : Ex → St → Prop) (ex : Ex) (T : List PV) (H : Heap) (k0 n : Nat) : Prop where
  ok : Q ex ⟨T, H, n, k0⟩
/-- temporaries of which only some are told -/
def putT : List PV → List (Nat × PV) → List PV
  | T, [] => T
  | T, (i, v) :: l => putT (T.set i v) l
def mkT (n : Nat) (l : List (Nat × PV)) : List PV := putT (List.replicate n .undef) l
section
variable {cf : CF} {T : List PV} {H : Heap} {k0 new n : Nat} {Q : Ex → St → Prop} {G : St → Prop} {d : Option Nat} {k : K} {l : List Op} {t : Nat} {b : Bool}
theorem WO.nil (h : WQ Q .normal T H k0 new) : WO cf T H k0 new [] (Q .normal) := ⟨fun _ => WOps.nil h.ok⟩
theorem WO.cons (h : WY (evalK cf k new (valT T) H) fun r u => WO cf (setOpt T d r) (applyU H u) k0 (new + stride) l G) : WO cf T H k0 new (⟨d, k, none⟩ :: l) G := ⟨fun n => by
  obtain ⟨r, u, h1, h2⟩ := h.ok
  exact WOps.cons ⟨r, u, h1, h2.ok n⟩⟩
theorem WO.step {r : PV} {u : Upd} (h : EK cf k new T H r u) (hg : WO cf (setOpt T d r) (applyU H u) k0 (new + stride) l G) : WO cf T H k0 new (⟨d, k, none⟩ :: l) G := WO.cons ⟨⟨r, u, h.ok, hg⟩⟩
theorem WOc.step {r : PV} {u : Upd} {acc : List (List Nat × List Nat)} {ps : List (Nat × Nat)} (h : EK cf k new T H r u) (hg : WOc cf (setOpt T d r) (applyU H u) k0 (new + stride) l (acc ++ [(needs k (valT T) H, u.map (·.1))]) ps G) : WOc cf T H k0 new (⟨d, k, none⟩ :: l) acc ps G := ⟨fun n => by
  obtain ⟨s', h1, h2, h3⟩ := hg.ok n
  have e1 : evalK cf k new (St.val ⟨T, H, n, k0⟩) H = some (r, u) := h.ok
  have e2 : stepOp cf ⟨T, H, n, k0⟩ new ⟨d, k, none⟩ = some ⟨setOpt T d r, applyU H u, n, k0⟩ := by simp only [stepOp, wantedO, e1]
  have e3 : feet cf ⟨T, H, n, k0⟩ new ⟨d, k, none⟩ = (needs k (valT T) H, u.map (·.1)) := by simp only [feet, wantedO, e1]; rfl
  refine ⟨s', by simp only [stepOps, e2]; exact h1, ?_, h3⟩
  simp only [feetL, e2, e3]
  rw [List.append_assoc] at h2
  exact h2⟩
theorem WOc.cons {acc : List (List Nat × List Nat)} {ps : List (Nat × Nat)} (h : WY (evalK cf k new (valT T) H) fun r u => WOc cf (setOpt T d r) (applyU H u) k0 (new + stride) l (acc ++ [(needs k (valT T) H, u.map (·.1))]) ps G) : WOc cf T H k0 new (⟨d, k, none⟩ :: l) acc ps G := by
  obtain ⟨r, u, h1, h2⟩ := h.ok
  exact WOc.step ⟨h1⟩ h2
theorem WOc.nil {acc : List (List Nat × List Nat)} {ps : List (Nat × Nat)} (hc : confOk acc ps = true) (h : WQ Q .normal T H k0 new) : WOc cf T H k0 new [] acc ps (Q .normal) := ⟨fun _ => ⟨_, rfl, by simpa [feetL] using hc, h.ok⟩⟩
theorem WOc.yes {want : Bool} {acc : List (List Nat × List Nat)} {ps : List (Nat × Nat)} (hb : T.getD t .undef = .bool b) (hw : b = want) (h : WOc cf T H k0 new (⟨d, k, none⟩ :: l) acc ps G) : WOc cf T H k0 new (⟨d, k, some (t, want)⟩ :: l) acc ps G := ⟨fun n => by
  obtain ⟨s', h1, h2⟩ := h.ok n
  have e : (b == want) = true := by rw [hw]; exact beq_self_eq_true want
  have e2 : stepOp cf ⟨T, H, n, k0⟩ new ⟨d, k, some (t, want)⟩ = stepOp cf ⟨T, H, n, k0⟩ new ⟨d, k, none⟩ := by simp only [stepOp, wantedO, hb, e]
  have e3 : feet cf ⟨T, H, n, k0⟩ new ⟨d, k, some (t, want)⟩ = feet cf ⟨T, H, n, k0⟩ new ⟨d, k, none⟩ := by simp only [feet, wantedO, hb, e]
  exact ⟨s', by simp only [stepOps, e2]; exact h1, by simp only [feetL, e2, e3]; exact h2.1, h2.2⟩⟩
theorem WOc.pass {want : Bool} {acc : List (List Nat × List Nat)} {ps : List (Nat × Nat)} (hb : wantedO ⟨T, H, 0, k0⟩ ⟨d, k, some (t, want)⟩ = some false) (h : WOc cf (setOpt T d (.tup [])) H k0 (new + stride) l (acc ++ [([], [])]) ps G) : WOc cf T H k0 new (⟨d, k, some (t, want)⟩ :: l) acc ps G := ⟨fun n => by
  obtain ⟨s', h1, h2, h3⟩ := h.ok n
  have hb' : wantedO ⟨T, H, n, k0⟩ ⟨d, k, some (t, want)⟩ = some false := hb
  have e2 : stepOp cf ⟨T, H, n, k0⟩ new ⟨d, k, some (t, want)⟩ = some ⟨setOpt T d (.tup []), H, n, k0⟩ := by simp only [stepOp, hb']
  have e3 : feet cf ⟨T, H, n, k0⟩ new ⟨d, k, some (t, want)⟩ = ([], []) := by simp only [feet, hb']
  refine ⟨s', by simp only [stepOps, e2]; exact h1, ?_, h3⟩
  simp only [feetL, e2, e3]
  rw [List.append_assoc] at h2
  exact h2⟩
theorem WOc.no {want : Bool} {acc : List (List Nat × List Nat)} {ps : List (Nat × Nat)} (hb : T.getD t .undef = .bool b) (hw : b = !want) (h : WOc cf (setOpt T d (.tup [])) H k0 (new + stride) l (acc ++ [([], [])]) ps G) : WOc cf T H k0 new (⟨d, k, some (t, want)⟩ :: l) acc ps G :=
  WOc.pass (by simp only [wantedO, hb, hw]; cases want <;> rfl) h
theorem WOc.skip {want : Bool} {vs : List PV} {acc : List (List Nat × List Nat)} {ps : List (Nat × Nat)} (hb : T.getD t .undef = .tup vs) (h : WOc cf (setOpt T d (.tup [])) H k0 (new + stride) l (acc ++ [([], [])]) ps G) : WOc cf T H k0 new (⟨d, k, some (t, want)⟩ :: l) acc ps G :=
  WOc.pass (by simp only [wantedO, hb]) h
theorem WO.isCall {f : Nat} {b0 : Bool} {raw : List Bool} {args : List X} (h : WO cf T H k0 new (⟨d, .call f b0 raw args, none⟩ :: l) G) : WO cf T H k0 new (⟨d, .call f b0 raw args, none⟩ :: l) G := h
theorem WOc.isCall {f : Nat} {b0 : Bool} {raw : List Bool} {args : List X} {acc : List (List Nat × List Nat)} {ps : List (Nat × Nat)} (h : WOc cf T H k0 new (⟨d, .call f b0 raw args, none⟩ :: l) acc ps G) : WOc cf T H k0 new (⟨d, .call f b0 raw args, none⟩ :: l) acc ps G := h
theorem WO.isCallv {fx : X} {b0 : Bool} {raw : List Bool} {args : List X} (h : WO cf T H k0 new (⟨d, .callv b0 raw fx args, none⟩ :: l) G) : WO cf T H k0 new (⟨d, .callv b0 raw fx args, none⟩ :: l) G := h
theorem WOc.isCallv {fx : X} {b0 : Bool} {raw : List Bool} {args : List X} {acc : List (List Nat × List Nat)} {ps : List (Nat × Nat)} (h : WOc cf T H k0 new (⟨d, .callv b0 raw fx args, none⟩ :: l) acc ps G) : WOc cf T H k0 new (⟨d, .callv b0 raw fx args, none⟩ :: l) acc ps G := h
theorem WO.isMm {mx : Bool} {xs : List X} (h : WO cf T H k0 new (⟨d, .minmax mx xs, none⟩ :: l) G) : WO cf T H k0 new (⟨d, .minmax mx xs, none⟩ :: l) G := h
theorem WOc.isMm {mx : Bool} {xs : List X} {acc : List (List Nat × List Nat)} {ps : List (Nat × Nat)} (h : WOc cf T H k0 new (⟨d, .minmax mx xs, none⟩ :: l) acc ps G) : WOc cf T H k0 new (⟨d, .minmax mx xs, none⟩ :: l) acc ps G := h
theorem WO.isLoad {ag : Bool} {sz : Nat} {x : X} (h : WO cf T H k0 new (⟨d, .load ag sz x, none⟩ :: l) G) : WO cf T H k0 new (⟨d, .load ag sz x, none⟩ :: l) G := h
theorem WOc.isLoad {ag : Bool} {sz : Nat} {x : X} {acc : List (List Nat × List Nat)} {ps : List (Nat × Nat)} (h : WOc cf T H k0 new (⟨d, .load ag sz x, none⟩ :: l) acc ps G) : WOc cf T H k0 new (⟨d, .load ag sz x, none⟩ :: l) acc ps G := h
theorem WO.isSlice {st : Bool} {es : Nat} {x : X} {lo hi mx : Option X} (h : WO cf T H k0 new (⟨d, .slice st es x lo hi mx, none⟩ :: l) G) : WO cf T H k0 new (⟨d, .slice st es x lo hi mx, none⟩ :: l) G := h
theorem WOc.isSlice {st : Bool} {es : Nat} {x : X} {lo hi mx : Option X} {acc : List (List Nat × List Nat)} {ps : List (Nat × Nat)} (h : WOc cf T H k0 new (⟨d, .slice st es x lo hi mx, none⟩ :: l) acc ps G) : WOc cf T H k0 new (⟨d, .slice st es x lo hi mx, none⟩ :: l) acc ps G := h
theorem WO.isIaddr {es : Nat} {x y : X} (h : WO cf T H k0 new (⟨d, .iaddr es x y, none⟩ :: l) G) : WO cf T H k0 new (⟨d, .iaddr es x y, none⟩ :: l) G := h
theorem WOc.isIaddr {es : Nat} {x y : X} {acc : List (List Nat × List Nat)} {ps : List (Nat × Nat)} (h : WOc cf T H k0 new (⟨d, .iaddr es x y, none⟩ :: l) acc ps G) : WOc cf T H k0 new (⟨d, .iaddr es x y, none⟩ :: l) acc ps G := h
theorem WO.isApp {es : Nat} {x y : X} (h : WO cf T H k0 new (⟨d, .append es x y, none⟩ :: l) G) : WO cf T H k0 new (⟨d, .append es x y, none⟩ :: l) G := h
theorem WOc.isApp {es : Nat} {x y : X} {acc : List (List Nat × List Nat)} {ps : List (Nat × Nat)} (h : WOc cf T H k0 new (⟨d, .append es x y, none⟩ :: l) acc ps G) : WOc cf T H k0 new (⟨d, .append es x y, none⟩ :: l) acc ps G := h
theorem WO.mv {x : X} (h : WO cf (setOpt T d (valT T x)) H k0 (new + stride) l G) : WO cf T H k0 new (⟨d, .mv x, none⟩ :: l) G := WO.step (r := valT T x) (u := []) ⟨rfl⟩ h
theorem WOc.mv {x : X} {acc : List (List Nat × List Nat)} {ps : List (Nat × Nat)} (h : WOc cf (setOpt T d (valT T x)) H k0 (new + stride) l (acc ++ [([], [])]) ps G) : WOc cf T H k0 new (⟨d, .mv x, none⟩ :: l) acc ps G := WOc.step (r := valT T x) (u := []) ⟨rfl⟩ h
theorem WY.nilO {r : PV} (h : WO cf (setOpt T d r) H k0 new l G) : WY (Option.some (r, [])) (fun r u => WO cf (setOpt T d r) (applyU H u) k0 new l G) := WY.some h
theorem WY.nilC {r : PV} {acc : List (List Nat × List Nat)} {a : List Nat} {ps : List (Nat × Nat)} (h : WOc cf (setOpt T d r) H k0 new l (acc ++ [(a, [])]) ps G) : WY (Option.some (r, [])) (fun r u => WOc cf (setOpt T d r) (applyU H u) k0 new l (acc ++ [(a, u.map (·.1))]) ps G) := WY.some h
theorem WO.step0 {r : PV} (h : EK cf k new T H r []) (hg : WO cf (setOpt T d r) H k0 (new + stride) l G) : WO cf T H k0 new (⟨d, k, none⟩ :: l) G := WO.step h hg
theorem WOc.step0 {r : PV} {acc : List (List Nat × List Nat)} {ps : List (Nat × Nat)} (h : EK cf k new T H r []) (hg : WOc cf (setOpt T d r) H k0 (new + stride) l (acc ++ [(needs k (valT T) H, [])]) ps G) : WOc cf T H k0 new (⟨d, k, none⟩ :: l) acc ps G := WOc.step h hg
theorem WO.yes {want : Bool} (hb : T.getD t .undef = .bool b) (hw : b = want) (h : WO cf T H k0 new (⟨d, k, none⟩ :: l) G) : WO cf T H k0 new (⟨d, k, some (t, want)⟩ :: l) G := ⟨fun n => by
  obtain ⟨s', h1, h2⟩ := h.ok n
  refine ⟨s', ?_, h2⟩
  have e : (b == want) = true := by rw [hw]; exact beq_self_eq_true want
  have e2 : stepOp cf ⟨T, H, n, k0⟩ new ⟨d, k, some (t, want)⟩ = stepOp cf ⟨T, H, n, k0⟩ new ⟨d, k, none⟩ := by simp only [stepOp, wantedO, hb, e]
  simp only [stepOps, e2]
  exact h1⟩
theorem WO.no {want : Bool} (hb : T.getD t .undef = .bool b) (hw : b = !want) (h : WO cf (setOpt T d (.tup [])) H k0 (new + stride) l G) : WO cf T H k0 new (⟨d, k, some (t, want)⟩ :: l) G := ⟨fun n =>
  WOps.guard hb (by rw [if_neg (by rw [hw]; cases want <;> simp)]; exact h.ok n)⟩
theorem WO.skip {want : Bool} {vs : List PV} (hb : T.getD t .undef = .tup vs) (h : WO cf (setOpt T d (.tup [])) H k0 (new + stride) l G) : WO cf T H k0 new (⟨d, k, some (t, want)⟩ :: l) G := ⟨fun n => by
  obtain ⟨s', h1, h2⟩ := h.ok n
  refine ⟨s', ?_, h2⟩
  simp only [stepOps, stepOp, wantedO, hb]
  exact h1⟩
theorem WC.skip (h : WQ Q .normal T H k0 n) : WC cf .skip T H k0 n Q := ⟨W.skip h.ok⟩
theorem WC.exit {i : Nat} (h : WQ Q (.exit i) T H k0 n) : WC cf (.exit i) T H k0 n Q := ⟨W.exit h.ok⟩
theorem WC.ret (h : WQ Q .ret T H k0 n) : WC cf .ret T H k0 n Q := ⟨W.ret h.ok⟩
theorem WC.seq {a b : C} (h : WC cf a T H k0 n (QSeq cf b Q)) : WC cf (.seq a b) T H k0 n Q := ⟨W.seq h.ok⟩
theorem WC.block {i : Nat} {a : C} (h : WC cf a T H k0 n (QBlock i Q)) : WC cf (.block i a) T H k0 n Q := ⟨W.block h.ok⟩
theorem WC.cond {x : X} {c a : C} {v : Bool} (hv : valT T x = .bool v) (h1 : v = true → WC cf c T H k0 n Q) (h2 : v = false → WC cf a T H k0 n Q) : WC cf (.cond x c a) T H k0 n Q := ⟨by
  have hv' : St.val ⟨T, H, n, k0⟩ x = .bool v := by cases x <;> exact hv
  refine W.cond hv' ?_
  cases v with
  | true => exact (h1 rfl).ok
  | false => exact (h2 rfl).ok⟩
theorem WC.yes {x : X} {c a : C} {v : Bool} (hv : valT T x = .bool v) (hw : v = true) (h1 : WC cf c T H k0 n Q) : WC cf (.cond x c a) T H k0 n Q := WC.cond hv (fun _ => h1) (fun h => by rw [hw] at h; cases h)
theorem WC.no {x : X} {c a : C} {v : Bool} (hv : valT T x = .bool v) (hw : v = false) (h1 : WC cf a T H k0 n Q) : WC cf (.cond x c a) T H k0 n Q := WC.cond hv (fun h => by rw [hw] at h; cases h) (fun _ => h1)
theorem WC.ops {l : List Op} (h : WO cf T H k0 n l (Q .normal)) : WC cf (.ops none l) T H k0 n Q := ⟨W.ops (h.ok n)⟩
theorem WC.opsE {l : List Op} (h : WO cf T H k0 n l (Q .normal)) : WC cf (.ops (some []) l) T H k0 n Q := ⟨W.opsE (h.ok n)⟩
theorem WC.opsC {l : List Op} {p} {ps} (h : WOc cf T H k0 n l [] (p :: ps) (Q .normal)) : WC cf (.ops (some (p :: ps)) l) T H k0 n Q := ⟨by
  obtain ⟨s', h1, h2, h3⟩ := h.ok n
  exact W.opsC ⟨s', h1, h3⟩ h2⟩
theorem WC.loop {lv : List Nat} {pro : List (Nat × Option Nat × Nat)} {c : C} {T' : List PV} {H' : Heap} {n' : Nat} (hc : canonS lv pro ⟨T, H, n, k0⟩ = ⟨T', H', n', k0⟩) (h : WC cf c T' H' k0 n' (QLoop cf lv pro c Q)) : WC cf (.loop lv pro c) T H k0 n Q := ⟨W.loop (by rw [hc]; exact h.ok)⟩
theorem WQ.seq {a : C} (h : WC cf a T H k0 n Q) : WQ (QSeq cf a Q) .normal T H k0 n := ⟨h.ok⟩
theorem WQ.seqX {a : C} {i : Nat} (h : WQ Q (.exit i) T H k0 n) : WQ (QSeq cf a Q) (.exit i) T H k0 n := ⟨h.ok⟩
theorem WQ.seqR {a : C} (h : WQ Q .ret T H k0 n) : WQ (QSeq cf a Q) .ret T H k0 n := ⟨h.ok⟩
theorem WQ.block {i : Nat} (h : WQ Q .normal T H k0 n) : WQ (QBlock i Q) .normal T H k0 n := ⟨h.ok⟩
theorem WQ.blockR {i : Nat} (h : WQ Q .ret T H k0 n) : WQ (QBlock i Q) .ret T H k0 n := ⟨h.ok⟩
theorem WQ.blockX {i : Nat} (h : WQ Q .normal T H k0 n) : WQ (QBlock i Q) (.exit i) T H k0 n := ⟨by
  show (if i = i then Q .normal _ else Q (.exit i) _)
  rw [if_pos rfl]; exact h.ok⟩
theorem WQ.blockY {i j : Nat} (hij : i ≠ j) (h : WQ Q (.exit i) T H k0 n) : WQ (QBlock j Q) (.exit i) T H k0 n := ⟨by
  show (if i = j then Q .normal _ else Q (.exit i) _)
  rw [if_neg hij]; exact h.ok⟩
theorem WQ.loop {lv : List Nat} {pro : List (Nat × Option Nat × Nat)} {c : C} (h : WC cf (.loop lv pro c) T H k0 n Q) : WQ (QLoop cf lv pro c Q) .normal T H k0 n := ⟨h.ok⟩
theorem WQ.loopX {lv : List Nat} {pro : List (Nat × Option Nat × Nat)} {c : C} {i : Nat} (h : WQ Q (.exit i) T H k0 n) : WQ (QLoop cf lv pro c Q) (.exit i) T H k0 n := ⟨h.ok⟩
theorem WQ.loopR {lv : List Nat} {pro : List (Nat × Option Nat × Nat)} {c : C} (h : WQ Q .ret T H k0 n) : WQ (QLoop cf lv pro c Q) .ret T H k0 n := ⟨h.ok⟩
theorem WQ.fin {f : F} {x} (h : finish f ⟨T, H, n, k0⟩ = some x) : WQ (QFin f x) .normal T H k0 n := ⟨h⟩
theorem WQ.ret {f : F} {x} (h : finish f ⟨T, H, n, k0⟩ = some x) : WQ (QFin f x) .ret T H k0 n := ⟨h⟩
theorem ev_ofC {env : Env} {f : Nat} {d : F} (hf : env f = some (.body d)) {a : List PV} {Hs : List (Option Blk)} {x} (h : WC (ev env) d.code (start d a Hs).tmps (heapOf 0 Hs) Hs.length Hs.length (QFin d x)) : ev env f a Hs = some x := ev_of hf h.ok
theorem ev_ofC' {env : Env} (hcf : cf = ev env) {f : Nat} {d : F} (hf : env f = some (.body d)) {a : List PV} {Hs : List (Option Blk)} {x} (h : WC cf d.code (start d a Hs).tmps (heapOf 0 Hs) Hs.length Hs.length (QFin d x)) : cf f a Hs = some x := by
  subst hcf
  exact ev_of hf h.ok
/-- What a function told by value comes to: whatever forms the slices come in. -/
structure Sp (cf : CF) (f : Nat) (As : List PV) (Y : PV) : Prop where
  ok : ∀ asV, idsL asV = [] → norms asV = As → cf f asV [] = some (Y, [])
theorem sp_of {env : Env} (hcf : cf = ev env) {f : Nat} {d : F} (hf : env f = some (.pub d)) {As : List PV} {Y : PV} (h : WC cf d.code (start d As []).tmps (heapOf 0 []) ([] : List (Option Blk)).length ([] : List (Option Blk)).length (QFinP d (Y, []))) : Sp cf f As Y := ⟨fun asV hi hn => by
  subst hcf
  subst hn
  exact ev_ofP hf hi h.ok⟩
mutual
/-- told in one way -/
inductive NV : PV → PV → Prop
  | same {v V} (h : v.norm = V) : NV v V
  | sl {n m t xs ys} (h : n = m) (h2 : xs = ys) : NV (.sl n t xs) (.sl m false ys)
  | agg {cs Cs} (h : NVs cs Cs) : NV (.agg cs) (.agg Cs)
  | tup {cs Cs} (h : NVs cs Cs) : NV (.tup cs) (.tup Cs)
inductive NVs : List PV → List PV → Prop
  | nil : NVs [] []
  | cons {v V r R} (h : NV v V) (t : NVs r R) : NVs (v :: r) (V :: R)
end
mutual
theorem NV.eq : ∀ {v V}, NV v V → v.norm = V
  | _, _, .same h => h
  | _, _, .sl h h2 => by subst h; subst h2; rfl
  | _, _, .agg h => by simp only [PV.norm, NVs.eq h]
  | _, _, .tup h => by simp only [PV.norm, NVs.eq h]
theorem NVs.eq : ∀ {v V}, NVs v V → norms v = V
  | _, _, .nil => rfl
  | _, _, .cons h t => by simp only [norms, NV.eq h, NVs.eq t]
end
theorem Sp.at {f : Nat} {asV As : List PV} {Y : PV} (h : Sp cf f As Y) (hi : idsL asV = []) (hn : NVs asV As) : cf f asV [] = some (Y, []) := h.ok _ hi hn.eq
theorem WQ.retP {f : F} {r Y : PV} {H' : List (Option Blk)} {v : PV} (h : finish f ⟨T, H, n, k0⟩ = some (r, H')) (hp : r.peek (heapOf 0 H') = some v) (hn : NV v Y) : WQ (QFinP f (Y, [])) .ret T H k0 n := ⟨by
  show finishP f ⟨T, H, n, k0⟩ = some (Y, [])
  unfold finishP
  rw [h]
  simp only [pubR, hp, hn.eq]⟩
theorem WQ.finP {f : F} {r Y : PV} {H' : List (Option Blk)} {v : PV} (h : finish f ⟨T, H, n, k0⟩ = some (r, H')) (hp : r.peek (heapOf 0 H') = some v) (hn : NV v Y) : WQ (QFinP f (Y, [])) .normal T H k0 n := ⟨by
  show finishP f ⟨T, H, n, k0⟩ = some (Y, [])
  unfold finishP
  rw [h]
  simp only [pubR, hp, hn.eq]⟩
end
end Go.Proofs.YtipnedhclbopdaaDoorEv

/- What operations come to where a number, a length, a cell is not told in full. -/
set_option linter.unusedVariables false
namespace Go.Proofs.YtipnedhclbopdaaDoorEv
theorem WV.of {o : Option (PV × Upd)} {r : PV} {u : Upd} {G : PV → Upd → Prop} (h : o = Option.some (r, u)) (hg : G r u) : WV o G := ⟨r, u, h, hg⟩
/-- what is asked of a callee -/
def callQ0 (h : Heap) (raw : List Bool) (vs : List PV) : List PV × List (Option Blk) :=
  match idsL (argsOf h raw vs) with
  | [] => (argsOf h raw vs, [])
  | i :: is => (mapIds (idxIn (reach h 100 (i :: is) [])) (argsOf h raw vs), (reach h 100 (i :: is) []).map fun i' => (hget h i').map (Blk.mapId (idxIn (reach h 100 (i :: is) []))))
/-- what becomes of its answer -/
def callR0 (new : Nat) (h : Heap) (borrow : Bool) (raw : List Bool) (vs : List PV) (x : PV × List (Option Blk)) : Option (PV × Upd) :=
  match idsL (argsOf h raw vs) with
  | [] => if borrow then (if x.1.scalar then some (x.1, []) else none) else
      if x.2.length ≤ stride then some (x.1.mapId (sigN new x.2.length), frz h (rowsOf h raw vs) ++ updsNew (sigN new x.2.length) new x.2) else none
  | i :: is => if borrow then none else
    if (rowsOf h raw vs).any ((reach h 100 (i :: is) []).contains ·) then none else
      if x.2.length ≤ (reach h 100 (i :: is) []).length + stride then some (x.1.mapId (sigS (reach h 100 (i :: is) []) new x.2.length), frz h (rowsOf h raw vs) ++ updsAt (sigS (reach h 100 (i :: is) []) new x.2.length) (reach h 100 (i :: is) []) x.2 ++ updsNew (sigS (reach h 100 (i :: is) []) new x.2.length) new (x.2.drop (reach h 100 (i :: is) []).length)) else none
def callQ (h : Heap) (borrow : Bool) (raw : List Bool) (vs : List PV) : List PV × List (Option Blk) :=
  match (if borrow = true then viewL h vs else none) with
  | some asV => (asV, [])
  | none => callQ0 h raw vs
def callR (new : Nat) (h : Heap) (borrow : Bool) (raw : List Bool) (vs : List PV) (x : PV × List (Option Blk)) : Option (PV × Upd) :=
  match (if borrow = true then viewL h vs else none) with
  | some _ => if x.1.scalar then some (x.1, []) else none
  | none => callR0 new h borrow raw vs x
section
variable {cf : CF} {new : Nat} {e : X → PV} {h : Heap} {r : PV} {u : Upd}
theorem doCall0_eq {f : Nat} {b : Bool} {raw : List Bool} {vs : List PV} {x} (hs : cf f (callQ0 h raw vs).1 (callQ0 h raw vs).2 = some x) (hr : callR0 new h b raw vs x = some (r, u)) : doCall0 cf new h f b raw vs = some (r, u) := by
  unfold callQ0 at hs
  unfold callR0 at hr
  unfold doCall0
  simp only
  cases hi : idsL (argsOf h raw vs) with
  | nil =>
    rw [hi] at hs hr
    simp only at hs hr ⊢
    rw [hs]
    exact hr
  | cons i is =>
    rw [hi] at hs hr
    simp only at hs hr ⊢
    cases b with
    | true => simp at hr
    | false =>
      simp only [Bool.false_eq_true, if_false] at hr ⊢
      split at hr
      · cases hr
      · next q => rw [if_neg q, hs]; exact hr
theorem doCall_eq {f : Nat} {b : Bool} {raw : List Bool} {vs : List PV} {x} (hs : cf f (callQ h b raw vs).1 (callQ h b raw vs).2 = some x) (hr : callR new h b raw vs x = some (r, u)) : doCall cf new h f b raw vs = some (r, u) := by
  unfold callQ at hs
  unfold callR at hr
  unfold doCall
  cases hw : (if b = true then viewL h vs else none) with
  | none =>
    rw [hw] at hs hr
    exact doCall0_eq hs hr
  | some asV =>
    rw [hw] at hs hr
    simp only at hs hr ⊢
    rw [hs]
    exact hr
theorem e_call {f : Nat} {b : Bool} {raw : List Bool} {args : List X} {x} (hs : cf f (callQ h b raw (args.map e)).1 (callQ h b raw (args.map e)).2 = some x) (hr : callR new h b raw (args.map e) x = some (r, u)) : evalK cf (.call f b raw args) new e h = some (r, u) := doCall_eq hs hr
theorem e_callv {fx : X} {g : Nat} {a c : List PV} {b : Bool} {raw : List Bool} {args : List X} {x} (hf : e fx = .fn g a c) (hs : cf g (callQ h b raw (a ++ args.map e ++ c)).1 (callQ h b raw (a ++ args.map e ++ c)).2 = some x) (hr : callR new h b raw (a ++ args.map e ++ c) x = some (r, u)) : evalK cf (.callv b raw fx args) new e h = some (r, u) := by
  simp only [evalK, hf]; exact doCall_eq hs hr
theorem natOf_int {k : IntKind} {n : Int} {d : Nat} (hn : 0 ≤ n) : natOf (some (.int k n)) d = some n.toNat := by simp [natOf, hn]
theorem e_slice_sl {es : Nat} {x : X} {lo hi mx : Option X} {len : Nat} {t : Bool} {xs : List PV} {a b m : Nat} (hx : e x = .sl len t xs) (ha : natOf (lo.map e) 0 = some a) (hb : natOf (hi.map e) len = some b) (hm : natOf (mx.map e) len = some m) (hab : a ≤ b) (hbm : b ≤ m) (hml : m ≤ len) :
    evalK cf (.slice false es x lo hi mx) new e h = some (.sl (b - a) (if mx.isSome then decide (b = m) else t && decide (b = len)) ((xs.drop (a * es)).take ((b - a) * es)), []) := by
  simp only [evalK, hx, ha, hb, hm, Bool.false_eq_true, if_false]
  rw [if_pos ⟨hab, hbm, hml⟩]
theorem e_slice_own {es : Nat} {x : X} {lo hi mx : Option X} {id off len : Nat} {a b m : Nat} (hx : e x = .own id es off len) (ha : natOf (lo.map e) 0 = some a) (hb : natOf (hi.map e) len = some b) (hm : natOf (mx.map e) len = some m) (hab : a ≤ b) (hbm : b ≤ m) (hml : m ≤ len) :
    evalK cf (.slice false es x lo hi mx) new e h = some (.own id es (off + a * es) (b - a), []) := by
  simp only [evalK, hx, ha, hb, hm, Bool.false_eq_true, if_false]
  rw [if_pos ⟨hab, hbm, hml, trivial⟩]
theorem e_slice_str {es : Nat} {x : X} {lo hi : Option X} {s : ByteArray} {a b : Nat} (hx : e x = .str s) (ha : natOf (lo.map e) 0 = some a) (hb : natOf (hi.map e) s.size = some b) (hab : a ≤ b) (hbl : b ≤ s.size) :
    evalK cf (.slice true es x lo hi none) new e h = some (.str (s.extract a b), []) := by
  simp only [evalK, hx, ha, hb, if_true, Option.map_none]
  rw [if_pos ⟨hab, hbl⟩]
theorem e_iaddr_sl {es : Nat} {x i : X} {k : IntKind} {n : Int} {len : Nat} {t : Bool} {xs : List PV} (hi : e i = .int k n) (hx : e x = .sl len t xs) (h0 : 0 ≤ n) (h1 : n < len) : evalK cf (.iaddr es x i) new e h = some (.rop (xs.drop (n.toNat * es)), []) := by
  simp only [evalK, hi, hx]
  rw [if_pos ⟨h0, h1⟩]
theorem e_iaddr_own {es es' : Nat} {x i : X} {k : IntKind} {n : Int} {id off len : Nat} (hi : e i = .int k n) (hx : e x = .own id es' off len) (h0 : 0 ≤ n) (h1 : n < len) : evalK cf (.iaddr es x i) new e h = some (.ptr id (off + n.toNat * es), []) := by
  simp only [evalK, hi, hx]
  rw [if_pos ⟨h0, h1⟩]
theorem e_index {x i : X} {k : IntKind} {n : Int} {s : ByteArray} {b : UInt8} (hx : e x = .str s) (hi : e i = .int k n) (h0 : 0 ≤ n) (hb : s[n.toNat]? = some b) : evalK cf (.index x i) new e h = some (.int .u8 b.toNat, []) := by
  simp only [evalK, hi, hx]
  rw [if_pos h0, hb]
theorem e_append_nil {es n : Nat} {a b : X} {ys : List PV} (ha : e a = .nil) (hb : srcOf h (e b) = some (n, ys)) (hy : ys.length = n * es) (hn : n ≤ mostLen) : evalK cf (.append es a b) new e h = some (.own new es 0 n, [(new, some (.row ys))]) := by
  simp only [evalK, ha, hb]
  rw [if_pos hy, if_pos hn]
theorem e_append_own {es n : Nat} {a b : X} {ys cs : List PV} {id len : Nat} (ha : e a = .own id es 0 len) (hc : hget h id = some (.row cs)) (hb : srcOf h (e b) = some (n, ys)) (hy : ys.length = n * es) (hn : len + n ≤ mostLen) (hl : len * es ≤ cs.length) :
    evalK cf (.append es a b) new e h = some (.own new es 0 (len + n), [(id, none), (new, some (.row (cs.take (len * es) ++ ys)))]) := by
  simp only [evalK, ha, hb, hc]
  rw [if_pos hy, if_pos ⟨hn, hl, trivial, trivial⟩]
theorem e_load_row {agg : Bool} {size : Nat} {a : X} {id off : Nat} {cs vs : List PV} (ha : e a = .ptr id off) (hc : hget h id = some (.row cs)) (hv : (cs.drop off).take size = vs) (hl : vs.length = size) : evalK cf (.load agg size a) new e h = (if agg then some (.agg vs, []) else match vs with | [v] => some (v, []) | _ => none) := by
  simp only [evalK, ha, hc, hv]
  rw [if_pos hl]
  cases agg <;> rfl
theorem e_load_rop {size : Nat} {a : X} {xs vs rest : List PV} (ha : e a = .rop xs) (hv : xs = vs ++ rest) (hl : vs.length = size) : evalK cf (.load true size a) new e h = some (.agg vs, []) := by
  have e1 : (vs ++ rest).take size = vs := by rw [← hl]; simp
  simp only [evalK, ha, hv, e1]
  rw [if_pos hl]; rfl
theorem e_store_row {size : Nat} {a x : X} {id off : Nat} {cs : List PV} (ha : e a = .ptr id off) (hc : hget h id = some (.row cs)) (h1 : (e x).cellish = true) (h2 : (e x).cells.length = size) (h3 : off + size ≤ cs.length) (h4 : (e x).closed = true) :
    evalK cf (.store size a x) new e h = some (.undef, [(id, some (.row (setRange cs off (e x).cells)))]) := by
  simp only [evalK, ha, hc]
  rw [if_pos ⟨h1, h2⟩, if_pos ⟨h3, h4⟩]
theorem e_b2s {x : X} {n : Nat} {cs : List PV} {l : List UInt8} {v : PV} (hx : e x = v) (hv : ∀ s, v ≠ .str s) (hs : srcOf h v = some (n, cs)) (hl : cs.length = n) (hb : bytesOf cs = some l) : evalK cf (.b2s x) new e h = some (.str ⟨l.toArray⟩, []) := by
  simp only [evalK, hx]
  cases v <;> first | exact absurd rfl (hv _) | (simp only [hs]; rw [if_pos hl, hb])
theorem e_copy {es n : Nat} {a b : X} {id k off len : Nat} {cs ys : List PV} (ha : e a = .own id k off len) (hc : hget h id = some (.row cs)) (hb : srcNS h (e b) = some (n, ys)) (hy : ys.length = n * es) (hl : off + len * es ≤ cs.length) :
    evalK cf (.copy es a b) new e h = some (.int .i64 (min n len : Nat), [(id, some (.row (setRange cs off (ys.take ((min n len) * es)))))]) := by
  simp only [evalK, ha, hb, hc]
  rw [if_pos hy, if_pos hl]
end
section
variable {cf : CF} {new : Nat} {e : X → PV} {h : Heap}
theorem e_min {a b : X} {k k' : IntKind} {x y : Nat} (ha : e a = .int k (x : Int)) (hb : e b = .int k' (y : Int)) : evalK cf (.minmax false [a, b]) new e h = some (.int k ((min x y : Nat) : Int), []) := by
  simp only [evalK, List.map, ha, hb, mm, Bool.false_eq_true, if_false]
  have : (if (y : Int) < (x : Int) then (y : Int) else x) = ((min x y : Nat) : Int) := by split <;> omega
  rw [this]
theorem e_max {a b : X} {k k' : IntKind} {x y : Nat} (ha : e a = .int k (x : Int)) (hb : e b = .int k' (y : Int)) : evalK cf (.minmax true [a, b]) new e h = some (.int k ((max x y : Nat) : Int), []) := by
  simp only [evalK, List.map, ha, hb, mm, if_true]
  have : (if (y : Int) > (x : Int) then (y : Int) else x) = ((max x y : Nat) : Int) := by split <;> omega
  rw [this]
end
section
variable {cf : CF} {T : List PV} {H : Heap} {new : Nat} {r : PV} {u : Upd}
theorem k_call {f : Nat} {b : Bool} {raw : List Bool} {args : List X} {x} (hs : cf f (callQ H b raw (args.map (valT T))).1 (callQ H b raw (args.map (valT T))).2 = some x) (hr : callR new H b raw (args.map (valT T)) x = some (r, u)) : EK cf (.call f b raw args) new T H r u := ⟨e_call hs hr⟩
theorem k_callv {fx : X} {g : Nat} {a c : List PV} {b : Bool} {raw : List Bool} {args : List X} {x} (hf : valT T fx = .fn g a c) (hs : cf g (callQ H b raw (a ++ args.map (valT T) ++ c)).1 (callQ H b raw (a ++ args.map (valT T) ++ c)).2 = some x) (hr : callR new H b raw (a ++ args.map (valT T) ++ c) x = some (r, u)) : EK cf (.callv b raw fx args) new T H r u := ⟨e_callv hf hs hr⟩
theorem k_slice_sl {es : Nat} {x : X} {lo hi mx : Option X} {len : Nat} {t : Bool} {xs : List PV} {a b m : Nat} (hx : valT T x = .sl len t xs) (ha : natOf (lo.map (valT T)) 0 = some a) (hb : natOf (hi.map (valT T)) len = some b) (hm : natOf (mx.map (valT T)) len = some m) (hab : a ≤ b) (hbm : b ≤ m) (hml : m ≤ len) : EK cf (.slice false es x lo hi mx) new T H (.sl (b - a) (if mx.isSome then decide (b = m) else t && decide (b = len)) ((xs.drop (a * es)).take ((b - a) * es))) [] := ⟨e_slice_sl hx ha hb hm hab hbm hml⟩
theorem k_slice_own {es : Nat} {x : X} {lo hi mx : Option X} {id off len : Nat} {a b m : Nat} (hx : valT T x = .own id es off len) (ha : natOf (lo.map (valT T)) 0 = some a) (hb : natOf (hi.map (valT T)) len = some b) (hm : natOf (mx.map (valT T)) len = some m) (hab : a ≤ b) (hbm : b ≤ m) (hml : m ≤ len) : EK cf (.slice false es x lo hi mx) new T H (.own id es (off + a * es) (b - a)) [] := ⟨e_slice_own hx ha hb hm hab hbm hml⟩
theorem k_slice_str {es : Nat} {x : X} {lo hi : Option X} {s : ByteArray} {a b : Nat} (hx : valT T x = .str s) (ha : natOf (lo.map (valT T)) 0 = some a) (hb : natOf (hi.map (valT T)) s.size = some b) (hab : a ≤ b) (hbl : b ≤ s.size) : EK cf (.slice true es x lo hi none) new T H (.str (s.extract a b)) [] := ⟨e_slice_str hx ha hb hab hbl⟩
theorem k_iaddr_sl {es : Nat} {x i : X} {k : IntKind} {n : Int} {len : Nat} {t : Bool} {xs : List PV} (hi : valT T i = .int k n) (hx : valT T x = .sl len t xs) (h0 : 0 ≤ n) (h1 : n < len) : EK cf (.iaddr es x i) new T H (.rop (xs.drop (n.toNat * es))) [] := ⟨e_iaddr_sl hi hx h0 h1⟩
theorem k_iaddr_own {es es' : Nat} {x i : X} {k : IntKind} {n : Int} {id off len : Nat} (hi : valT T i = .int k n) (hx : valT T x = .own id es' off len) (h0 : 0 ≤ n) (h1 : n < len) : EK cf (.iaddr es x i) new T H (.ptr id (off + n.toNat * es)) [] := ⟨e_iaddr_own hi hx h0 h1⟩
theorem k_index {x i : X} {k : IntKind} {n : Int} {s : ByteArray} {b : UInt8} (hx : valT T x = .str s) (hi : valT T i = .int k n) (h0 : 0 ≤ n) (hb : s[n.toNat]? = some b) : EK cf (.index x i) new T H (.int .u8 b.toNat) [] := ⟨e_index hx hi h0 hb⟩
theorem k_append_nil {es n : Nat} {a b : X} {ys : List PV} (ha : valT T a = .nil) (hb : srcOf H (valT T b) = some (n, ys)) (hy : ys.length = n * es) (hn : n ≤ mostLen) : EK cf (.append es a b) new T H (.own new es 0 n) [(new, some (.row ys))] := ⟨e_append_nil ha hb hy hn⟩
theorem k_append_own {es n : Nat} {a b : X} {ys cs : List PV} {id len : Nat} (ha : valT T a = .own id es 0 len) (hc : hget H id = some (.row cs)) (hb : srcOf H (valT T b) = some (n, ys)) (hy : ys.length = n * es) (hn : len + n ≤ mostLen) (hl : len * es ≤ cs.length) : EK cf (.append es a b) new T H (.own new es 0 (len + n)) [(id, none), (new, some (.row (cs.take (len * es) ++ ys)))] := ⟨e_append_own ha hc hb hy hn hl⟩
theorem k_load_rop {size : Nat} {a : X} {xs vs rest : List PV} (ha : valT T a = .rop xs) (hv : xs = vs ++ rest) (hl : vs.length = size) : EK cf (.load true size a) new T H (.agg vs) [] := ⟨e_load_rop ha hv hl⟩
theorem k_store_row {size : Nat} {a x : X} {id off : Nat} {cs : List PV} (ha : valT T a = .ptr id off) (hc : hget H id = some (.row cs)) (h1 : (valT T x).cellish = true) (h2 : (valT T x).cells.length = size) (h3 : off + size ≤ cs.length) (h4 : (valT T x).closed = true) : EK cf (.store size a x) new T H .undef [(id, some (.row (setRange cs off (valT T x).cells)))] := ⟨e_store_row ha hc h1 h2 h3 h4⟩
theorem k_b2s {x : X} {n : Nat} {cs : List PV} {bs : List UInt8} {v : PV} (hx : valT T x = v) (hv : ∀ s, v ≠ .str s) (hs : srcOf H v = some (n, cs)) (hl : cs.length = n) (hb : bytesOf cs = some bs) : EK cf (.b2s x) new T H (.str ⟨bs.toArray⟩) [] := ⟨e_b2s hx hv hs hl hb⟩
theorem k_copy {es n : Nat} {a b : X} {id k off len : Nat} {cs ys : List PV} (ha : valT T a = .own id k off len) (hc : hget H id = some (.row cs)) (hb : srcNS H (valT T b) = some (n, ys)) (hy : ys.length = n * es) (hl : off + len * es ≤ cs.length) : EK cf (.copy es a b) new T H (.int .i64 (min n len : Nat)) [(id, some (.row (setRange cs off (ys.take ((min n len) * es)))))] := ⟨e_copy ha hc hb hy hl⟩
theorem k_min {a b : X} {k k' : IntKind} {x y : Nat} (ha : valT T a = .int k (x : Int)) (hb : valT T b = .int k' (y : Int)) : EK cf (.minmax false [a, b]) new T H (.int k ((min x y : Nat) : Int)) [] := ⟨e_min ha hb⟩
theorem k_max {a b : X} {k k' : IntKind} {x y : Nat} (ha : valT T a = .int k (x : Int)) (hb : valT T b = .int k' (y : Int)) : EK cf (.minmax true [a, b]) new T H (.int k ((max x y : Nat) : Int)) [] := ⟨e_max ha hb⟩
end
/-- the cells of elements, one behind the other -/
def flat {α : Type} (enc : α → List PV) (l : List α) : List PV := (l.map enc).flatten
section
variable {α : Type} {enc : α → List PV} {es : Nat}
theorem flat_nil : flat enc [] = [] := rfl
theorem flat_cons (x : α) (l : List α) : flat enc (x :: l) = enc x ++ flat enc l := by simp [flat]
theorem flat_append (l m : List α) : flat enc (l ++ m) = flat enc l ++ flat enc m := by simp [flat]
theorem flat_length (he : ∀ x, (enc x).length = es) : ∀ l : List α, (flat enc l).length = l.length * es
  | [] => by simp [flat]
  | x :: l => by rw [flat_cons, List.length_append, he, flat_length he l, List.length_cons, Nat.add_mul]; omega
theorem flat_drop (he : ∀ x, (enc x).length = es) : ∀ (l : List α) (i : Nat), (flat enc l).drop (i * es) = flat enc (l.drop i)
  | l, 0 => by simp
  | [], i + 1 => by simp [flat]
  | x :: l, i + 1 => by rw [flat_cons, List.drop_append, List.drop_eq_nil_of_le (by rw [he, Nat.add_mul]; omega), he, Nat.add_mul, Nat.one_mul, Nat.add_sub_cancel, List.nil_append, flat_drop he l i, List.drop_succ_cons]
theorem flat_take (he : ∀ x, (enc x).length = es) : ∀ (l : List α) (i : Nat), (flat enc l).take (i * es) = flat enc (l.take i)
  | l, 0 => by simp [flat]
  | [], i + 1 => by simp [flat]
  | x :: l, i + 1 => by rw [flat_cons, List.take_append, List.take_of_length_le (by rw [he, Nat.add_mul]; omega), he, Nat.add_mul, Nat.one_mul, Nat.add_sub_cancel, flat_take he l i, List.take_succ_cons, flat_cons]
theorem flat_at (he : ∀ x, (enc x).length = es) {l : List α} {i : Nat} (hi : i < l.length) : (flat enc l).drop (i * es) = enc l[i] ++ flat enc (l.drop (i + 1)) := by
  rw [flat_drop he, List.drop_eq_getElem_cons hi, flat_cons]
end
end Go.Proofs.YtipnedhclbopdaaDoorEv

set_option linter.unusedVariables false
namespace Go.Proofs.YtipnedhclbopdaaDoorEv
open Go
section
variable {cf : CF} {T : List PV} {H : Heap} {new : Nat} {r : PV} {u : Upd}
theorem k_load1 {a : X} {id off : Nat} {cs : List PV} {v : PV} (ha : valT T a = .ptr id off) (hc : hget H id = some (.row cs)) (hv : (cs.drop off).take 1 = [v]) : EK cf (.load false 1 a) new T H v [] := ⟨e_load_row ha hc hv rfl⟩
theorem k_loadn {size : Nat} {a : X} {id off : Nat} {cs vs : List PV} (ha : valT T a = .ptr id off) (hc : hget H id = some (.row cs)) (hv : (cs.drop off).take size = vs) (hl : vs.length = size) : EK cf (.load true size a) new T H (.agg vs) [] := ⟨e_load_row ha hc hv hl⟩
theorem k_appmk {es : Nat} {zero : List PV} {a n : X} {k : IntKind} {m : Nat} (ha : valT T a = .nil) (hn : valT T n = .int k (m : Int)) (h0 : 0 < m) (h1 : m ≤ 16777216) (h2 : m * es ≤ 16777216) : EK cf (.appmk es zero a n) new T H (.own new es 0 m) [(new, some (.row ((List.replicate m zero).flatten)))] := ⟨by
  simp only [evalK, ha, hn]
  rw [if_pos ⟨by omega, by omega, by simpa using h2⟩, if_neg (by omega)]
  simp⟩
theorem k_mkslice {es : Nat} {zero : List PV} {l c : X} {k k' : IntKind} {m : Nat} (ha : valT T l = .int k (m : Int)) (hb : valT T c = .int k' (m : Int)) (h1 : m ≤ 16777216) (h2 : m * es ≤ 16777216) : EK cf (.mkslice es zero l c) new T H (.own new es 0 m) [(new, some (.row ((List.replicate m zero).flatten)))] := ⟨by
  simp only [evalK, ha, hb]
  rw [if_pos ⟨trivial, by omega, by simpa using h2, by omega⟩]
  simp⟩
theorem k_eqNil_sl {neg : Bool} {x : X} {n : Nat} {t : Bool} {xs : List PV} (hx : valT T x = .sl n t xs) (hn : n ≠ 0) : EK cf (.eqNil false neg x) new T H (.bool neg) [] := ⟨by
  simp only [evalK, hx, isNil, Bool.false_eq_true, if_false]
  rw [if_neg hn]
  cases neg <;> rfl⟩
theorem k_mm {mx : Bool} {a b : X} {k k' : IntKind} {x y z : Int} (ha : valT T a = .int k x) (hb : valT T b = .int k' y) (hr : (if mx then (if y > x then y else x) else (if y < x then y else x)) = z) : EK cf (.minmax mx [a, b]) new T H (.int k z) [] := ⟨by
  simp only [evalK, List.map, ha, hb, mm]
  cases mx <;> simp at hr <;> simp [hr]⟩
end
/-- an own row, told by value -/
theorem own_flat {α : Type} {enc : α → List PV} {es : Nat} (he : ∀ x, (enc x).length = es) (l : List α) : ((flat enc l).drop 0).take (l.length * es) = flat enc l := by
  rw [List.drop_zero, List.take_of_length_le (by rw [flat_length he]; exact Nat.le_refl _)]
theorem own_cells {α : Type} {enc : α → List PV} {es : Nat} (he : ∀ x, (enc x).length = es) {l : List α} {n : Nat} (hn : l.length ≤ n) : ((flat enc l).drop 0).take (n * es) = flat enc l := by
  rw [List.drop_zero, List.take_of_length_le (by rw [flat_length he]; exact Nat.mul_le_mul_right _ hn)]
end Go.Proofs.YtipnedhclbopdaaDoorEv

/- What comes in, as the evaluator's values; the row. -/
set_option linter.unusedVariables false
set_option linter.unusedSimpArgs false
namespace Go.Proofs.YtipnedhclbopdaaDoorEv
open Go Go.ChangeShapes Go.WideShapes Go.Deep Go.RowKit
def O0 : Nat → Option Nat := fun _ => none
def F0 : Nat → Prop := fun _ => False
/-- the cells stand for what is told -/
structure Cel (w : World) (xs : List PV) (cs : List Value) : Prop where
  vr : VRs w O0 F0 xs cs
  one : ∀ v ∈ cs, v.oneCell' = true
  clo : closedL xs = true
theorem Cel.nil {w : World} : Cel w [] [] := ⟨.nil, fun v hv => (by cases hv), rfl⟩
theorem Cel.append {w : World} {xs ys : List PV} {cs ds : List Value} (h : Cel w xs cs) (k : Cel w ys ds) : Cel w (xs ++ ys) (cs ++ ds) :=
  ⟨h.vr.append k.vr, fun v hv => (List.mem_append.1 hv).elim (h.one v) (k.one v), closedL_append h.clo k.clo⟩
/-- Whatever reads at type t holds the cells of an 'a' that is 'ok'. -/
def OpensE {α : Type} (P : Program) (t : TypeId) (sz : Nat) (ec : α → List PV) (ok : α → Prop) : Prop :=
  ∀ (H : Type) (enc : TypeId × Value → H) (w : World) (fuel : Nat) (cs : List Value) (x : DataW H × List MemPlace), DataW.trod enc P w 0 (fun _ => true) true fuel t cs = some x → ∃ a : α, Cel w (ec a) cs ∧ ok a
theorem OpensE.int {P : Program} {t : TypeId} {k : IntKind} (ht : P.underlying t = some (.int k)) : OpensE P t 1 (fun n => [.int k n]) (fun n => (Lit.int k n).wf = true) := fun H enc w fuel cs x h => by
  obtain ⟨n, rfl, _, hw⟩ := DataW.trod_int ht h
  exact ⟨n, ⟨.cons (.int k n) .nil, by simp [Value.oneCell'], rfl⟩, hw⟩
theorem OpensE.bool {P : Program} {t : TypeId} (ht : P.underlying t = some .bool) : OpensE P t 1 (fun b => [.bool b]) (fun _ => True) := fun H enc w fuel cs x h => by
  obtain ⟨b, rfl, _⟩ := DataW.trod_bool ht h
  exact ⟨b, ⟨.cons (.bool b) .nil, by simp [Value.oneCell'], rfl⟩, trivial⟩
theorem OpensE.string {P : Program} {t : TypeId} (ht : P.underlying t = some .string) : OpensE P t 1 (fun s => [.str s]) (fun s => s.size ≤ maxLen) := fun H enc w fuel cs x h => by
  obtain ⟨s, rfl, _, hs⟩ := DataW.trod_string ht h
  exact ⟨s, ⟨.cons (.str s) .nil, by simp [Value.oneCell'], rfl⟩, hs⟩
theorem OpensE.iso {α β : Type} {P : Program} {t : TypeId} {sz : Nat} {k : α → List PV} {ok : α → Prop} (h : OpensE P t sz k ok) (g : α → β) {k2 : β → List PV} {ok2 : β → Prop} (hg : ∀ a, k2 (g a) = k a) (ho : ∀ a, ok a → ok2 (g a)) : OpensE P t sz k2 ok2 := fun H enc w fuel cs x hx => by
  obtain ⟨a, h1, h2⟩ := h H enc w fuel cs x hx
  exact ⟨g a, by rw [hg]; exact h1, ho a h2⟩
/-- The fields from place 'off' on. -/
def OpensFE {α : Type} (P : Program) (fs : List Field) (off sz : Nat) (ec : α → List PV) (ok : α → Prop) : Prop :=
  ∀ (H : Type) (enc : TypeId × Value → H) (w : World) (n : Nat) (cs : List Value), cs.length = off + sz → (∀ f ∈ fs, ∃ y, DataW.trod enc P w 0 (fun _ => true) true n f.type ((cs.drop f.offset).take (P.cellsOf f.type)) = some y) → ∃ a : α, Cel w (ec a) (cs.drop off) ∧ ok a
theorem OpensFE.one {α : Type} {P : Program} {f : Field} {off sz : Nat} {ec : α → List PV} {ok : α → Prop} (h : OpensE P f.type sz ec ok) (ho : f.offset = off) (hs : P.cellsOf f.type = sz) : OpensFE P [f] off sz ec ok := fun H enc w n cs hl hf => by
  obtain ⟨y, hy⟩ := hf f (List.mem_singleton.2 rfl)
  rw [ho, hs, List.take_of_length_le (by rw [List.length_drop]; omega)] at hy
  exact h H enc w n _ y hy
theorem OpensFE.cons {α β : Type} {P : Program} {f : Field} {fs : List Field} {off sz sz2 : Nat} {ec : α → List PV} {ec2 : β → List PV} {ok : α → Prop} {ok2 : β → Prop} (h : OpensE P f.type sz ec ok) (ho : f.offset = off) (hs : P.cellsOf f.type = sz)
    (h2 : OpensFE P fs (off + sz) sz2 ec2 ok2) : OpensFE P (f :: fs) off (sz + sz2) (fun p : α × β => ec p.1 ++ ec2 p.2) (fun p => ok p.1 ∧ ok2 p.2) := fun H enc w n cs hl hf => by
  obtain ⟨y, hy⟩ := hf f (List.mem_cons_self)
  rw [ho, hs] at hy
  obtain ⟨a, ha, hoka⟩ := h H enc w n _ y hy
  obtain ⟨b, hb, hokb⟩ := h2 H enc w n cs (by omega) (fun f' hf' => hf f' (List.mem_cons_of_mem _ hf'))
  refine ⟨(a, b), ?_, hoka, hokb⟩
  have := ha.append hb
  rw [← List.drop_drop, List.take_append_drop] at this
  exact this
theorem OpensE.struct {α : Type} {P : Program} {t : TypeId} {fs : Array Field} {sz : Nat} {ec : α → List PV} {ok : α → Prop} (ht : P.underlying t = some (.struct fs)) (hc : P.cellsOf t = sz) (h : OpensFE P fs.toList 0 sz ec ok) : OpensE P t sz ec ok := fun H enc w fuel cs x hx => by
  obtain ⟨xs, n, _, rfl, hl, hlen, hf⟩ := DataW.trod_struct ht hx
  obtain ⟨a, h1, h2⟩ := h H enc w n cs (by omega) (fun f hf' => by
    obtain ⟨i, hi, rfl⟩ := List.getElem_of_mem hf'
    have hx' : fs[i]? = some fs.toList[i] := by rw [← Array.getElem?_toList]; exact List.getElem?_eq_getElem hi
    have hxs : i < xs.length := by rw [hlen]; simpa using hi
    exact ⟨_, (hf i _ hx').trans (List.getElem?_eq_getElem hxs)⟩)
  exact ⟨a, by simpa using h1, h2⟩
def encU8 (b : UInt8) : List PV := [.int .u8 b.toNat]
theorem byte_of {n : Int} (h : (Lit.int .u8 n).wf = true) : ∃ b : UInt8, n = (b.toNat : Int) := by
  have h1 : 0 ≤ n ∧ n < 256 := by
    simp only [Lit.wf, Bool.and_eq_true, decide_eq_true_eq] at h
    have e1 : IntKind.u8.min = 0 := by decide
    have e2 : IntKind.u8.max = 255 := by decide
    omega
  refine ⟨UInt8.ofNat n.toNat, ?_⟩
  rw [UInt8.toNat_ofNat']
  omega
theorem OpensE.byte {P : Program} {t : TypeId} (ht : P.underlying t = some (.int .u8)) : OpensE P t 1 (fun b => encU8 b) (fun _ => True) := fun H enc w fuel cs x h => by
  obtain ⟨n, rfl, _, hw⟩ := DataW.trod_int ht h
  obtain ⟨b, rfl⟩ := byte_of hw
  exact ⟨b, ⟨.cons (.int .u8 _) .nil, by simp [Value.oneCell'], rfl⟩, trivial⟩
theorem wf_i64 {n : Int} (h : (Lit.int .i64 n).wf = true) : -9223372036854775808 ≤ n ∧ n ≤ 9223372036854775807 := by
  simp only [Lit.wf, Bool.and_eq_true, decide_eq_true_eq] at h
  have e1 : IntKind.i64.min = -9223372036854775808 := by decide
  have e2 : IntKind.i64.max = 9223372036854775807 := by decide
  omega
theorem cell_at {w : World} {a : Addr} {v : Value} (h : w.cell? a = some v) : ∃ c el fz, w.heap[a.block]? = some (.cells c el fz) ∧ a.spot = none ∧ c[a.off]? = some v := by
  unfold World.cell? at h
  split at h
  · next c el fz hb =>
    split at h
    · cases h
    · next hs => exact ⟨c, el, fz, hb, by simpa using hs, h⟩
  · cases h
theorem take_ext {l : List Value} {off n : Nat} {cs : List Value} (hl : cs.length = n) (h : ∀ i, i < n → l[off + i]? = cs[i]?) : (l.drop off).take n = cs := by
  apply List.ext_getElem?
  intro i
  rw [List.getElem?_take]
  split
  · next hi => rw [List.getElem?_drop, h i hi]
  · next hi => rw [List.getElem?_eq_none (by omega)]
theorem OpensE.slice {α : Type} {P : Program} {t e : TypeId} {sz : Nat} {ec : α → List PV} {ok : α → Prop} (ht : P.underlying t = some (.slice e)) (hc : P.cellsOf e = sz) (hp : 0 < sz) (h : OpensE P e sz ec ok) :
    OpensE P t 1 (fun l : List α => [.sl l.length false (flat ec l)]) (fun l => l.length ≤ maxLen ∧ ∀ x ∈ l, ok x) := fun H enc w fuel cs x hx => by
  rcases open_slice ht hx with ⟨rfl, _⟩ | ⟨a, len, cap, m, n, D, Pl, rfl, _, hl, hm, hmm, _, hel⟩
  · exact ⟨[], ⟨.cons (.slEmpty none 0 false (fun h => by cases h)) .nil, by simp [Value.oneCell'], rfl⟩, Nat.zero_le _, fun x hx => by cases hx⟩
  have hlm : len ≤ m := by rw [hmm]; split <;> omega
  have keyc : len = 0 ∨ ∃ c el fz, w.heap[a.block]? = some (.cells c el fz) ∧ a.spot = none ∧ ∀ k, k ≤ len → ∃ l : List α, l.length = k ∧ (∀ x ∈ l, ok x) ∧ Cel w (flat ec l) ((c.toList.drop a.off).take (k * sz)) := by
    rcases Nat.eq_zero_or_pos len with h0 | hpos
    · exact .inl h0
    right
    obtain ⟨cs0, hc0, _⟩ := hel 0 (by omega)
    rw [hc] at hc0
    obtain ⟨_, hlen0, hcell0⟩ := World.cells?_some hc0
    have h00 := hcell0 0 hp
    rw [List.getElem?_eq_getElem (by omega)] at h00
    simp only [Nat.zero_mul, Addr.add, if_true] at h00
    obtain ⟨c, el, fz, hb, hs, _⟩ := cell_at h00
    refine ⟨c, el, fz, hb, hs, fun k => ?_⟩
    induction k with
    | zero => intro _; exact ⟨[], rfl, fun x hx => (by cases hx), by simpa [flat] using Cel.nil⟩
    | succ k ih =>
      intro hk
      obtain ⟨l, hll, hlo, hlc⟩ := ih (by omega)
      obtain ⟨ck, hck, htk⟩ := hel k (by omega)
      rw [hc] at hck
      obtain ⟨v, hv, hokv⟩ := h H enc w n ck _ htk
      obtain ⟨_, hlenk, hcellk⟩ := World.cells?_some hck
      refine ⟨l ++ [v], by simp [hll], fun x hx => ?_, ?_⟩
      · rcases List.mem_append.1 hx with hx | hx
        · exact hlo x hx
        · rw [List.mem_singleton.1 hx]; exact hokv
      · have e1 : (c.toList.drop a.off).take ((k + 1) * sz) = (c.toList.drop a.off).take (k * sz) ++ ck := by
          rw [Nat.add_mul, Nat.one_mul, List.take_add, List.drop_drop]
          congr 1
          refine take_ext hlenk (fun i hi => ?_)
          rw [← hcellk i hi]
          have hcl := hcellk i hi
          rw [List.getElem?_eq_getElem (by omega)] at hcl
          obtain ⟨c', el', fz', hb', hs', hv'⟩ := cell_at hcl
          rw [hcl]
          have hbk : ((a.add (k * sz)).add i).block = a.block := by simp only [Addr.add]; split <;> split <;> rfl
          have hof : ((a.add (k * sz)).add i).off = a.off + k * sz + i := by simp only [Addr.add]; split <;> split <;> simp_all
          rw [hbk, hb] at hb'
          simp only [Option.some.injEq, Obj.cells.injEq] at hb'
          rw [hof, ← hb'.1] at hv'
          rw [← hv']
          simp
        rw [e1, flat_append]
        refine hlc.append ?_
        simpa [flat] using hv
  rcases keyc with rfl | ⟨c, el, fz, hb, hs, hk⟩
  · exact ⟨[], ⟨.cons (.slEmpty (some a) cap false (fun h => by cases h)) .nil, by simp [Value.oneCell'], rfl⟩, Nat.zero_le _, fun x hx => by cases hx⟩
  · obtain ⟨l, hll, hlo, hlc⟩ := hk len (Nat.le_refl _)
    refine ⟨l, ⟨.cons ?_ .nil, by simp [Value.oneCell'], rfl⟩, by omega, hlo⟩
    obtain ⟨b, off, spot⟩ := a
    simp only at hs hb hlc
    subst hs
    rw [hll]
    exact .sl (fun h => h) hb hlc.vr hlc.one hlc.clo (List.take_prefix _ _) hl (fun h => by cases h)
/-- A value that came in. -/
theorem OpensE.value {α : Type} {P : Program} {t : TypeId} {sz : Nat} {ec : α → List PV} {ok : α → Prop} (h : OpensE P t sz ec ok) {H : Type} {enc : TypeId × Value → H} {w : World} {v : Value} {d : DataW H} {p : List MemPlace} (hv : DataW.Trod enc P w 0 (fun _ => true) true t v d p) :
    ∃ a, Cel w (ec a) v.cells.toList ∧ ok a := by
  obtain ⟨fuel, hf⟩ := hv
  exact h H enc w fuel _ _ hf
theorem cel_agg {w : World} {xs : List PV} {cs : Array Value} (h : Cel w xs cs.toList) : VR w O0 F0 (.agg xs) (.agg cs) := by
  have := VR.agg h.vr h.one
  simpa using this
theorem cel_one {w : World} {x : PV} {v : Value} (h : Cel w [x] [v]) : VR w O0 F0 x v := by
  cases h.vr with
  | cons a _ => exact a
/-- the row's walk -/
theorem law_calls {P : Program} {raws : Nat → List Bool} {env : Env} (he : EnvOk P raws env) {f : Nat} {args : List PV} (hx : ev env f args [] = some (.bool true, [])) {w : World} {vs : List Value} (hv : VRs w O0 F0 args vs) (ht : TabF w F0) :
    Calls P f vs.toArray w (fun e w' => e = .returned (.bool true) ∧ Below w.heap.size w w') := by
  have hi : Inv w O0 F0 F0 (heapOf 0 []) := ⟨fun id B h => (by cases h), ⟨fun b h => (h : False).elim, ht⟩, fun b h => h, fun i j b B C h => (by cases h)⟩
  refine ((ev_sound he f args [] _ _ hx).2 w O0 F0 F0 vs hv hi (fun _ _ => rfl)).mono fun e w' ⟨v, h1, O', M', F', h2, h3, h4, _⟩ => ?_
  cases h2
  exact ⟨h1, ⟨h4.os, h4.tape, h4.output, h4.size, fun k hk => h4.keep k hk (fun h => h)⟩⟩
theorem envOk_of {P : Program} {raws : Nat → List Bool} {tab : List (Nat × Def)} (h : ∀ p ∈ tab, match p.2 with
  | .body d => ∃ ann, copF P raws ann p.1 = some d
  | .pub d => ∃ ann, copF P raws ann p.1 = some d
  | .prim g => Callable P p.1 ∧ ∀ args H r H', g args H = some (r, H') → FSpec P p.1 args H r H') : EnvOk P raws (fun f => tab.lookup f) := fun f d hd => by
  have hm : (f, d) ∈ tab := by
    clear h
    induction tab with
    | nil => cases hd
    | cons q l ih =>
      obtain ⟨a, b⟩ := q
      simp only [List.lookup] at hd
      split at hd
      · next e => simp only [Option.some.injEq] at hd; rw [eq_of_beq e, hd]; exact List.mem_cons_self ..
      · exact List.mem_cons_of_mem _ (ih hd)
  exact h _ hm
end Go.Proofs.YtipnedhclbopdaaDoorEv

/- A range over an iterator that keeps a cell of its own; a body that never leaves. -/
set_option linter.unusedVariables false
namespace Go.Proofs.YtipnedhclbopdaaDoorEv
open Go Go.RowKit Go.Shelf
/-- what an iterator's own steps leave alone: new blocks; stores into its own cell -/
structure Bides {α : Type} (Bs : Nat) (J : List α → World → Prop) : Prop where
  grow : ∀ s W W', J s W → W.grownBy W' none → J s W'
  set : ∀ s W v, J s W → J s (W.setCell ⟨Bs, 0, none⟩ v)
/-- what a round leaves alone -/
def KeepB (Keep : Nat → Prop) (W W' : World) : Prop := ∀ b, Keep b → W'.heap[b]? = W.heap[b]?
theorem KeepB.trans {Keep : Nat → Prop} {A B C : World} (h : KeepB Keep A B) (k : KeepB Keep B C) : KeepB Keep A C := fun b hb => (k b hb).trans (h b hb)
theorem KeepB.putObj {Keep : Nat → Prop} (W : World) {r : Nat} (o : Obj) (hr : ¬ Keep r) : KeepB Keep W (W.putObj r o) := fun b hb => World.putObj_heap_other fun e => hr (e ▸ hb)
/-- what an iterator gives: of a list S, each element in a round -/
def Gives {α : Type} (F : Fence) (n : Nat) (P : Program) (gf : Nat) (lb : Array Value) (encs : α → Array Value) (Bs : Nat) (Keep : Nat → Prop) (S : List α → Prop) (N : Nat) (w : World) : Prop :=
  ∀ (l : Nat) (J : List α → World → Prop) (W : World), KeepB Keep w W → w.heap.size ≤ W.heap.size → Bides Bs J →
    (∀ pre x W1, J pre W1 → pre.length < N → YieldAt F (n - 1) P l (encs x) W1 fun e W' => e = .returned (.bool true) ∧ J (pre ++ [x]) W' ∧ KeepB Keep W1 W') →
    J [] W → CallsIn F n P gf (#[.func (.yield l) #[] #[]] ++ lb) W fun e W' => (∃ v, e = .returned v) ∧ ∃ xs, S xs ∧ J xs W'
theorem wpIn_range_priv {F : Fence} {n : Nat} {P : Program} {α : Type} {g : Operand} {ps : Array Tmp} {assign body : Code} {Q : Exit → Act → World → Prop} {a : Act} {w : World}
    (hro : F.round = none) (h1 : 1 ≤ n) {gf : Nat} {lb : Array Value} (hg : a.eval g = .func (.func gf) #[] lb) (hFg : F.fn gf) (eg : ∀ args w, (callFunc gf args).run P w = .ok (.enter gf args) w)
    {encs : α → Array Value} (hps : ∀ x, (encs x).size = ps.size) {Bs : Nat} (hBs : Bs < w.heap.size) {Keep : Nat → Prop} (hKeep : ∀ b, Keep b → b < w.heap.size) {S : List α → Prop} {N : Nat}
    (hseq : Gives F (n - 1) P gf lb encs Bs Keep S N w)
    (I : List α → World → Prop) (hI : OwnFrom w.heap.size I) (hIs : ∀ s W v, I s W → I s (W.setCell ⟨Bs, 0, none⟩ v)) (h0 : I [] w) (a₁ : α → Act)
    (hassign : ∀ (l : Nat) (x : α) (W : World) (K : Act → World → Prop), K (a₁ x) W →
      assign.wpIn (F.inRound l) (n - 1 - 1) P (Exit.then K (fun _ _ _ => False)) { tmps := (ps.zip (encs x)).foldl (fun t (p, v) => t.setIfInBounds p v) a.tmps, defers := [] } W)
    (hbody : ∀ (l : Nat) (pre : List α) (x : α) (W : World), w.heap.size ≤ W.heap.size → I pre W → pre.length < N →
      body.wpIn (F.inRound l) (n - 1 - 1) P (fun e _ W' => e = .normal ∧ KeepsOthers W W' ∧ KeepB Keep W W' ∧ I (pre ++ [x]) W') (a₁ x) W)
    (hdone : ∀ (D : Nat) (xs : List α) (W : World), S xs → I xs W → w.heap.size ≤ D → W.heap[D]? = some (.deferred (some [])) → Q .normal { a with defers := { target := .collected D, args := #[] } :: a.defers } W) :
    (Code.rangeFunc g ps assign body).wpIn F n P Q a w := by
  refine wpIn_rangeFunc fun fn hfn => ?_
  rw [hro]
  -- the record of the loop, and the block for deferred calls
  let D := w.heap.size
  let l := w.heap.size + 1
  let rec' : LoopState → Loop := fun st => { state := st, pending := none, fn, tmps := a.tmps, params := ps, assign, body, defers := D }
  let W1 := (w.alloc (.deferred (some []))).alloc (.loop (rec' .ready))
  have sz1 : (w.alloc (.deferred (some []))).heap.size = w.heap.size + 1 := World.size_alloc ..
  have hl1 : W1.heap[l]? = some (.loop (rec' .ready)) := by
    have := World.alloc_heap_new (w.alloc (.deferred (some []))) (.loop (rec' .ready))
    rwa [sz1] at this
  have hd1 : W1.heap[D]? = some (.deferred (some [])) := (Below.heap_alloc _ _ _ (by rw [sz1]; exact Nat.lt_succ_self _)).trans (World.alloc_heap_new w _)
  have hk1 : KeepB Keep w W1 := fun b hb => (Below.heap_alloc _ _ _ (by rw [sz1]; have := hKeep b hb; omega)).trans (Below.heap_alloc _ _ _ (hKeep b hb))
  have hs1 : w.heap.size ≤ W1.heap.size := by
    have : W1.heap.size = w.heap.size + 1 + 1 := (World.size_alloc ..).trans (by rw [sz1])
    omega
  have hi1 : I [] W1 := hI.alloc _ (hI.alloc _ h0)
  have nl : ¬ Keep l := fun h => by have := hKeep _ h; omega
  have nb : l ≠ Bs := by omega
  have nd : D ≠ Bs := by omega
  let J : List α → World → Prop := fun pre W => (I pre W ∧ w.heap.size ≤ W.heap.size) ∧ W.heap[l]? = some (.loop (rec' .ready)) ∧ W.heap[D]? = some (.deferred (some []))
  have hJ : Bides Bs J := ⟨fun s W W' h hg' => ⟨⟨hI s W W' none h.1.1 hg' (fun r e => by cases e), Nat.le_trans h.1.2 hg'.size⟩,
      (hg'.block l (Array.getElem?_eq_some_iff.1 h.2.1).1 (by simp)).trans h.2.1, (hg'.block D (Array.getElem?_eq_some_iff.1 h.2.2).1 (by simp)).trans h.2.2⟩,
    fun s W v h => ⟨⟨hIs s W v h.1.1, by show _ ≤ (W.heap.modify _ _).size; rw [Array.size_modify]; exact h.1.2⟩, (Below.heap_setCell W _ v l nb).trans h.2.1, (Below.heap_setCell W _ v D nd).trans h.2.2⟩⟩
  refine ⟨l, [{ target := .collected D, args := #[] }], W1, { target := .fn (.func gf) lb, args := #[.func (.yield l) #[] #[]] }, W1, gf,
    #[.func (.yield l) #[] #[]] ++ lb, W1, run_enterLoop_outer _ _ _ _ _, ?_, ?_, ?_, fun _ => h1, ?_⟩
  · simp only [resolve, hg]
    simp [go_sem]
  · intro f' hf'; simp [Target.leads] at hf'; subst hf'; exact hFg
  · simp [invoke, go_sem, eg]
  · refine (hseq l J W1 hk1 hs1 hJ ?_ ⟨⟨hi1, hs1⟩, hl1, hd1⟩).mono ?_
    · rintro pre x W ⟨⟨hi, hsz⟩, hl, hd⟩ hlen
      have hlt : l < W.heap.size := (Array.getElem?_eq_some_iff.1 hl).1
      refine ⟨fn, _, assign, body, run_yield (P := P) (args := encs x) hl (hps x), roundIn_of_wpIn hfn (hassign _ x W _ ⟨_, run_beginRound hl rfl, ?_⟩)⟩
      have hl2 : (W.putObj l (.loop (rec' .busy))).heap[l]? = some (.loop (rec' .busy)) := World.putObj_heap_same hlt
      have hd2 : (W.putObj l (.loop (rec' .busy))).heap[D]? = some (.deferred (some [])) := (World.putObj_heap_other (by omega)).trans hd
      refine wpIn_mono (hbody _ pre x _ (by rw [World.putObj_size]; exact hsz) (hI.putObj _ hi (by omega) hl rfl) hlen) ?_
      rintro e a3 W3 ⟨rfl, hk3, hkb, hi3⟩
      have hl3 := hk3.same _ _ hl2 rfl
      have hd3 := hk3.same _ _ hd2 rfl
      refine ⟨_, _, run_endRound (P := P) none hl3, rfl, ⟨⟨hI.putObj _ hi3 (by omega) hl3 rfl, ?_⟩, World.putObj_heap_same (Array.getElem?_eq_some_iff.1 hl3).1, (World.putObj_heap_other (by omega)).trans hd3⟩, ?_⟩
      · rw [World.putObj_size]
        have := hk3.size
        rw [World.putObj_size] at this
        omega
      · exact ((KeepB.putObj W _ nl).trans hkb).trans (KeepB.putObj W3 _ nl)
    · rintro e W2 ⟨⟨v, rfl⟩, xs, hS, ⟨⟨hi, hsz⟩, hl, hd⟩⟩
      exact ⟨none, _, run_endLoop (P := P) hl (by simp [rec']), hdone D xs _ hS (hI.putObj _ hi (by omega) hl rfl) (Nat.le_refl _) ((World.putObj_heap_other (by omega)).trans hd)⟩
/-- a function proved by hand: nothing is lent but what is told by value; what comes back lies in new blocks -/
theorem fspec_plain {P : Program} {f : Nat} {args : List PV} {r : PV}
    (h : ∀ (w : World) (O : Nat → Option Nat) (F : Nat → Prop) (vs : List Value), VRs w O F args vs → MT w F →
      Calls P f vs.toArray w fun e w' => ∃ v, e = .returned v ∧ Below w.heap.size w w' ∧ VR w' O F r v) : FSpec P f args [] r [] := by
  intro w O M F vs hv hI hO
  refine (h w O F vs hv hI.mlt).mono ?_
  rintro e w' ⟨v, rfl, hb, hr⟩
  have st : Stp (fun _ => False) w w' := ⟨hb.size, fun b q _ => hb.block b q, fun b q => by unfold World.shape?; rw [hb.block b q], hb.os, hb.tape, hb.output⟩
  refine ⟨v, rfl, O, M, F, hr, ⟨fun id B q => (by cases q), hI.mlt.same st (fun _ q => q.elim), hI.sub, fun i j b B C q => (by cases q)⟩,
    ⟨hb.size, fun b q _ => hb.block b q, fun b q => ?_, hb.os, hb.tape, hb.output⟩, fun _ _ => rfl, fun _ _ q => q, fun _ _ q => q, fun _ q _ => q, fun id b B q => (by cases q)⟩
  unfold World.shape?
  rw [hb.block b q]
theorem vr_str {w : World} {O : Nat → Option Nat} {F : Nat → Prop} {s : ByteArray} {v : Value} (h : VR w O F (.str s) v) : v = .string s := by cases h; rfl
theorem vr_int {w : World} {O : Nat → Option Nat} {F : Nat → Prop} {k : IntKind} {n : Int} {v : Value} (h : VR w O F (.int k n) v) : v = .int k n := by cases h; rfl
theorem vr_bool {w : World} {O : Nat → Option Nat} {F : Nat → Prop} {b : Bool} {v : Value} (h : VR w O F (.bool b) v) : v = .bool b := by cases h; rfl
/-- what the evaluator says of plain data, the model does -/
theorem calls_plain {P : Program} {f : Nat} {args : List PV} {r : PV} (h : FSpec P f args [] r []) {w : World} {vs : List Value} (hv : VRs w (fun _ => none) (fun _ => False) args vs) (ht : TabF w (fun _ => False)) :
    Calls P f vs.toArray w fun e w' => ∃ (v : Value) (O' : Nat → Option Nat) (F' : Nat → Prop), e = .returned v ∧ Below w.heap.size w w' ∧ VR w' O' F' r v := by
  have hi : Inv w (fun _ => none) (fun _ => False) (fun _ => False) (heapOf 0 []) := ⟨fun id B q => (by cases q), ⟨fun b q => q.elim, ht⟩, fun b q => q, fun i j b B C q => (by cases q)⟩
  refine (h w _ _ _ vs hv hi (fun _ _ => rfl)).mono ?_
  rintro e w' ⟨v, rfl, O', M', F', h2, h3, h4, _⟩
  exact ⟨v, O', F', rfl, ⟨h4.os, h4.tape, h4.output, h4.size, fun k hk => h4.keep k hk fun q => q⟩, h2⟩
end Go.Proofs.YtipnedhclbopdaaDoorEv

