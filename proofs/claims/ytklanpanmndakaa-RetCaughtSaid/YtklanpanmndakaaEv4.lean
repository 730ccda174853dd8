/- General words (4): an evaluator of the model's code, and that what it answers the model answers. -/
import Derived.Test.YtklanpanmndakaaEv3
import Derived.OpenShut
import Derived.Lib.SmallJoins
import Derived.Deep.Slices
import Derived.Below
import Derived.WideShapes
set_option linter.unusedSimpArgs false
/- What operations come to where a number, a length, a cell is not told in full. -/
set_option linter.unusedVariables false
namespace Go.Proofs.YtklanpanmndakaaEv
theorem WV.of {o : Option (PV × Upd)} {r : PV} {u : Upd} {G : PV → Upd → Prop} (h : o = Option.some (r, u)) (hg : G r u) : WV o G := ⟨r, u, h, hg⟩
/-- what is asked of a callee -/
def callQ (h : Heap) (raw : List Bool) (vs : List PV) : List PV × List (Option Blk) :=
  match idsL (argsOf h raw vs) with
  | [] => (argsOf h raw vs, [])
  | i :: is => (mapIds (idxIn (reach h 100 (i :: is) [])) (argsOf h raw vs), (reach h 100 (i :: is) []).map fun i' => (hget h i').map (Blk.mapId (idxIn (reach h 100 (i :: is) []))))
/-- what becomes of its answer -/
def callR (new : Nat) (h : Heap) (borrow : Bool) (raw : List Bool) (vs : List PV) (x : PV × List (Option Blk)) : Option (PV × Upd) :=
  match idsL (argsOf h raw vs) with
  | [] => if borrow then (if x.1.scalar then some (x.1, []) else none) else
      if x.2.length ≤ stride then some (x.1.mapId (sigN new x.2.length), frz h (rowsOf h raw vs) ++ updsNew (sigN new x.2.length) new x.2) else none
  | i :: is => if borrow then none else
    if (rowsOf h raw vs).any ((reach h 100 (i :: is) []).contains ·) then none else
      if x.2.length ≤ (reach h 100 (i :: is) []).length + stride then some (x.1.mapId (sigS (reach h 100 (i :: is) []) new x.2.length), frz h (rowsOf h raw vs) ++ updsAt (sigS (reach h 100 (i :: is) []) new x.2.length) (reach h 100 (i :: is) []) x.2 ++ updsNew (sigS (reach h 100 (i :: is) []) new x.2.length) new (x.2.drop (reach h 100 (i :: is) []).length)) else none
section
variable {cf : CF} {new : Nat} {e : X → PV} {h : Heap} {r : PV} {u : Upd}
theorem doCall_eq {f : Nat} {b : Bool} {raw : List Bool} {vs : List PV} {x} (hs : cf f (callQ h raw vs).1 (callQ h raw vs).2 = some x) (hr : callR new h b raw vs x = some (r, u)) : doCall cf new h f b raw vs = some (r, u) := by
  unfold callQ at hs
  unfold callR at hr
  unfold doCall
  simp only
  cases hi : idsL (argsOf h raw vs) with
  | nil =>
    rw [hi] at hs hr
    simp only at hs hr ⊢
    rw [hs]
    exact hr
  | cons i is =>
    rw [hi] at hs hr
    simp only at hs hr ⊢
    cases b with
    | true => simp at hr
    | false =>
      simp only [Bool.false_eq_true, if_false] at hr ⊢
      split at hr
      · cases hr
      · next q => rw [if_neg q, hs]; exact hr
theorem e_call {f : Nat} {b : Bool} {raw : List Bool} {args : List X} {x} (hs : cf f (callQ h raw (args.map e)).1 (callQ h raw (args.map e)).2 = some x) (hr : callR new h b raw (args.map e) x = some (r, u)) : evalK cf (.call f b raw args) new e h = some (r, u) := doCall_eq hs hr
theorem e_callv {fx : X} {g : Nat} {a c : List PV} {b : Bool} {raw : List Bool} {args : List X} {x} (hf : e fx = .fn g a c) (hs : cf g (callQ h raw (a ++ args.map e ++ c)).1 (callQ h raw (a ++ args.map e ++ c)).2 = some x) (hr : callR new h b raw (a ++ args.map e ++ c) x = some (r, u)) : evalK cf (.callv b raw fx args) new e h = some (r, u) := by
  simp only [evalK, hf]; exact doCall_eq hs hr
theorem natOf_int {k : IntKind} {n : Int} {d : Nat} (hn : 0 ≤ n) : natOf (some (.int k n)) d = some n.toNat := by simp [natOf, hn]
theorem e_slice_sl {es : Nat} {x : X} {lo hi mx : Option X} {len : Nat} {t : Bool} {xs : List PV} {a b m : Nat} (hx : e x = .sl len t xs) (ha : natOf (lo.map e) 0 = some a) (hb : natOf (hi.map e) len = some b) (hm : natOf (mx.map e) len = some m) (hab : a ≤ b) (hbm : b ≤ m) (hml : m ≤ len) :
    evalK cf (.slice false es x lo hi mx) new e h = some (.sl (b - a) (if mx.isSome then decide (b = m) else t && decide (b = len)) ((xs.drop (a * es)).take ((b - a) * es)), []) := by
  simp only [evalK, hx, ha, hb, hm, Bool.false_eq_true, if_false]
  rw [if_pos ⟨hab, hbm, hml⟩]
theorem e_slice_own {es : Nat} {x : X} {lo hi mx : Option X} {id off len : Nat} {a b m : Nat} (hx : e x = .own id es off len) (ha : natOf (lo.map e) 0 = some a) (hb : natOf (hi.map e) len = some b) (hm : natOf (mx.map e) len = some m) (hab : a ≤ b) (hbm : b ≤ m) (hml : m ≤ len) :
    evalK cf (.slice false es x lo hi mx) new e h = some (.own id es (off + a * es) (b - a), []) := by
  simp only [evalK, hx, ha, hb, hm, Bool.false_eq_true, if_false]
  rw [if_pos ⟨hab, hbm, hml, trivial⟩]
theorem e_slice_str {es : Nat} {x : X} {lo hi : Option X} {s : ByteArray} {a b : Nat} (hx : e x = .str s) (ha : natOf (lo.map e) 0 = some a) (hb : natOf (hi.map e) s.size = some b) (hab : a ≤ b) (hbl : b ≤ s.size) :
    evalK cf (.slice true es x lo hi none) new e h = some (.str (s.extract a b), []) := by
  simp only [evalK, hx, ha, hb, if_true, Option.map_none]
  rw [if_pos ⟨hab, hbl⟩]
theorem e_iaddr_sl {es : Nat} {x i : X} {k : IntKind} {n : Int} {len : Nat} {t : Bool} {xs : List PV} (hi : e i = .int k n) (hx : e x = .sl len t xs) (h0 : 0 ≤ n) (h1 : n < len) : evalK cf (.iaddr es x i) new e h = some (.rop (xs.drop (n.toNat * es)), []) := by
  simp only [evalK, hi, hx]
  rw [if_pos ⟨h0, h1⟩]
theorem e_iaddr_own {es es' : Nat} {x i : X} {k : IntKind} {n : Int} {id off len : Nat} (hi : e i = .int k n) (hx : e x = .own id es' off len) (h0 : 0 ≤ n) (h1 : n < len) : evalK cf (.iaddr es x i) new e h = some (.ptr id (off + n.toNat * es), []) := by
  simp only [evalK, hi, hx]
  rw [if_pos ⟨h0, h1⟩]
theorem e_index {x i : X} {k : IntKind} {n : Int} {s : ByteArray} {b : UInt8} (hx : e x = .str s) (hi : e i = .int k n) (h0 : 0 ≤ n) (hb : s[n.toNat]? = some b) : evalK cf (.index x i) new e h = some (.int .u8 b.toNat, []) := by
  simp only [evalK, hi, hx]
  rw [if_pos h0, hb]
theorem e_append_nil {es n : Nat} {a b : X} {ys : List PV} (ha : e a = .nil) (hb : srcOf h (e b) = some (n, ys)) (hy : ys.length = n * es) (hn : n ≤ mostLen) : evalK cf (.append es a b) new e h = some (.own new es 0 n, [(new, some (.row ys))]) := by
  simp only [evalK, ha, hb]
  rw [if_pos hy, if_pos hn]
theorem e_append_own {es n : Nat} {a b : X} {ys cs : List PV} {id len : Nat} (ha : e a = .own id es 0 len) (hc : hget h id = some (.row cs)) (hb : srcOf h (e b) = some (n, ys)) (hy : ys.length = n * es) (hn : len + n ≤ mostLen) (hl : len * es ≤ cs.length) :
    evalK cf (.append es a b) new e h = some (.own new es 0 (len + n), [(id, none), (new, some (.row (cs.take (len * es) ++ ys)))]) := by
  simp only [evalK, ha, hb, hc]
  rw [if_pos hy, if_pos ⟨hn, hl, trivial, trivial⟩]
theorem e_load_row {agg : Bool} {size : Nat} {a : X} {id off : Nat} {cs vs : List PV} (ha : e a = .ptr id off) (hc : hget h id = some (.row cs)) (hv : (cs.drop off).take size = vs) (hl : vs.length = size) : evalK cf (.load agg size a) new e h = (if agg then some (.agg vs, []) else match vs with | [v] => some (v, []) | _ => none) := by
  simp only [evalK, ha, hc, hv]
  rw [if_pos hl]
  cases agg <;> rfl
theorem e_load_rop {size : Nat} {a : X} {xs vs rest : List PV} (ha : e a = .rop xs) (hv : xs = vs ++ rest) (hl : vs.length = size) : evalK cf (.load true size a) new e h = some (.agg vs, []) := by
  have e1 : (vs ++ rest).take size = vs := by rw [← hl]; simp
  simp only [evalK, ha, hv, e1]
  rw [if_pos hl]; rfl
theorem e_store_row {size : Nat} {a x : X} {id off : Nat} {cs : List PV} (ha : e a = .ptr id off) (hc : hget h id = some (.row cs)) (h1 : (e x).cellish = true) (h2 : (e x).cells.length = size) (h3 : off + size ≤ cs.length) (h4 : (e x).closed = true) :
    evalK cf (.store size a x) new e h = some (.undef, [(id, some (.row (setRange cs off (e x).cells)))]) := by
  simp only [evalK, ha, hc]
  rw [if_pos ⟨h1, h2⟩, if_pos ⟨h3, h4⟩]
theorem e_b2s {x : X} {n : Nat} {cs : List PV} {l : List UInt8} {v : PV} (hx : e x = v) (hv : ∀ s, v ≠ .str s) (hs : srcOf h v = some (n, cs)) (hl : cs.length = n) (hb : bytesOf cs = some l) : evalK cf (.b2s x) new e h = some (.str ⟨l.toArray⟩, []) := by
  simp only [evalK, hx]
  cases v <;> first | exact absurd rfl (hv _) | (simp only [hs]; rw [if_pos hl, hb])
theorem e_copy {es n : Nat} {a b : X} {id k off len : Nat} {cs ys : List PV} (ha : e a = .own id k off len) (hc : hget h id = some (.row cs)) (hb : srcNS h (e b) = some (n, ys)) (hy : ys.length = n * es) (hl : off + len * es ≤ cs.length) :
    evalK cf (.copy es a b) new e h = some (.int .i64 (min n len : Nat), [(id, some (.row (setRange cs off (ys.take ((min n len) * es)))))]) := by
  simp only [evalK, ha, hb, hc]
  rw [if_pos hy, if_pos hl]
end
section
variable {cf : CF} {new : Nat} {e : X → PV} {h : Heap}
theorem e_min {a b : X} {k k' : IntKind} {x y : Nat} (ha : e a = .int k (x : Int)) (hb : e b = .int k' (y : Int)) : evalK cf (.minmax false [a, b]) new e h = some (.int k ((min x y : Nat) : Int), []) := by
  simp only [evalK, List.map, ha, hb, mm, Bool.false_eq_true, if_false]
  have : (if (y : Int) < (x : Int) then (y : Int) else x) = ((min x y : Nat) : Int) := by split <;> omega
  rw [this]
theorem e_max {a b : X} {k k' : IntKind} {x y : Nat} (ha : e a = .int k (x : Int)) (hb : e b = .int k' (y : Int)) : evalK cf (.minmax true [a, b]) new e h = some (.int k ((max x y : Nat) : Int), []) := by
  simp only [evalK, List.map, ha, hb, mm, if_true]
  have : (if (y : Int) > (x : Int) then (y : Int) else x) = ((max x y : Nat) : Int) := by split <;> omega
  rw [this]
end
section
variable {cf : CF} {T : List PV} {H : Heap} {new : Nat} {r : PV} {u : Upd}
theorem k_call {f : Nat} {b : Bool} {raw : List Bool} {args : List X} {x} (hs : cf f (callQ H raw (args.map (valT T))).1 (callQ H raw (args.map (valT T))).2 = some x) (hr : callR new H b raw (args.map (valT T)) x = some (r, u)) : EK cf (.call f b raw args) new T H r u := ⟨e_call hs hr⟩
theorem k_callv {fx : X} {g : Nat} {a c : List PV} {b : Bool} {raw : List Bool} {args : List X} {x} (hf : valT T fx = .fn g a c) (hs : cf g (callQ H raw (a ++ args.map (valT T) ++ c)).1 (callQ H raw (a ++ args.map (valT T) ++ c)).2 = some x) (hr : callR new H b raw (a ++ args.map (valT T) ++ c) x = some (r, u)) : EK cf (.callv b raw fx args) new T H r u := ⟨e_callv hf hs hr⟩
theorem k_slice_sl {es : Nat} {x : X} {lo hi mx : Option X} {len : Nat} {t : Bool} {xs : List PV} {a b m : Nat} (hx : valT T x = .sl len t xs) (ha : natOf (lo.map (valT T)) 0 = some a) (hb : natOf (hi.map (valT T)) len = some b) (hm : natOf (mx.map (valT T)) len = some m) (hab : a ≤ b) (hbm : b ≤ m) (hml : m ≤ len) : EK cf (.slice false es x lo hi mx) new T H (.sl (b - a) (if mx.isSome then decide (b = m) else t && decide (b = len)) ((xs.drop (a * es)).take ((b - a) * es))) [] := ⟨e_slice_sl hx ha hb hm hab hbm hml⟩
theorem k_slice_own {es : Nat} {x : X} {lo hi mx : Option X} {id off len : Nat} {a b m : Nat} (hx : valT T x = .own id es off len) (ha : natOf (lo.map (valT T)) 0 = some a) (hb : natOf (hi.map (valT T)) len = some b) (hm : natOf (mx.map (valT T)) len = some m) (hab : a ≤ b) (hbm : b ≤ m) (hml : m ≤ len) : EK cf (.slice false es x lo hi mx) new T H (.own id es (off + a * es) (b - a)) [] := ⟨e_slice_own hx ha hb hm hab hbm hml⟩
theorem k_slice_str {es : Nat} {x : X} {lo hi : Option X} {s : ByteArray} {a b : Nat} (hx : valT T x = .str s) (ha : natOf (lo.map (valT T)) 0 = some a) (hb : natOf (hi.map (valT T)) s.size = some b) (hab : a ≤ b) (hbl : b ≤ s.size) : EK cf (.slice true es x lo hi none) new T H (.str (s.extract a b)) [] := ⟨e_slice_str hx ha hb hab hbl⟩
theorem k_iaddr_sl {es : Nat} {x i : X} {k : IntKind} {n : Int} {len : Nat} {t : Bool} {xs : List PV} (hi : valT T i = .int k n) (hx : valT T x = .sl len t xs) (h0 : 0 ≤ n) (h1 : n < len) : EK cf (.iaddr es x i) new T H (.rop (xs.drop (n.toNat * es))) [] := ⟨e_iaddr_sl hi hx h0 h1⟩
theorem k_iaddr_own {es es' : Nat} {x i : X} {k : IntKind} {n : Int} {id off len : Nat} (hi : valT T i = .int k n) (hx : valT T x = .own id es' off len) (h0 : 0 ≤ n) (h1 : n < len) : EK cf (.iaddr es x i) new T H (.ptr id (off + n.toNat * es)) [] := ⟨e_iaddr_own hi hx h0 h1⟩
theorem k_index {x i : X} {k : IntKind} {n : Int} {s : ByteArray} {b : UInt8} (hx : valT T x = .str s) (hi : valT T i = .int k n) (h0 : 0 ≤ n) (hb : s[n.toNat]? = some b) : EK cf (.index x i) new T H (.int .u8 b.toNat) [] := ⟨e_index hx hi h0 hb⟩
theorem k_append_nil {es n : Nat} {a b : X} {ys : List PV} (ha : valT T a = .nil) (hb : srcOf H (valT T b) = some (n, ys)) (hy : ys.length = n * es) (hn : n ≤ mostLen) : EK cf (.append es a b) new T H (.own new es 0 n) [(new, some (.row ys))] := ⟨e_append_nil ha hb hy hn⟩
theorem k_append_own {es n : Nat} {a b : X} {ys cs : List PV} {id len : Nat} (ha : valT T a = .own id es 0 len) (hc : hget H id = some (.row cs)) (hb : srcOf H (valT T b) = some (n, ys)) (hy : ys.length = n * es) (hn : len + n ≤ mostLen) (hl : len * es ≤ cs.length) : EK cf (.append es a b) new T H (.own new es 0 (len + n)) [(id, none), (new, some (.row (cs.take (len * es) ++ ys)))] := ⟨e_append_own ha hc hb hy hn hl⟩
theorem k_load_rop {size : Nat} {a : X} {xs vs rest : List PV} (ha : valT T a = .rop xs) (hv : xs = vs ++ rest) (hl : vs.length = size) : EK cf (.load true size a) new T H (.agg vs) [] := ⟨e_load_rop ha hv hl⟩
theorem k_store_row {size : Nat} {a x : X} {id off : Nat} {cs : List PV} (ha : valT T a = .ptr id off) (hc : hget H id = some (.row cs)) (h1 : (valT T x).cellish = true) (h2 : (valT T x).cells.length = size) (h3 : off + size ≤ cs.length) (h4 : (valT T x).closed = true) : EK cf (.store size a x) new T H .undef [(id, some (.row (setRange cs off (valT T x).cells)))] := ⟨e_store_row ha hc h1 h2 h3 h4⟩
theorem k_b2s {x : X} {n : Nat} {cs : List PV} {bs : List UInt8} {v : PV} (hx : valT T x = v) (hv : ∀ s, v ≠ .str s) (hs : srcOf H v = some (n, cs)) (hl : cs.length = n) (hb : bytesOf cs = some bs) : EK cf (.b2s x) new T H (.str ⟨bs.toArray⟩) [] := ⟨e_b2s hx hv hs hl hb⟩
theorem k_copy {es n : Nat} {a b : X} {id k off len : Nat} {cs ys : List PV} (ha : valT T a = .own id k off len) (hc : hget H id = some (.row cs)) (hb : srcNS H (valT T b) = some (n, ys)) (hy : ys.length = n * es) (hl : off + len * es ≤ cs.length) : EK cf (.copy es a b) new T H (.int .i64 (min n len : Nat)) [(id, some (.row (setRange cs off (ys.take ((min n len) * es)))))] := ⟨e_copy ha hc hb hy hl⟩
theorem k_min {a b : X} {k k' : IntKind} {x y : Nat} (ha : valT T a = .int k (x : Int)) (hb : valT T b = .int k' (y : Int)) : EK cf (.minmax false [a, b]) new T H (.int k ((min x y : Nat) : Int)) [] := ⟨e_min ha hb⟩
theorem k_max {a b : X} {k k' : IntKind} {x y : Nat} (ha : valT T a = .int k (x : Int)) (hb : valT T b = .int k' (y : Int)) : EK cf (.minmax true [a, b]) new T H (.int k ((max x y : Nat) : Int)) [] := ⟨e_max ha hb⟩
end
/-- the cells of elements, one behind the other -/
def flat {α : Type} (enc : α → List PV) (l : List α) : List PV := (l.map enc).flatten
section
variable {α : Type} {enc : α → List PV} {es : Nat}
theorem flat_nil : flat enc [] = [] := rfl
theorem flat_cons (x : α) (l : List α) : flat enc (x :: l) = enc x ++ flat enc l := by simp [flat]
theorem flat_append (l m : List α) : flat enc (l ++ m) = flat enc l ++ flat enc m := by simp [flat]
theorem flat_length (he : ∀ x, (enc x).length = es) : ∀ l : List α, (flat enc l).length = l.length * es
  | [] => by simp [flat]
  | x :: l => by rw [flat_cons, List.length_append, he, flat_length he l, List.length_cons, Nat.add_mul]; omega
theorem flat_drop (he : ∀ x, (enc x).length = es) : ∀ (l : List α) (i : Nat), (flat enc l).drop (i * es) = flat enc (l.drop i)
  | l, 0 => by simp
  | [], i + 1 => by simp [flat]
  | x :: l, i + 1 => by rw [flat_cons, List.drop_append, List.drop_eq_nil_of_le (by rw [he, Nat.add_mul]; omega), he, Nat.add_mul, Nat.one_mul, Nat.add_sub_cancel, List.nil_append, flat_drop he l i, List.drop_succ_cons]
theorem flat_take (he : ∀ x, (enc x).length = es) : ∀ (l : List α) (i : Nat), (flat enc l).take (i * es) = flat enc (l.take i)
  | l, 0 => by simp [flat]
  | [], i + 1 => by simp [flat]
  | x :: l, i + 1 => by rw [flat_cons, List.take_append, List.take_of_length_le (by rw [he, Nat.add_mul]; omega), he, Nat.add_mul, Nat.one_mul, Nat.add_sub_cancel, flat_take he l i, List.take_succ_cons, flat_cons]
theorem flat_at (he : ∀ x, (enc x).length = es) {l : List α} {i : Nat} (hi : i < l.length) : (flat enc l).drop (i * es) = enc l[i] ++ flat enc (l.drop (i + 1)) := by
  rw [flat_drop he, List.drop_eq_getElem_cons hi, flat_cons]
end
end Go.Proofs.YtklanpanmndakaaEv

set_option linter.unusedVariables false
namespace Go.Proofs.YtklanpanmndakaaEv
open Go
section
variable {cf : CF} {T : List PV} {H : Heap} {new : Nat} {r : PV} {u : Upd}
theorem k_load1 {a : X} {id off : Nat} {cs : List PV} {v : PV} (ha : valT T a = .ptr id off) (hc : hget H id = some (.row cs)) (hv : (cs.drop off).take 1 = [v]) : EK cf (.load false 1 a) new T H v [] := ⟨e_load_row ha hc hv rfl⟩
theorem k_loadn {size : Nat} {a : X} {id off : Nat} {cs vs : List PV} (ha : valT T a = .ptr id off) (hc : hget H id = some (.row cs)) (hv : (cs.drop off).take size = vs) (hl : vs.length = size) : EK cf (.load true size a) new T H (.agg vs) [] := ⟨e_load_row ha hc hv hl⟩
theorem k_appmk {es : Nat} {zero : List PV} {a n : X} {k : IntKind} {m : Nat} (ha : valT T a = .nil) (hn : valT T n = .int k (m : Int)) (h0 : 0 < m) (h1 : m ≤ 16777216) (h2 : m * es ≤ 16777216) : EK cf (.appmk es zero a n) new T H (.own new es 0 m) [(new, some (.row ((List.replicate m zero).flatten)))] := ⟨by
  simp only [evalK, ha, hn]
  rw [if_pos ⟨by omega, by omega, by simpa using h2⟩, if_neg (by omega)]
  simp⟩
theorem k_mkslice {es : Nat} {zero : List PV} {l c : X} {k k' : IntKind} {m : Nat} (ha : valT T l = .int k (m : Int)) (hb : valT T c = .int k' (m : Int)) (h1 : m ≤ 16777216) (h2 : m * es ≤ 16777216) : EK cf (.mkslice es zero l c) new T H (.own new es 0 m) [(new, some (.row ((List.replicate m zero).flatten)))] := ⟨by
  simp only [evalK, ha, hb]
  rw [if_pos ⟨trivial, by omega, by simpa using h2, by omega⟩]
  simp⟩
theorem k_eqNil_sl {neg : Bool} {x : X} {n : Nat} {t : Bool} {xs : List PV} (hx : valT T x = .sl n t xs) (hn : n ≠ 0) : EK cf (.eqNil false neg x) new T H (.bool neg) [] := ⟨by
  simp only [evalK, hx, isNil, Bool.false_eq_true, if_false]
  rw [if_neg hn]
  cases neg <;> rfl⟩
theorem k_mm {mx : Bool} {a b : X} {k k' : IntKind} {x y z : Int} (ha : valT T a = .int k x) (hb : valT T b = .int k' y) (hr : (if mx then (if y > x then y else x) else (if y < x then y else x)) = z) : EK cf (.minmax mx [a, b]) new T H (.int k z) [] := ⟨by
  simp only [evalK, List.map, ha, hb, mm]
  cases mx <;> simp at hr <;> simp [hr]⟩
end
/-- an own row, told by value -/
theorem own_flat {α : Type} {enc : α → List PV} {es : Nat} (he : ∀ x, (enc x).length = es) (l : List α) : ((flat enc l).drop 0).take (l.length * es) = flat enc l := by
  rw [List.drop_zero, List.take_of_length_le (by rw [flat_length he]; exact Nat.le_refl _)]
end Go.Proofs.YtklanpanmndakaaEv

/- What comes in, as the evaluator's values; the row. -/
set_option linter.unusedVariables false
set_option linter.unusedSimpArgs false
namespace Go.Proofs.YtklanpanmndakaaEv
open Go Go.ChangeShapes Go.WideShapes Go.Deep Go.RowKit
def O0 : Nat → Option Nat := fun _ => none
def F0 : Nat → Prop := fun _ => False
/-- the cells stand for what is told -/
structure Cel (w : World) (xs : List PV) (cs : List Value) : Prop where
  vr : VRs w O0 F0 xs cs
  one : ∀ v ∈ cs, v.oneCell' = true
  clo : closedL xs = true
theorem Cel.nil {w : World} : Cel w [] [] := ⟨.nil, fun v hv => (by cases hv), rfl⟩
theorem Cel.append {w : World} {xs ys : List PV} {cs ds : List Value} (h : Cel w xs cs) (k : Cel w ys ds) : Cel w (xs ++ ys) (cs ++ ds) :=
  ⟨h.vr.append k.vr, fun v hv => (List.mem_append.1 hv).elim (h.one v) (k.one v), closedL_append h.clo k.clo⟩
/-- Whatever reads at type t holds the cells of an 'a' that is 'ok'. -/
def OpensE {α : Type} (P : Program) (t : TypeId) (sz : Nat) (ec : α → List PV) (ok : α → Prop) : Prop :=
  ∀ (H : Type) (enc : TypeId × Value → H) (w : World) (fuel : Nat) (cs : List Value) (x : DataW H × List MemPlace), DataW.trod enc P w 0 (fun _ => true) true fuel t cs = some x → ∃ a : α, Cel w (ec a) cs ∧ ok a
theorem OpensE.int {P : Program} {t : TypeId} {k : IntKind} (ht : P.underlying t = some (.int k)) : OpensE P t 1 (fun n => [.int k n]) (fun n => (Lit.int k n).wf = true) := fun H enc w fuel cs x h => by
  obtain ⟨n, rfl, _, hw⟩ := DataW.trod_int ht h
  exact ⟨n, ⟨.cons (.int k n) .nil, by simp [Value.oneCell'], rfl⟩, hw⟩
theorem OpensE.bool {P : Program} {t : TypeId} (ht : P.underlying t = some .bool) : OpensE P t 1 (fun b => [.bool b]) (fun _ => True) := fun H enc w fuel cs x h => by
  obtain ⟨b, rfl, _⟩ := DataW.trod_bool ht h
  exact ⟨b, ⟨.cons (.bool b) .nil, by simp [Value.oneCell'], rfl⟩, trivial⟩
theorem OpensE.string {P : Program} {t : TypeId} (ht : P.underlying t = some .string) : OpensE P t 1 (fun s => [.str s]) (fun s => s.size ≤ maxLen) := fun H enc w fuel cs x h => by
  obtain ⟨s, rfl, _, hs⟩ := DataW.trod_string ht h
  exact ⟨s, ⟨.cons (.str s) .nil, by simp [Value.oneCell'], rfl⟩, hs⟩
theorem OpensE.iso {α β : Type} {P : Program} {t : TypeId} {sz : Nat} {k : α → List PV} {ok : α → Prop} (h : OpensE P t sz k ok) (g : α → β) {k2 : β → List PV} {ok2 : β → Prop} (hg : ∀ a, k2 (g a) = k a) (ho : ∀ a, ok a → ok2 (g a)) : OpensE P t sz k2 ok2 := fun H enc w fuel cs x hx => by
  obtain ⟨a, h1, h2⟩ := h H enc w fuel cs x hx
  exact ⟨g a, by rw [hg]; exact h1, ho a h2⟩
/-- The fields from place 'off' on. -/
def OpensFE {α : Type} (P : Program) (fs : List Field) (off sz : Nat) (ec : α → List PV) (ok : α → Prop) : Prop :=
  ∀ (H : Type) (enc : TypeId × Value → H) (w : World) (n : Nat) (cs : List Value), cs.length = off + sz → (∀ f ∈ fs, ∃ y, DataW.trod enc P w 0 (fun _ => true) true n f.type ((cs.drop f.offset).take (P.cellsOf f.type)) = some y) → ∃ a : α, Cel w (ec a) (cs.drop off) ∧ ok a
theorem OpensFE.one {α : Type} {P : Program} {f : Field} {off sz : Nat} {ec : α → List PV} {ok : α → Prop} (h : OpensE P f.type sz ec ok) (ho : f.offset = off) (hs : P.cellsOf f.type = sz) : OpensFE P [f] off sz ec ok := fun H enc w n cs hl hf => by
  obtain ⟨y, hy⟩ := hf f (List.mem_singleton.2 rfl)
  rw [ho, hs, List.take_of_length_le (by rw [List.length_drop]; omega)] at hy
  exact h H enc w n _ y hy
theorem OpensFE.cons {α β : Type} {P : Program} {f : Field} {fs : List Field} {off sz sz2 : Nat} {ec : α → List PV} {ec2 : β → List PV} {ok : α → Prop} {ok2 : β → Prop} (h : OpensE P f.type sz ec ok) (ho : f.offset = off) (hs : P.cellsOf f.type = sz)
    (h2 : OpensFE P fs (off + sz) sz2 ec2 ok2) : OpensFE P (f :: fs) off (sz + sz2) (fun p : α × β => ec p.1 ++ ec2 p.2) (fun p => ok p.1 ∧ ok2 p.2) := fun H enc w n cs hl hf => by
  obtain ⟨y, hy⟩ := hf f (List.mem_cons_self)
  rw [ho, hs] at hy
  obtain ⟨a, ha, hoka⟩ := h H enc w n _ y hy
  obtain ⟨b, hb, hokb⟩ := h2 H enc w n cs (by omega) (fun f' hf' => hf f' (List.mem_cons_of_mem _ hf'))
  refine ⟨(a, b), ?_, hoka, hokb⟩
  have := ha.append hb
  rw [← List.drop_drop, List.take_append_drop] at this
  exact this
theorem OpensE.struct {α : Type} {P : Program} {t : TypeId} {fs : Array Field} {sz : Nat} {ec : α → List PV} {ok : α → Prop} (ht : P.underlying t = some (.struct fs)) (hc : P.cellsOf t = sz) (h : OpensFE P fs.toList 0 sz ec ok) : OpensE P t sz ec ok := fun H enc w fuel cs x hx => by
  obtain ⟨xs, n, _, rfl, hl, hlen, hf⟩ := DataW.trod_struct ht hx
  obtain ⟨a, h1, h2⟩ := h H enc w n cs (by omega) (fun f hf' => by
    obtain ⟨i, hi, rfl⟩ := List.getElem_of_mem hf'
    have hx' : fs[i]? = some fs.toList[i] := by rw [← Array.getElem?_toList]; exact List.getElem?_eq_getElem hi
    have hxs : i < xs.length := by rw [hlen]; simpa using hi
    exact ⟨_, (hf i _ hx').trans (List.getElem?_eq_getElem hxs)⟩)
  exact ⟨a, by simpa using h1, h2⟩
def encU8 (b : UInt8) : List PV := [.int .u8 b.toNat]
theorem byte_of {n : Int} (h : (Lit.int .u8 n).wf = true) : ∃ b : UInt8, n = (b.toNat : Int) := by
  have h1 : 0 ≤ n ∧ n < 256 := by
    simp only [Lit.wf, Bool.and_eq_true, decide_eq_true_eq] at h
    have e1 : IntKind.u8.min = 0 := by decide
    have e2 : IntKind.u8.max = 255 := by decide
    omega
  refine ⟨UInt8.ofNat n.toNat, ?_⟩
  rw [UInt8.toNat_ofNat']
  omega
theorem OpensE.byte {P : Program} {t : TypeId} (ht : P.underlying t = some (.int .u8)) : OpensE P t 1 (fun b => encU8 b) (fun _ => True) := fun H enc w fuel cs x h => by
  obtain ⟨n, rfl, _, hw⟩ := DataW.trod_int ht h
  obtain ⟨b, rfl⟩ := byte_of hw
  exact ⟨b, ⟨.cons (.int .u8 _) .nil, by simp [Value.oneCell'], rfl⟩, trivial⟩
theorem wf_i64 {n : Int} (h : (Lit.int .i64 n).wf = true) : -9223372036854775808 ≤ n ∧ n ≤ 9223372036854775807 := by
  simp only [Lit.wf, Bool.and_eq_true, decide_eq_true_eq] at h
  have e1 : IntKind.i64.min = -9223372036854775808 := by decide
  have e2 : IntKind.i64.max = 9223372036854775807 := by decide
  omega
theorem cell_at {w : World} {a : Addr} {v : Value} (h : w.cell? a = some v) : ∃ c el fz, w.heap[a.block]? = some (.cells c el fz) ∧ a.spot = none ∧ c[a.off]? = some v := by
  unfold World.cell? at h
  split at h
  · next c el fz hb =>
    split at h
    · cases h
    · next hs => exact ⟨c, el, fz, hb, by simpa using hs, h⟩
  · cases h
theorem take_ext {l : List Value} {off n : Nat} {cs : List Value} (hl : cs.length = n) (h : ∀ i, i < n → l[off + i]? = cs[i]?) : (l.drop off).take n = cs := by
  apply List.ext_getElem?
  intro i
  rw [List.getElem?_take]
  split
  · next hi => rw [List.getElem?_drop, h i hi]
  · next hi => rw [List.getElem?_eq_none (by omega)]
theorem OpensE.slice {α : Type} {P : Program} {t e : TypeId} {sz : Nat} {ec : α → List PV} {ok : α → Prop} (ht : P.underlying t = some (.slice e)) (hc : P.cellsOf e = sz) (hp : 0 < sz) (h : OpensE P e sz ec ok) :
    OpensE P t 1 (fun l : List α => [.sl l.length false (flat ec l)]) (fun l => l.length ≤ maxLen ∧ ∀ x ∈ l, ok x) := fun H enc w fuel cs x hx => by
  rcases open_slice ht hx with ⟨rfl, _⟩ | ⟨a, len, cap, m, n, D, Pl, rfl, _, hl, hm, hmm, _, hel⟩
  · exact ⟨[], ⟨.cons (.slEmpty none 0 false (fun h => by cases h)) .nil, by simp [Value.oneCell'], rfl⟩, Nat.zero_le _, fun x hx => by cases hx⟩
  have hlm : len ≤ m := by rw [hmm]; split <;> omega
  have keyc : len = 0 ∨ ∃ c el fz, w.heap[a.block]? = some (.cells c el fz) ∧ a.spot = none ∧ ∀ k, k ≤ len → ∃ l : List α, l.length = k ∧ (∀ x ∈ l, ok x) ∧ Cel w (flat ec l) ((c.toList.drop a.off).take (k * sz)) := by
    rcases Nat.eq_zero_or_pos len with h0 | hpos
    · exact .inl h0
    right
    obtain ⟨cs0, hc0, _⟩ := hel 0 (by omega)
    rw [hc] at hc0
    obtain ⟨_, hlen0, hcell0⟩ := World.cells?_some hc0
    have h00 := hcell0 0 hp
    rw [List.getElem?_eq_getElem (by omega)] at h00
    simp only [Nat.zero_mul, Addr.add, if_true] at h00
    obtain ⟨c, el, fz, hb, hs, _⟩ := cell_at h00
    refine ⟨c, el, fz, hb, hs, fun k => ?_⟩
    induction k with
    | zero => intro _; exact ⟨[], rfl, fun x hx => (by cases hx), by simpa [flat] using Cel.nil⟩
    | succ k ih =>
      intro hk
      obtain ⟨l, hll, hlo, hlc⟩ := ih (by omega)
      obtain ⟨ck, hck, htk⟩ := hel k (by omega)
      rw [hc] at hck
      obtain ⟨v, hv, hokv⟩ := h H enc w n ck _ htk
      obtain ⟨_, hlenk, hcellk⟩ := World.cells?_some hck
      refine ⟨l ++ [v], by simp [hll], fun x hx => ?_, ?_⟩
      · rcases List.mem_append.1 hx with hx | hx
        · exact hlo x hx
        · rw [List.mem_singleton.1 hx]; exact hokv
      · have e1 : (c.toList.drop a.off).take ((k + 1) * sz) = (c.toList.drop a.off).take (k * sz) ++ ck := by
          rw [Nat.add_mul, Nat.one_mul, List.take_add, List.drop_drop]
          congr 1
          refine take_ext hlenk (fun i hi => ?_)
          rw [← hcellk i hi]
          have hcl := hcellk i hi
          rw [List.getElem?_eq_getElem (by omega)] at hcl
          obtain ⟨c', el', fz', hb', hs', hv'⟩ := cell_at hcl
          rw [hcl]
          have hbk : ((a.add (k * sz)).add i).block = a.block := by simp only [Addr.add]; split <;> split <;> rfl
          have hof : ((a.add (k * sz)).add i).off = a.off + k * sz + i := by simp only [Addr.add]; split <;> split <;> simp_all
          rw [hbk, hb] at hb'
          simp only [Option.some.injEq, Obj.cells.injEq] at hb'
          rw [hof, ← hb'.1] at hv'
          rw [← hv']
          simp
        rw [e1, flat_append]
        refine hlc.append ?_
        simpa [flat] using hv
  rcases keyc with rfl | ⟨c, el, fz, hb, hs, hk⟩
  · exact ⟨[], ⟨.cons (.slEmpty (some a) cap false (fun h => by cases h)) .nil, by simp [Value.oneCell'], rfl⟩, Nat.zero_le _, fun x hx => by cases hx⟩
  · obtain ⟨l, hll, hlo, hlc⟩ := hk len (Nat.le_refl _)
    refine ⟨l, ⟨.cons ?_ .nil, by simp [Value.oneCell'], rfl⟩, by omega, hlo⟩
    obtain ⟨b, off, spot⟩ := a
    simp only at hs hb hlc
    subst hs
    rw [hll]
    exact .sl (fun h => h) hb hlc.vr hlc.one hlc.clo (List.take_prefix _ _) hl (fun h => by cases h)
/-- A value that came in. -/
theorem OpensE.value {α : Type} {P : Program} {t : TypeId} {sz : Nat} {ec : α → List PV} {ok : α → Prop} (h : OpensE P t sz ec ok) {H : Type} {enc : TypeId × Value → H} {w : World} {v : Value} {d : DataW H} {p : List MemPlace} (hv : DataW.Trod enc P w 0 (fun _ => true) true t v d p) :
    ∃ a, Cel w (ec a) v.cells.toList ∧ ok a := by
  obtain ⟨fuel, hf⟩ := hv
  exact h H enc w fuel _ _ hf
theorem cel_agg {w : World} {xs : List PV} {cs : Array Value} (h : Cel w xs cs.toList) : VR w O0 F0 (.agg xs) (.agg cs) := by
  have := VR.agg h.vr h.one
  simpa using this
theorem cel_one {w : World} {x : PV} {v : Value} (h : Cel w [x] [v]) : VR w O0 F0 x v := by
  cases h.vr with
  | cons a _ => exact a
/-- the row's walk -/
theorem law_calls {P : Program} {raws : Nat → List Bool} {env : Env} (he : EnvOk P raws env) {f : Nat} {args : List PV} (hx : ev env f args [] = some (.bool true, [])) {w : World} {vs : List Value} (hv : VRs w O0 F0 args vs) :
    Calls P f vs.toArray w (fun e w' => e = .returned (.bool true) ∧ Below w.heap.size w w') := by
  have hi : Inv w O0 F0 F0 (heapOf 0 []) := ⟨fun id B h => (by cases h), fun b h => (h : False).elim, fun b h => h, fun i j b B C h => (by cases h)⟩
  refine ((ev_sound he f args [] _ _ hx).2 w O0 F0 F0 vs hv hi (fun _ _ => rfl)).mono fun e w' ⟨v, h1, O', M', F', h2, h3, h4, _⟩ => ?_
  cases h2
  exact ⟨h1, ⟨h4.os, h4.tape, h4.output, h4.size, fun k hk => h4.keep k hk (fun h => h)⟩⟩
theorem envOk_of {P : Program} {raws : Nat → List Bool} {tab : List (Nat × Def)} (h : ∀ p ∈ tab, match p.2 with
  | .body d => ∃ ann, copF P raws ann p.1 = some d
  | .prim g => Callable P p.1 ∧ ∀ args H r H', g args H = some (r, H') → FSpec P p.1 args H r H') : EnvOk P raws (fun f => tab.lookup f) := fun f d hd => by
  have hm : (f, d) ∈ tab := by
    clear h
    induction tab with
    | nil => cases hd
    | cons q l ih =>
      obtain ⟨a, b⟩ := q
      simp only [List.lookup] at hd
      split at hd
      · next e => simp only [Option.some.injEq] at hd; rw [eq_of_beq e, hd]; exact List.mem_cons_self ..
      · exact List.mem_cons_of_mem _ (ih hd)
  exact h _ hm
end Go.Proofs.YtklanpanmndakaaEv

