/- Evs23B: a part of the proof. -/
import Derived.Test.YthmfjkakpefkeaaEvs23A
open Go Go.Proofs.YthmfjkakpefkeaaEv Go.Proofs.YthmfjkakpefkeaaR Go.IntWalk
set_option maxRecDepth 20000
set_option maxHeartbeats 8000000
set_option linter.unusedVariables false
set_option linter.unusedSimpArgs false
namespace Go.Proofs.YthmfjkakpefkeaaR
section
variable {cf : CF} (hcf : cf = ev env)
include hcf
omit hcf in
theorem objs_bound (n i m : Nat) (h : i + (m + 1) = n) (hn : n < 4096) : IntKind.i64.wrap ((i : Int) + 1) = ((i + 1 : Nat) : Int) := by rw [i64_in _ (by omega)]; simp
omit hcf in
theorem f1 (b : UInt8) : (IntKind.u8.wrap (((BitVec.ofInt IntKind.u8.bits (b.toNat : Int) &&& BitVec.ofInt IntKind.u8.bits 1).toNat : Nat) : Int) != 0) = decide (b.toNat % 2 = 1) := by
  have h : ∀ n : Fin 256, (IntKind.u8.wrap (((BitVec.ofInt IntKind.u8.bits (n.val : Int) &&& BitVec.ofInt IntKind.u8.bits 1).toNat : Nat) : Int) != 0) = decide (n.val % 2 = 1) := by decide +kernel
  exact h ⟨b.toNat, b.toNat_lt⟩
omit hcf in
theorem f2 (b : UInt8) : (IntKind.u8.wrap (((BitVec.ofInt IntKind.u8.bits (b.toNat : Int) &&& BitVec.ofInt IntKind.u8.bits 2).toNat : Nat) : Int) != 0) = decide (b.toNat / 2 % 2 = 1) := by
  have h : ∀ n : Fin 256, (IntKind.u8.wrap (((BitVec.ofInt IntKind.u8.bits (n.val : Int) &&& BitVec.ofInt IntKind.u8.bits 2).toNat : Nat) : Int) != 0) = decide (n.val / 2 % 2 = 1) := by decide +kernel
  exact h ⟨b.toNat, b.toNat_lt⟩
omit hcf in
theorem f3 (b : UInt8) : IntKind.i64.wrap ((b.toNat : Int).tdiv 4) = ((b.toNat / 4 : Nat) : Int) := by
  have := b.toNat_lt
  rw [i64_quo _ _ (by omega)]; omega
theorem s15 (l : List UInt8) (t : Bool) : cf 15 [.sl l.length t (flat encB l)] [] = some (outS (get l)) := by
  refine ev_ofC' hcf env15 ?_
  conv => arg 2; simp only [ir15]
  conv => arg 3; simp only [ir15, Go.Proofs.YthmfjkakpefkeaaEv.start, List.length, Nat.reduceAdd, Nat.reduceSub, List.reduceReplicate, List.append_eq, List.cons_append, List.nil_append]
  conv => arg 4; simp only [heapOf]
  try conv => arg 5; simp only [List.length, Nat.reduceAdd]
  try conv => arg 6; simp only [List.length, Nat.reduceAdd]
  refine EVgo9 (And.intro (tm2001) (tm5)) (s30 hcf l t) (s31 hcf (l.drop 2) t ((hd l * 256 + hd (l.drop 1)) % 2001)) (s32 hcf (l.drop (2 + (hd l * 256 + hd (l.drop 1)) % 2001)) t) trivial trivial trivial trivial trivial trivial (@b2sB cf) trivial ?_
  generalize hN : (hd l * 256 + hd (l.drop 1)) % 2001 = N
  generalize hb1 : l.drop (2 + N) = b1
  have hb1' : l.drop (2 + N + 1) = b1.drop 1 := by rw [← hb1, List.drop_drop]
  rw [hb1']
  generalize hk : hd b1 % 5 = k
  have hk5 : k < 5 := by omega
  generalize htx : (ByteArray.mk (List.take N (List.drop 2 l)).toArray) = tx
  refine WC.loop (T' := _) (H' := _) (n' := _) rfl ((?_ : ∀ (m i : Nat) (acc : List (Int × Int × Int)) (r : List UInt8), i + m = k → acc.length = i → acc ++ objs m r = objs k (b1.drop 1) → r.drop (4 * m) = b1.drop (1 + 4 * k) →
    WC cf _ (mkT 63 [(2, .ptr 0 0), (3, .ptr 1 0), (5, .ptr 2 0), (16, .int .i64 (k : Nat)), (17, .int .i64 (i : Nat))])
      [(0, .box [.str ⟨#[]⟩, .nil, .nil, .int .i64 0, .nil]), (1, .box [.sl r.length t (flat encB r)]), (2, .box [.str tx, .own 3 3 0 acc.length, .nil, .int .i64 0, .nil]), (3, .row (flat encO acc))] 0 4 _) k 0 [] (b1.drop 1) (by omega) rfl rfl (by rw [List.drop_drop]))
  intro m
  induction m with
  | zero =>
    intro i acc r hi hal hacc hr
    simp only [objs, List.append_nil, Nat.mul_zero, List.drop_zero] at hacc hr
    obtain rfl : i = k := by omega
    conv => arg 3; simp only [mkT, putT, List.reduceReplicate, List.set]
    refine EVgl2 (tm8) (s32 hcf r t) trivial trivial trivial ?_
    generalize hb2 : b1.drop (1 + 4 * i) = b2 at hr
    subst hr
    generalize hj : hd r % 8 = j
    have hj8 : j < 8 := by omega
    refine WC.loop (T' := _) (H' := _) (n' := _) rfl ((?_ : ∀ (m a : Nat) (ts : List (ByteArray × Int)) (q : List UInt8), a + m = j → ts.length = a → ts ++ tasks m q = tasks j (r.drop 1) → tasksR m q = tasksR j (r.drop 1) →
      WC cf _ (mkT 63 [(2, .ptr 0 0), (3, .ptr 1 0), (5, .ptr 2 0), (27, .int .i64 (j : Nat)), (28, .int .i64 (a : Nat))])
        [(0, .box [.str ⟨#[]⟩, .nil, .nil, .int .i64 0, .nil]), (1, .box [.sl q.length t (flat encB q)]), (2, .box [.str tx, .own 3 3 0 acc.length, .own 4 2 0 ts.length, .int .i64 0, .nil]), (3, .row (flat encO acc)), (4, .row (flat encT ts))] 0 5 _) j 0 [] (r.drop 1) (by omega) rfl rfl rfl)
    intro m
    induction m with
    | zero =>
      intro a ts q ha hts htk hq
      simp only [tasks, tasksR, List.append_nil] at htk hq
      obtain rfl : a = j := by omega
      conv => arg 3; simp only [mkT, putT, List.reduceReplicate, List.set]
      have h1 : IntKind.i64.wrap (1 + (hd q : Int)) = ((1 + hd q : Nat) : Int) := by
        have := hd_lt q
        rw [i64_in _ (by omega)]; simp
      refine EVgl2 (h1) (s32 hcf q t) (s31 hcf (q.drop 1) t 4000) trivial trivial ?_
      generalize hcs : (q.drop 1).take 4000 = cs
      have hcl : cs.length ≤ 4000 := by rw [← hcs]; simp; omega
      refine WC.loop (T' := _) (H' := _) (n' := _) rfl ((?_ : ∀ (m c : Nat) (ch : List (Bool × Int × Bool)), c + m = cs.length → ch = (cs.take c).map choice →
        WC cf _ (mkT 63 [(2, .ptr 0 0), (5, .ptr 1 0), (40, .sl cs.length true (flat encB cs)), (41, .int .i64 (cs.length : Nat)), (42, .int .i64 (c : Nat))])
          [(0, .box [.str ⟨#[]⟩, .nil, .nil, .int .i64 0, .nil]), (1, .box [.str tx, .own 2 3 0 acc.length, .own 3 2 0 ts.length, .int .i64 ((1 + hd q : Nat) : Int), .own 4 3 0 ch.length]), (2, .row (flat encO acc)), (3, .row (flat encT ts)), (4, .row (flat encC ch))] 0 5 _) cs.length 0 [] (by omega) rfl)
      intro m
      induction m with
      | zero =>
        intro c ch hc hch
        obtain rfl : c = cs.length := by omega
        conv => arg 3; simp only [mkT, putT, List.reduceReplicate, List.set]
        refine EVgl2 trivial trivial trivial trivial trivial ?_
        have hg : get l = ⟨tx, acc, ts, ((1 + hd q : Nat) : Int), ch⟩ := by
          unfold get
          simp only [hN, hb1, hk, hb2, hj, ← hacc, ← htk, ← hq, hcs, htx]
          rw [hch, List.take_length]
        rw [hg]
        exact WQ.ret rfl
      | succ m ih =>
        intro c ch hc hch
        have hlt : (c : Int) < (cs.length : Int) := by omega
        have hlt' : c < cs.length := by omega
        have hw := objs_bound cs.length c m (by omega) (by omega)
        have hal : ch.length = c := by rw [hch]; simp; omega
        have e1 : (flat encC ch).take (ch.length * 3) = flat encC ch := List.take_of_length_le (by rw [lenC]; omega)
        have e0 : List.drop c (flat encB cs) = .int .u8 cs[c].toNat :: flat encB (cs.drop (c + 1)) := by
          have := flat_at encB_len hlt'
          rw [Nat.mul_one] at this
          rw [this]; rfl
        generalize hb : cs[c] = b at e0
        conv => arg 3; simp only [mkT, putT, List.reduceReplicate, List.set]
        refine EVgo2 (And.intro (hlt) ( And.intro (hw) ( And.intro (lenC) ( And.intro (e1) ( And.intro (e0) ( And.intro (wB) ( And.intro (f1) ( And.intro (f2) (f3))))))))) trivial trivial trivial trivial ?_
        have e2 : ∀ x y z, flat encC ch ++ [.bool x, .int .i64 y, .bool z] = flat encC (ch ++ [(x, y, z)]) := fun x y z => by rw [flat_append]; rfl
        have e3 : ∀ o, ch.length + 1 = (ch ++ [o]).length := fun o => by simp
        rw [e2, e3]
        refine WC.loop rfl (ih (c + 1) _ (by omega) ?_)
        rw [hch, List.take_succ_eq_append_getElem hlt', List.map_append, hb]
        rfl
    | succ m ih =>
      intro a ts q ha hts htk hq
      have hlt : (a : Int) < (j : Int) := by omega
      have hw := objs_bound j a m (by omega) (by omega)
      have e1 : (flat encT ts).take (ts.length * 2) = flat encT ts := List.take_of_length_le (by rw [lenT]; omega)
      conv => arg 3; simp only [mkT, putT, List.reduceReplicate, List.set]
      refine EVgo2 (And.intro (hlt) ( And.intro (hw) ( And.intro (lenT) (e1)))) (s34 hcf q t) trivial trivial trivial ?_
      have e2 : ∀ x y, flat encT ts ++ [.str x, .int .i64 y] = flat encT (ts ++ [(x, y)]) := fun x y => by rw [flat_append]; rfl
      have e3 : ∀ o, ts.length + 1 = (ts ++ [o]).length := fun o => by simp
      rw [e2, e3]
      refine WC.loop rfl (ih (a + 1) _ (q.drop (2 + hd q % 32)) (by omega) (by simp [hts]) ?_ ?_)
      · simpa [tasks] using htk
      · simpa [tasksR] using hq
  | succ m ih =>
    intro i acc r hi hal hacc hr
    have hlt : (i : Int) < (k : Int) := by omega
    have hw := objs_bound k i m (by omega) (by omega)
    conv => arg 3; simp only [mkT, putT, List.reduceReplicate, List.set]
    have e1 : (flat encO acc).take (acc.length * 3) = flat encO acc := List.take_of_length_le (by rw [lenO]; omega)
    refine EVgo2 (And.intro (hlt) ( And.intro (hw) ( And.intro (lenO) (e1)))) (s33 hcf r t) trivial trivial trivial ?_
    have e2 : ∀ x y z, flat encO acc ++ [.int .i64 x, .int .i64 y, .int .i64 z] = flat encO (acc ++ [(x, y, z)]) := fun x y z => by rw [flat_append]; rfl
    have e3 : ∀ o, acc.length + 1 = (acc ++ [o]).length := fun o => by simp
    rw [e2, e3]
    refine WC.loop rfl (ih (i + 1) _ (r.drop 4) (by omega) (by simp [hal]) ?_ ?_)
    · simpa [objs] using hacc
    · rw [List.drop_drop, ← hr]
      congr 1
      omega
end
end Go.Proofs.YthmfjkakpefkeaaR
