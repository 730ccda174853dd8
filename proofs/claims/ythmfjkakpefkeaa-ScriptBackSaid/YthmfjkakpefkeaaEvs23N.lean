/- Evs23N: a part of the proof. -/
import Derived.Test.YthmfjkakpefkeaaEvs23K
open Go Go.Proofs.YthmfjkakpefkeaaEv Go.Proofs.YthmfjkakpefkeaaR Go.IntWalk
set_option maxRecDepth 20000
set_option maxHeartbeats 8000000
set_option linter.unusedVariables false
set_option linter.unusedSimpArgs false
namespace Go.Proofs.YthmfjkakpefkeaaR
section
variable {cf : CF} (hcf : cf = ev env)
include hcf
theorem s16 (l : List UInt8) (t : Bool) : cf 16 [.sl l.length t (flat encB l)] [] = some (outS (get l)) := by
  refine ev_ofC' hcf env16 ?_
  conv => arg 2; simp only [ir16]
  conv => arg 3; simp only [ir16, Go.Proofs.YthmfjkakpefkeaaEv.start, List.length, Nat.reduceAdd, Nat.reduceSub, List.reduceReplicate, List.append_eq, List.cons_append, List.nil_append]
  conv => arg 4; simp only [heapOf]
  try conv => arg 5; simp only [List.length, Nat.reduceAdd]
  try conv => arg 6; simp only [List.length, Nat.reduceAdd]
  refine EVgo9 (And.intro (tm2001) (tm5)) (s35 hcf l t) (s36 hcf (l.drop 2) t ((hd l * 256 + hd (l.drop 1)) % 2001)) (s37 hcf (l.drop (2 + (hd l * 256 + hd (l.drop 1)) % 2001)) t) trivial trivial trivial trivial trivial trivial trivial trivial ?_
  generalize hN : (hd l * 256 + hd (l.drop 1)) % 2001 = N
  generalize hb1 : l.drop (2 + N) = b1
  have hb1' : l.drop (2 + N + 1) = b1.drop 1 := by rw [← hb1, List.drop_drop]
  rw [hb1']
  generalize hk : hd b1 % 5 = k
  have hk5 : k < 5 := by omega
  generalize htx : (ByteArray.mk (List.take N (List.drop 2 l)).toArray) = tx
  refine WC.loop (T' := _) (H' := _) (n' := _) rfl ((?_ : ∀ (m i : Nat) (acc : List (Int × Int × Int)) (r : List UInt8), i + m = k → acc.length = i → acc ++ objs m r = objs k (b1.drop 1) → r.drop (4 * m) = b1.drop (1 + 4 * k) →
    WC cf _ (mkT 105 [(2, .ptr 0 0), (3, .ptr 1 0), (4, .int .i64 (k : Nat)), (5, .ptr 2 0), (6, .int .i64 (i : Nat))])
      [(0, .box [.str ⟨#[]⟩, .nil, .nil, .int .i64 0, .nil]), (1, .box [.sl r.length t (flat encB r)]), (2, .box [.str tx, .own 3 3 0 acc.length, .nil, .int .i64 0, .nil]), (3, .row (flat encO acc))] 0 4 _) k 0 [] (b1.drop 1) (by omega) rfl rfl (by rw [List.drop_drop]))
  intro m
  induction m with
  | zero =>
    intro i acc r hi hal hacc hr
    simp only [objs, List.append_nil, Nat.mul_zero, List.drop_zero] at hacc hr
    obtain rfl : i = k := by omega
    conv => arg 3; simp only [mkT, putT, List.reduceReplicate, List.set]
    refine EVgl2 (tm8) (s37 hcf r t) trivial trivial trivial ?_
    generalize hb2 : b1.drop (1 + 4 * i) = b2 at hr
    subst hr
    generalize hj : hd r % 8 = j
    have hj8 : j < 8 := by omega
    refine WC.loop (T' := _) (H' := _) (n' := _) rfl ((?_ : ∀ (m a : Nat) (ts : List (ByteArray × Int)) (q : List UInt8), a + m = j → ts.length = a → ts ++ tasks m q = tasks j (r.drop 1) → tasksR m q = tasksR j (r.drop 1) →
      WC cf _ (mkT 105 [(2, .ptr 0 0), (3, .ptr 1 0), (4, .int .i64 (j : Nat)), (5, .ptr 2 0), (8, .int .i64 (a : Nat))])
        [(0, .box [.str ⟨#[]⟩, .nil, .nil, .int .i64 0, .nil]), (1, .box [.sl q.length t (flat encB q)]), (2, .box [.str tx, .own 3 3 0 acc.length, .own 4 2 0 ts.length, .int .i64 0, .nil]), (3, .row (flat encO acc)), (4, .row (flat encT ts))] 0 5 _) j 0 [] (r.drop 1) (by omega) rfl rfl rfl)
    intro m
    induction m with
    | zero =>
      intro a ts q ha hts htk hq
      simp only [tasks, tasksR, List.append_nil] at htk hq
      obtain rfl : a = j := by omega
      conv => arg 3; simp only [mkT, putT, List.reduceReplicate, List.set]
      have h1 : IntKind.i64.wrap (1 + (hd q : Int)) = ((1 + hd q : Nat) : Int) := by
        have := hd_lt q
        rw [i64_in _ (by omega)]; simp
      refine EVgl2 (h1) (s37 hcf q t) trivial trivial trivial ?_
      generalize hsl : ((1 + hd q : Nat) : Int) = sl
      refine WC.loop (T' := _) (H' := _) (n' := _) rfl ((?_ : ∀ (m : Nat) (s : List UInt8) (ch : List (Bool × Int × Bool)), s.length = m → ch.length ≤ 4000 → ch ++ (s.take (4000 - ch.length)).map choice = ((q.drop 1).take 4000).map choice →
        WC cf _ (mkT 105 [(2, .ptr 0 0), (3, .ptr 1 0), (5, .ptr 2 0)])
          [(0, .box [.str ⟨#[]⟩, .nil, .nil, .int .i64 0, .nil]), (1, .box [.sl s.length t (flat encB s)]), (2, .box [.str tx, .own 3 3 0 acc.length, .own 4 2 0 ts.length, .int .i64 sl, .own 5 3 0 ch.length]), (3, .row (flat encO acc)), (4, .row (flat encT ts)), (5, .row (flat encC ch))] 0 6 _) (q.drop 1).length (q.drop 1) [] rfl (by simp) rfl)
      have done : ∀ ch, ch = ((q.drop 1).take 4000).map choice → get l = ⟨tx, acc, ts, sl, ch⟩ := fun ch hch => by
        unfold get
        simp only [hN, hb1, hk, hb2, hj, ← hacc, ← htk, ← hq, htx, hsl]
        rw [hch]
      intro m
      induction m with
      | zero =>
        intro s ch hsm hch hfin
        obtain rfl : s = [] := List.eq_nil_of_length_eq_zero hsm
        simp only [List.take_nil, List.map_nil, List.append_nil] at hfin
        rw [done ch hfin]
        conv => arg 3; simp only [mkT, putT, List.reduceReplicate, List.set]
        refine EVgl2 trivial trivial trivial trivial trivial ?_
        exact WQ.ret rfl
      | succ m ih =>
        intro s ch hsm hch hfin
        obtain ⟨b, s', rfl⟩ : ∃ b s', s = b :: s' := by
          cases s with
          | nil => simp at hsm
          | cons b s' => exact ⟨b, s', rfl⟩
        have hpos : (0 : Int) < ((b :: s').length : Int) := by simp only [List.length_cons]; omega
        have hpos' : (0 : Int) < ((s'.length + 1 : Nat) : Int) := by omega
        by_cases h4 : (ch.length : Int) < 4000
        · have h37 : cf 37 [.ptr 0 0] [rd (b :: s') t] = some (.int .i64 (b.toNat : Int), [rd s' t]) := s37 hcf (b :: s') t
          unfold rd at h37
          have e1 : (flat encC ch).take (ch.length * 3) = flat encC ch := List.take_of_length_le (by rw [lenC]; omega)
          conv => arg 3; simp only [mkT, putT, List.reduceReplicate, List.set]
          refine EVgo2 (And.intro (hpos) ( And.intro (hpos') ( And.intro (h4) ( And.intro (g1) ( And.intro (g2) ( And.intro (f3) ( And.intro (e1) (lenC)))))))) (h37) trivial trivial trivial ?_
          have e2 : ∀ x y z, flat encC ch ++ [.bool x, .int .i64 y, .bool z] = flat encC (ch ++ [(x, y, z)]) := fun x y z => by rw [flat_append]; rfl
          have e3 : ∀ o, ch.length + 1 = (ch ++ [o]).length := fun o => by simp
          rw [e2, e3]
          refine WC.loop rfl (ih s' _ (by simpa using hsm) (by simp; omega) ?_)
          rw [← hfin]
          have e5 : 4000 - ch.length = (4000 - (ch.length + 1)) + 1 := by omega
          rw [e5, List.take_succ_cons, List.map_cons, List.length_append, List.append_assoc]
          rfl
        · have e5 : 4000 - ch.length = 0 := by omega
          rw [e5, List.take_zero, List.map_nil, List.append_nil] at hfin
          rw [done ch hfin]
          conv => arg 3; simp only [mkT, putT, List.reduceReplicate, List.set]
          refine EVgo2 (And.intro (hpos) ( And.intro (hpos') (h4))) trivial trivial trivial trivial ?_
          exact WQ.ret rfl
    | succ m ih =>
      intro a ts q ha hts htk hq
      have hlt : (a : Int) < (j : Int) := by omega
      have hw := objs_bound j a m (by omega) (by omega)
      have e1 : (flat encT ts).take (ts.length * 2) = flat encT ts := List.take_of_length_le (by rw [lenT]; omega)
      have e9 : 1 + hd q % 32 + 1 = 2 + hd q % 32 := by omega
      conv => arg 3; simp only [mkT, putT, List.reduceReplicate, List.set]
      refine EVgo9 (And.intro (hlt) ( And.intro (hw) ( And.intro (lenT) ( And.intro (e1) ( And.intro (tm32) (tm5)))))) (s37 hcf q t) (s36 hcf (q.drop 1) t (hd q % 32)) (s37 hcf (q.drop (1 + hd q % 32)) t) trivial trivial trivial trivial trivial trivial trivial trivial ?_
      have e2 : ∀ x y, flat encT ts ++ [.str x, .int .i64 y] = flat encT (ts ++ [(x, y)]) := fun x y => by rw [flat_append]; rfl
      have e3 : ∀ o, ts.length + 1 = (ts ++ [o]).length := fun o => by simp
      rw [e2, e3, e9]
      refine WC.loop rfl (ih (a + 1) _ (q.drop (2 + hd q % 32)) (by omega) (by simp [hts]) ?_ ?_)
      · simpa [tasks] using htk
      · simpa [tasksR] using hq
  | succ m ih =>
    intro i acc r hi hal hacc hr
    have hlt : (i : Int) < (k : Int) := by omega
    have hw := objs_bound k i m (by omega) (by omega)
    conv => arg 3; simp only [mkT, putT, List.reduceReplicate, List.set]
    have e1 : (flat encO acc).take (acc.length * 3) = flat encO acc := List.take_of_length_le (by rw [lenO]; omega)
    refine EVgo9 (And.intro (hlt) ( And.intro (hw) ( And.intro (lenO) ( And.intro (e1) (tm4))))) (s37 hcf r t) (s35 hcf (r.drop 1) t) (s37 hcf (r.drop 3) t) trivial trivial trivial trivial trivial trivial trivial trivial ?_
    have e2 : ∀ x y z, flat encO acc ++ [.int .i64 x, .int .i64 y, .int .i64 z] = flat encO (acc ++ [(x, y, z)]) := fun x y z => by rw [flat_append]; rfl
    have e3 : ∀ o, acc.length + 1 = (acc ++ [o]).length := fun o => by simp
    rw [e2, e3]
    refine WC.loop rfl (ih (i + 1) _ (r.drop 4) (by omega) (by simp [hal]) ?_ ?_)
    · simpa [objs] using hacc
    · rw [List.drop_drop, ← hr]
      congr 1
      omega
end
end Go.Proofs.YthmfjkakpefkeaaR
