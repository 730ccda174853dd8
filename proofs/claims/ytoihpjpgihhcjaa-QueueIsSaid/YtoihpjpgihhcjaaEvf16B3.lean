/- slices.Delete as a prim. -/
import Derived.Test.YtoihpjpgihhcjaaEvf16B2
open Go Go.Proofs.YtoihpjpgihhcjaaEv Go.RowKit Go.Shelf Go.Proofs Go.Lib
set_option linter.unusedVariables false
set_option linter.unusedSimpArgs false
namespace Go.Proofs.YtoihpjpgihhcjaaR
def delG : List PV → List (Option Blk) → Option (PV × List (Option Blk)) := fun args H =>
  match args, H with
  | [.own 0 3 0 n, .int .i64 i, .int .i64 j], [some (.row cs)] =>
    if 0 ≤ i ∧ j = i + 1 ∧ i.toNat < n ∧ n ≤ 1000000 ∧ cs.length = n * 3 then
      some (.own 0 3 0 (n - 1), [some (.row (cs.take (i.toNat * 3) ++ cs.drop ((i.toNat + 1) * 3)))])
    else none
  | _, _ => none
theorem del_ok (args : List PV) (H : List (Option Blk)) (r : PV) (H' : List (Option Blk)) (h : delG args H = some (r, H')) : FSpec Try.prog 44 args H r H' := by
  unfold delG at h
  split at h
  · next n i j cs =>
    split at h
    · next hc =>
      obtain ⟨hi0, hij, hin, hn6, hcl⟩ := hc
      cases h
      obtain ⟨k, rfl⟩ : ∃ k : Nat, i = k := ⟨i.toNat, by omega⟩
      obtain rfl : j = ((k + 1 : Nat) : Int) := by omega
      rw [Int.toNat_natCast] at *
      intro w O M F vs hv hI hO
      rcases hv with _ | ⟨h0, tl⟩
      rcases tl with _ | ⟨h1, tl⟩
      rcases tl with _ | ⟨h2, tl⟩
      cases tl
      obtain rfl := h1.int_inv
      obtain rfl := h2.int_inv
      rcases h0.own_inv with ⟨base, rfl, rfl⟩ | ⟨b, el, nn, cap, rfl, hO0, hsh0, hle0, hf0⟩
      · omega
      rcases hI.blk 0 (.row cs) rfl with ⟨_, q⟩ | ⟨b', c, el', fz, us, q1, q2, q3, q4, q5, q6, q7, q8⟩
      · rw [hO0] at q; cases q
      rw [hO0] at q1
      cases q1
      have hsz : nn = c.size := by rw [shape_of q3] at hsh0; cases hsh0; rfl
      subst hsz
      have hul : us.length = n * 3 := by have := q5.length; omega
      have hus : us.length ≤ c.size := by have := q8.length_le; simpa using this
      have hdl : (us.drop ((k + 1) * 3)).length = (n - 1 - k) * 3 := by rw [List.length_drop, hul]; omega
      refine (del_one b n cap k us w hin hle0 hul (cells_pre q3 q8) (fun j hj => frozen_of q3 q4 _ (by omega)) q6).mono ?_
      rintro e w' ⟨rfl, rfl⟩
      obtain ⟨c1, r1, r2, r3, r4⟩ := setCells_heap (us.drop ((k + 1) * 3)) (k * 3) w.drew c q3 (by rw [hdl]; omega)
      obtain ⟨c2, t1, t2, t3, t4⟩ := setCells_heap [.int .i64 0, .int .i64 0, .int .i64 0] ((n - 1) * 3) _ c1 r1 (by rw [r2]; simp; omega)
      have hs : Stp (fun x => x = b) w ((w.drew.setCells b (k * 3) (us.drop ((k + 1) * 3))).setCells b ((n - 1) * 3) [.int .i64 0, .int .i64 0, .int .i64 0]) := ((Stp.drew w).mono fun _ _ q => q.elim).trans (r4.trans t4 fun _ _ q => q) fun _ _ q => q
      have hsM : Stp M w _ := hs.mono fun x _ q => q ▸ q2
      have hsF : Stp F w _ := hs.mono fun x _ q => q ▸ hI.sub b q2
      refine ⟨_, rfl, O, M, F, .own hO0 (shape_of t1) (by omega) (by rw [t2, r2]; omega), ⟨fun id B hB => ?_, fun x hx => Nat.lt_of_lt_of_le (hI.mlt x hx) hs.size, hI.sub, fun i j x B C hB hC hi hj => ?_⟩, hsM, fun _ _ => rfl, fun _ _ q => q, fun _ _ q => q, fun _ q _ => q, fun id x B hB hx => ?_⟩
      · rw [hget_heapOf] at hB
        match id, hB with
        | 0, hB =>
          simp at hB
          subst hB
          refine .inr ⟨b, c2, el', fz, us.take (k * 3) ++ us.drop ((k + 1) * 3), hO0, q2, t1, by rw [t2, r2]; exact q4, (VRs.step hsF (fun _ _ q => q) (fun _ _ q => q) (q5.take _)).append (VRs.step hsF (fun _ _ q => q) (fun _ _ q => q) (q5.drop _)), fun v hv => ?_, closedL_append (closedL_take _ q7) (closedL_drop _ q7), ?_⟩
          · rcases List.mem_append.1 hv with hv | hv
            · exact q6 v (List.mem_of_mem_take hv)
            · exact q6 v (List.mem_of_mem_drop hv)
          · have e1 : c1.toList.take ((n - 1) * 3) = us.take (k * 3) ++ us.drop ((k + 1) * 3) := by
              rw [r3, take_pre q8 (by omega)]
              exact List.take_left' (by rw [List.length_append, hdl, List.length_take, hul]; omega)
            rw [t3, e1, List.append_assoc]
            exact List.prefix_append _ _
        | m + 1, hB => simp at hB
      · rw [hget_heapOf] at hB hC
        match i, j, hB, hC with
        | 0, 0, _, _ => rfl
        | 0, m + 1, _, hC => simp at hC
        | m + 1, _, hB, _ => simp at hB
      · rw [hget_heapOf] at hB
        match id, hB with
        | 0, _ => exact .inr ⟨0, .row cs, rfl, hx⟩
        | m + 1, hB => simp at hB
    · cases h
  · cases h
end Go.Proofs.YtoihpjpgihhcjaaR
