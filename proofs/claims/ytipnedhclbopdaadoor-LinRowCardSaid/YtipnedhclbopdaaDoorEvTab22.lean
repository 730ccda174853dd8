/- The row's laid tables: the witness; what the walk asks. -/
import Derived.Test.YtipnedhclbopdaaDoorRows
import Derived.Test.YtipnedhclbopdaaDoorEv4
import Derived.ChangeSame
import Derived.ChangeVars
import Derived.JoinedOf
import Derived.RowKit
import Derived.RowKitTokens
import Derived.LaidLaws
import Derived.LaidHandle
import Derived.Lib.LaidTab
import Derived.Stop.Joined
import Derived.Stop.LaidErr
import Derived.MakeChecks
import Derived.KernelRfl
set_option linter.unusedSimpArgs false
set_option linter.unusedVariables false
namespace Go.Proofs.YtipnedhclbopdaaDoorR
open Go Go.Proofs.YtipnedhclbopdaaDoorEv Go.Proofs Go.Proofs.YtipnedhclbopdaaDoor Go.RowKit
def tabB32 : Array Value := #[0, 1, 28, 2, 29, 14, 24, 3, 30, 22, 20, 15, 25, 17, 4, 8, 31, 27, 13, 23, 21, 19, 16, 7, 26, 12, 18, 6, 11, 5, 10, 9].map fun (z : Int) => Value.int .u8 z
def tabB64 : Array Value := #[0, 1, 56, 2, 57, 49, 28, 3, 61, 58, 42, 50, 38, 29, 17, 4, 62, 47, 59, 36, 45, 43, 51, 22, 53, 39, 33, 30, 24, 18, 12, 5, 63, 55, 48, 27, 60, 41, 37, 16, 46, 35, 44, 21, 52, 32, 23, 11, 54, 26, 40, 15, 34, 20, 31, 10, 25, 14, 19, 9, 13, 8, 7, 6].map fun (z : Int) => Value.int .u8 z
def relay (c : Array Value) : Obj → Obj
  | .cells _ t frozen => .cells c t frozen
  | o => o
/-- the settled world, the three tables laid -/
noncomputable def laidWorld (os : Os) : World :=
  { World.holding Tryd.prog os ⟨#[], #[], []⟩ with heap := (((World.holding Tryd.prog os ⟨#[], #[], []⟩).heap.modify 0 (relay tabC)).modify 1 (relay tabB32)).modify 2 (relay tabB64) }
theorem laid_met (os : Os) (args : Array Value) : laidMetH Tryd.prog Rows.linBoundsRow.laid ((laidWorld os).forCall (fun _ _ => 0) ⟨#[], args, []⟩).memory := by
  rw [Go.MakeChecks.laidMetH_plain _ _ _ (by kernel_rfl)]
  exact laidMet_of_run' 8 (by kernel_rfl) (by kernel_rfl)
theorem tab_of_laid {W : World} (h : laidMetH Tryd.prog Rows.linBoundsRow.laid W) : TabF W F0 := by
  rw [Go.MakeChecks.laidMetH_plain _ _ _ (by kernel_rfl)] at h
  have h2 : laidMet Tryd.prog [("internal/strconv.uint64pow10", Lib.tabData .u64 Lib.pow10Tab)] W := h.tail.tail
  have ht := Lib.tabIs_of_head (P := Tryd.prog) (g := 0) (t := 70) (e := 60) (n := 20) (by kernel_rfl) (by kernel_rfl) Tryd.underlying70 Tryd.underlying60 (by kernel_rfl) (by kernel_rfl) h2
  have hg : Tryd.prog.globalNamed "internal/strconv.uint64pow10" = some 0 := by kernel_rfl
  unfold Lib.TabIs World.var? at ht
  rw [hg] at ht
  simp only [Option.bind_some] at ht
  cases hb : W.heap[0]? with
  | none => rw [hb] at ht; cases ht
  | some o =>
    rw [hb] at ht
    cases o <;> simp only at ht <;> try (cases ht; done)
    next cs el fz =>
      obtain rfl := Option.some.inj ht
      exact ⟨⟨el, fz, hb⟩, fun q => q⟩
end Go.Proofs.YtipnedhclbopdaaDoorR
