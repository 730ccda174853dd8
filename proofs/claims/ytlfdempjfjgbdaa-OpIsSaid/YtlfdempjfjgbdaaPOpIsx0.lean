-- Written by this session's wip/gen.py (it drives the kit's print over a plain variation's bodies of some functions; their contracts are proved by hand).
import Derived.Test.YtlfdempjfjgbdaaProg
import Derived.Below
import Derived.Deep.Draws
import Derived.Deep.AppendLies
import Derived.Maps.AppendAt
import Derived.OwnWalk
import Derived.Laws.BytesArg
import Derived.Laws.MakeOwn
import Derived.Laws.OwnMore
import Derived.Deep.OwnRows
import Derived.Tactics
import Derived.Lib.ConvBytes
import Derived.Laws.Slices
import Derived.WalkKit
import Derived.KernelRfl
import Derived.RowKit3
import Derived.Deep.LoopGhost
import Derived.Deep.QuietTactic
import Derived.BigQuiet
import Derived.WideLaws
import Derived.Deep.DeepCutAuto
import Derived.Deep.CutBlock
import Derived.Deep.RegionHeld3
import Derived.Laws.Rows
import Derived.Lib.AppendStr
import Derived.ArgAppend
import Derived.Laws.IdiomCopy
import Derived.OrdersHeld
import Derived.Laws.BitsLemmas
import Derived.RowKit
import Derived.Test.YtlfdempjfjgbdaaHBytes
import Derived.Test.YtlfdempjfjgbdaaWWords
import Derived.Test.YtlfdempjfjgbdaaWLast
import Derived.Test.YtlfdempjfjgbdaaWTab
import Derived.Test.YtlfdempjfjgbdaaWFour
import Derived.Test.YtlfdempjfjgbdaaWQPut
import Derived.Test.YtlfdempjfjgbdaaWApart
import Derived.Test.YtlfdempjfjgbdaaWArr
import Derived.Test.YtlfdempjfjgbdaaWZeros
import Derived.Test.YtlfdempjfjgbdaaWFoot
import Derived.Test.YtlfdempjfjgbdaaWKept
import Derived.Test.YtlfdempjfjgbdaaWShare
import Derived.Test.YtlfdempjfjgbdaaWN
import Derived.Test.YtlfdempjfjgbdaaWFootNe
import Derived.Test.YtlfdempjfjgbdaaWAt
import Derived.Test.YtlfdempjfjgbdaaWEqStruct
import Derived.Test.YtlfdempjfjgbdaaWRepsOne
import Derived.Test.YtlfdempjfjgbdaaWInv
import Derived.Test.YtlfdempjfjgbdaaWInvWords
import Derived.Test.YtlfdempjfjgbdaaWGuard
import Derived.Test.YtlfdempjfjgbdaaWNEv
import Derived.Test.YtlfdempjfjgbdaaWMore
namespace Go.Proofs.Ytlfdempjfjgbdaa.POpIs
open Go.RowKit Go.Proofs.YtlfdempjfjgbdaaW.PrintWords Go.Proofs.YtlfdempjfjgbdaaW.PrintLast Go.Proofs.YtlfdempjfjgbdaaW.PrintMore
attribute [local go_sem] max2_int min2_int max_two min_two max_three min_three max_four min_four   -- for this text's walks alone
set_option linter.unusedVariables false
set_option linter.unusedSimpArgs false



def errW : Option Int → Value
  | none => .nilIface
  | some c => .iface 0 (.int .i64 c)
theorem errW_none : errW none = .nilIface := rfl
theorem errW_some (c : Int) : errW (some c) = .iface 0 (.int .i64 c) := rfl

theorem info5 : (Try.prog.info? 5).map (fun i => (i.zero, i.size, i.bytes)) = some (some (.int .u8 0), 1, 1) := by kernel_rfl
theorem info9 : (Try.prog.info? 9).map (fun i => (i.zero, i.size, i.bytes)) = some (some (.string ⟨#[]⟩), 1, 16) := by kernel_rfl
-- the values' own types

end Go.Proofs.Ytlfdempjfjgbdaa.POpIs
