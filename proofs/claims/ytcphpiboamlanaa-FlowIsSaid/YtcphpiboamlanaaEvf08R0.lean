/- Evf08R0: a part of the proof. -/
import Derived.Test.YtcphpiboamlanaaEvf08Q
open Go Go.Proofs.YtcphpiboamlanaaEv Go.Proofs.YtcphpiboamlanaaR Go.IntWalk
set_option maxRecDepth 20000
set_option maxHeartbeats 8000000
set_option linter.unusedVariables false
set_option linter.unusedSimpArgs false
namespace Go.Proofs.YtcphpiboamlanaaR
/-- the thirteen words that lead -/
def wordF : Nat → Wf
  | 0 => openW 2 1 0
  | 1 => elseW
  | 2 => thenW
  | 3 => beginW
  | 4 => backW 1 2
  | 5 => backW 2 2
  | 6 => whileW
  | 7 => repeatW
  | 8 => openW 5 3 1
  | 9 => mayW
  | 10 => closeW 7
  | 11 => closeW 8
  | _ => leaveW
def wordB (b : Bd) (s : ByteArray) : Bd × Bool × Int := if wordK s = -1 then (ownB b, false, 0) else if (wordF (wordK s).toNat (ownB b)).1 = 0 then ((wordF (wordK s).toNat (ownB b)).2, true, 0) else (ownB b, true, (wordF (wordK s).toNat (ownB b)).1)
def encWord (x : Bd × Bool × Int) : PV := .tup [bE x.1, .bool x.2.1, .int .i64 x.2.2]
end Go.Proofs.YtcphpiboamlanaaR
