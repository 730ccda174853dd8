/-
  No cell of these rows narrows 'for every input' (looked for: loops, veiled, ifaces, maps, wideKeys, modest, calm, conditions, laid).
  DERIVED. THE GIVEN ROWS OF THIS SEAT. 3 by the template 'for every input the law returns true; each argument reads behind the call as it read before'; 0 by the template 'total and deterministic' (their statements: YthmfjkakpefkeaaTotals.lean).
  GIVEN WITH THE SEED: the statements are not yours to turn. If you find one false, say at which input.
  Laid BY PROGRAM, IN A SANDBOX (cutbox-rows.mjs): the forced cells as the released guide's own fill.sh prints them over the translation 0bf6756b6436151e… (all of the seat's roots in one cut). By AI agents, Wed Nov 11 2026. No macro, syntax, notation, axiom, sorry.
-/
import Derived.Test.YthmfjkakpefkeaaChecked
import GoSem.Claim
import GoSem.ClaimJoined
import GoSem.ClaimMapViews
import Derived.JoinedTies
import Derived.KernelRfl
namespace Go.Proofs.Ythmfjkakpefkeaa
/- THE CELL 'sum', in the pinned program and in every row, IS THE sha256 OF THE DUMP (.gsa) THAT YthmfjkakpefkeaaProg.lean LOADS. Nothing in Lean hashes anything: it is a label: what it is worth is what the hold of that sum in a sandbox is worth. -/
noncomputable def Try.pinned : Pinned := { name := "ythmfjkakpefkeaa", sum := "0bf6756b6436151e3e89b72246314fa4f749fb16beee53df057cfdd8869f1eb5", checked := Try.checked }
namespace Rows
def none {H : Type} : Left H := { results := [], args := [] }

/-- 'tenterhooklaw23.ScriptIs': WHATEVER THE INPUT: true; the input reads as it did. -/
def scriptIsSpec : ChangeSpec := { name := "scriptIs", fn := fun _ => fun
  | [d1, d2] => { results := [.lit (.bool true)], args := [d1, d2] }
  | _ => none }
def scriptIsRow : OpenClaim := { program := "ythmfjkakpefkeaa", sum := "0bf6756b6436151e3e89b72246314fa4f749fb16beee53df057cfdd8869f1eb5", func := "tenterhook/tenterhooklaw23.ScriptIs", spec := "scriptIs", unfollowed := true, recurses := true, apart := false }
def ScriptIsSaid : Prop := scriptIsRow.holds Try.pinned (OpenSpec.ofChange scriptIsSpec)

/-- ITS FALSE NEIGHBOUR: 'it returns false'. Refute it at one input. -/
def scriptIsWrong : ChangeSpec := { name := "scriptIs", fn := fun _ => fun
  | [d1, d2] => { results := [.lit (.bool false)], args := [d1, d2] }
  | _ => none }
def ScriptIsWrongFalsely : Prop := scriptIsRow.holds Try.pinned (OpenSpec.ofChange scriptIsWrong)

/-- 'tenterhooklaw23.ScriptBack': WHATEVER THE INPUT: true; the input reads as it did. -/
def scriptBackSpec : ChangeSpec := { name := "scriptBack", fn := fun _ => fun
  | [d] => { results := [.lit (.bool true)], args := [d] }
  | _ => none }
def scriptBackRow : OpenClaim := { program := "ythmfjkakpefkeaa", sum := "0bf6756b6436151e3e89b72246314fa4f749fb16beee53df057cfdd8869f1eb5", func := "tenterhook/tenterhooklaw23.ScriptBack", spec := "scriptBack", unfollowed := true, recurses := true, apart := false }
def ScriptBackSaid : Prop := scriptBackRow.holds Try.pinned (OpenSpec.ofChange scriptBackSpec)

/-- ITS FALSE NEIGHBOUR: 'it returns false'. Refute it at one input. -/
def scriptBackWrong : ChangeSpec := { name := "scriptBack", fn := fun _ => fun
  | [d] => { results := [.lit (.bool false)], args := [d] }
  | _ => none }
def ScriptBackWrongFalsely : Prop := scriptBackRow.holds Try.pinned (OpenSpec.ofChange scriptBackWrong)

/-- 'tenterhooklaw23.ScriptGood': WHATEVER THE INPUT: true; the input reads as it did. -/
def scriptGoodSpec : ChangeSpec := { name := "scriptGood", fn := fun _ => fun
  | [d1, d2] => { results := [.lit (.bool true)], args := [d1, d2] }
  | _ => none }
def scriptGoodRow : OpenClaim := { program := "ythmfjkakpefkeaa", sum := "0bf6756b6436151e3e89b72246314fa4f749fb16beee53df057cfdd8869f1eb5", func := "tenterhook/tenterhooklaw23.ScriptGood", spec := "scriptGood", unfollowed := true, recurses := true, apart := false }
def ScriptGoodSaid : Prop := scriptGoodRow.holds Try.pinned (OpenSpec.ofChange scriptGoodSpec)

/-- ITS FALSE NEIGHBOUR: 'it returns false'. Refute it at one input. -/
def scriptGoodWrong : ChangeSpec := { name := "scriptGood", fn := fun _ => fun
  | [d1, d2] => { results := [.lit (.bool false)], args := [d1, d2] }
  | _ => none }
def ScriptGoodWrongFalsely : Prop := scriptGoodRow.holds Try.pinned (OpenSpec.ofChange scriptGoodWrong)

/- THE SECOND FORM. 'bulk': how many values and letters a reading holds, each counted each time it is reached (what is shared counts as often as it is met; a slice's spare places count too). A statement '..UptoSaid' is the law's where the arguments, and the package variables that the reading takes, are together of bulk at most 1048576: NARROWER than '..Said'. Prove '..Said' where nothing that the law and all that it calls make is longer than what came in: it says more and counts as full. Else prove '..UptoSaid'. A law counts once. -/
mutual
def uptoBulk {H : Type} : DataW H → Nat
  | .lit (.string bytes) => bytes.length + 1
  | .lit _ => 1
  | .nil => 1
  | .ptr d => uptoBulk d + 1
  | .slice elems spare => uptoBulkAll elems + uptoBulkAll spare + 1
  | .agg parts => uptoBulkAll parts + 1
  | .iface _ d => uptoBulk d + 1
  | .map entries => uptoBulkEntries entries + 1
  | .held _ => 1
def uptoBulkAll {H : Type} : List (DataW H) → Nat
  | [] => 0
  | d :: r => uptoBulk d + uptoBulkAll r
def uptoBulkEntries {H : Type} : List (Lit × DataW H) → Nat
  | [] => 0
  | x :: r => uptoBulkEntry x + uptoBulkEntries r
def uptoBulkEntry {H : Type} : Lit × DataW H → Nat
  | (.string bytes, d) => bytes.length + uptoBulk d + 1
  | (_, d) => uptoBulk d + 1
 end
def uptoSmall : (H : Type) → List (DataW H) → Bool := fun _ ds => decide (uptoBulkAll ds ≤ 1048576)
def OpenSpec.upto (s : _root_.Go.ChangeSpec) : _root_.Go.OpenSpec := { _root_.Go.OpenSpec.ofChange s with cond := some uptoSmall }

/-- 'tenterhooklaw23.ScriptIs', WHERE WHAT IT READS IS OF BULK AT MOST 1048576: true; the input reads as it did. -/
def scriptIsUptoRow : OpenClaim := { program := "ythmfjkakpefkeaa", sum := "0bf6756b6436151e3e89b72246314fa4f749fb16beee53df057cfdd8869f1eb5", func := "tenterhook/tenterhooklaw23.ScriptIs", spec := "scriptIs", unfollowed := true, recurses := true, apart := false, narrowed := true }
def ScriptIsUptoSaid : Prop := scriptIsUptoRow.holds Try.pinned (OpenSpec.upto scriptIsSpec)

/-- 'tenterhooklaw23.ScriptBack', WHERE WHAT IT READS IS OF BULK AT MOST 1048576: true; the input reads as it did. -/
def scriptBackUptoRow : OpenClaim := { program := "ythmfjkakpefkeaa", sum := "0bf6756b6436151e3e89b72246314fa4f749fb16beee53df057cfdd8869f1eb5", func := "tenterhook/tenterhooklaw23.ScriptBack", spec := "scriptBack", unfollowed := true, recurses := true, apart := false, narrowed := true }
def ScriptBackUptoSaid : Prop := scriptBackUptoRow.holds Try.pinned (OpenSpec.upto scriptBackSpec)

/-- 'tenterhooklaw23.ScriptGood', WHERE WHAT IT READS IS OF BULK AT MOST 1048576: true; the input reads as it did. -/
def scriptGoodUptoRow : OpenClaim := { program := "ythmfjkakpefkeaa", sum := "0bf6756b6436151e3e89b72246314fa4f749fb16beee53df057cfdd8869f1eb5", func := "tenterhook/tenterhooklaw23.ScriptGood", spec := "scriptGood", unfollowed := true, recurses := true, apart := false, narrowed := true }
def ScriptGoodUptoSaid : Prop := scriptGoodUptoRow.holds Try.pinned (OpenSpec.upto scriptGoodSpec)

end Rows
end Go.Proofs.Ythmfjkakpefkeaa
