/-
  No cell of these rows narrows 'for every input' (looked for: loops, veiled, ifaces, maps, wideKeys, modest, calm, conditions, laid).
  DERIVED. THE GIVEN ROWS OF THIS SEAT. 7 by the template 'for every input the law returns true; each argument reads behind the call as it read before'; 0 by the template 'total and deterministic' (their statements: YtklanpanmndakaaTotals.lean).
  GIVEN WITH THE SEED: the statements are not yours to turn. If you find one false, say at which input.
  Laid BY PROGRAM, IN A SANDBOX (cutbox-rows.mjs): the forced cells as the released guide's own fill.sh prints them over the translation b4c3b0ddacc2a5b1… (all of the seat's roots in one cut). By AI agents, Wed Nov 11 2026. No macro, syntax, notation, axiom, sorry.
-/
import Derived.Test.YtklanpanmndakaaChecked
import GoSem.Claim
import GoSem.ClaimJoined
import GoSem.ClaimMapViews
import Derived.JoinedTies
import Derived.KernelRfl
namespace Go.Proofs.Ytklanpanmndakaa
/- THE CELL 'sum', in the pinned program and in every row, IS THE sha256 OF THE DUMP (.gsa) THAT YtklanpanmndakaaProg.lean LOADS. Nothing in Lean hashes anything: it is a label: what it is worth is what the hold of that sum in a sandbox is worth. -/
noncomputable def Try.pinned : Pinned := { name := "ytklanpanmndakaa", sum := "b4c3b0ddacc2a5b164ae2127ab3b0ee9101be93447540188506acaad780c3b27", checked := Try.checked }
namespace Rows
def none {H : Type} : Left H := { results := [], args := [] }

/-- 'tenterhooklaw13.RetDeep': WHATEVER THE INPUT: true; the input reads as it did. -/
def retDeepSpec : ChangeSpec := { name := "retDeep", fn := fun _ => fun
  | [d1, d2] => { results := [.lit (.bool true)], args := [d1, d2] }
  | _ => none }
def retDeepRow : OpenClaim := { program := "ytklanpanmndakaa", sum := "b4c3b0ddacc2a5b164ae2127ab3b0ee9101be93447540188506acaad780c3b27", func := "tenterhook/tenterhooklaw13.RetDeep", spec := "retDeep", apart := false }
def RetDeepSaid : Prop := retDeepRow.holds Try.pinned (OpenSpec.ofChange retDeepSpec)

/-- ITS FALSE NEIGHBOUR: 'it returns false'. Refute it at one input. -/
def retDeepWrong : ChangeSpec := { name := "retDeep", fn := fun _ => fun
  | [d1, d2] => { results := [.lit (.bool false)], args := [d1, d2] }
  | _ => none }
def RetDeepWrongFalsely : Prop := retDeepRow.holds Try.pinned (OpenSpec.ofChange retDeepWrong)

/-- 'tenterhooklaw13.RetBack': WHATEVER THE INPUT: true; the input reads as it did. -/
def retBackSpec : ChangeSpec := { name := "retBack", fn := fun _ => fun
  | [d1, d2, d3, d4] => { results := [.lit (.bool true)], args := [d1, d2, d3, d4] }
  | _ => none }
def retBackRow : OpenClaim := { program := "ytklanpanmndakaa", sum := "b4c3b0ddacc2a5b164ae2127ab3b0ee9101be93447540188506acaad780c3b27", func := "tenterhook/tenterhooklaw13.RetBack", spec := "retBack", apart := false }
def RetBackSaid : Prop := retBackRow.holds Try.pinned (OpenSpec.ofChange retBackSpec)

/-- ITS FALSE NEIGHBOUR: 'it returns false'. Refute it at one input. -/
def retBackWrong : ChangeSpec := { name := "retBack", fn := fun _ => fun
  | [d1, d2, d3, d4] => { results := [.lit (.bool false)], args := [d1, d2, d3, d4] }
  | _ => none }
def RetBackWrongFalsely : Prop := retBackRow.holds Try.pinned (OpenSpec.ofChange retBackWrong)

/-- 'tenterhooklaw13.RetThrown': WHATEVER THE INPUT: true; the input reads as it did. -/
def retThrownSpec : ChangeSpec := { name := "retThrown", fn := fun _ => fun
  | [d1, d2] => { results := [.lit (.bool true)], args := [d1, d2] }
  | _ => none }
def retThrownRow : OpenClaim := { program := "ytklanpanmndakaa", sum := "b4c3b0ddacc2a5b164ae2127ab3b0ee9101be93447540188506acaad780c3b27", func := "tenterhook/tenterhooklaw13.RetThrown", spec := "retThrown", apart := false }
def RetThrownSaid : Prop := retThrownRow.holds Try.pinned (OpenSpec.ofChange retThrownSpec)

/-- ITS FALSE NEIGHBOUR: 'it returns false'. Refute it at one input. -/
def retThrownWrong : ChangeSpec := { name := "retThrown", fn := fun _ => fun
  | [d1, d2] => { results := [.lit (.bool false)], args := [d1, d2] }
  | _ => none }
def RetThrownWrongFalsely : Prop := retThrownRow.holds Try.pinned (OpenSpec.ofChange retThrownWrong)

/-- 'tenterhooklaw13.RetRounds': WHATEVER THE INPUT: true; the input reads as it did. -/
def retRoundsSpec : ChangeSpec := { name := "retRounds", fn := fun _ => fun
  | [d1, d2, d3] => { results := [.lit (.bool true)], args := [d1, d2, d3] }
  | _ => none }
def retRoundsRow : OpenClaim := { program := "ytklanpanmndakaa", sum := "b4c3b0ddacc2a5b164ae2127ab3b0ee9101be93447540188506acaad780c3b27", func := "tenterhook/tenterhooklaw13.RetRounds", spec := "retRounds", apart := false }
def RetRoundsSaid : Prop := retRoundsRow.holds Try.pinned (OpenSpec.ofChange retRoundsSpec)

/-- ITS FALSE NEIGHBOUR: 'it returns false'. Refute it at one input. -/
def retRoundsWrong : ChangeSpec := { name := "retRounds", fn := fun _ => fun
  | [d1, d2, d3] => { results := [.lit (.bool false)], args := [d1, d2, d3] }
  | _ => none }
def RetRoundsWrongFalsely : Prop := retRoundsRow.holds Try.pinned (OpenSpec.ofChange retRoundsWrong)

/-- 'tenterhooklaw13.RetNests': WHATEVER THE INPUT: true; the input reads as it did. -/
def retNestsSpec : ChangeSpec := { name := "retNests", fn := fun _ => fun
  | [d1, d2, d3, d4, d5] => { results := [.lit (.bool true)], args := [d1, d2, d3, d4, d5] }
  | _ => none }
def retNestsRow : OpenClaim := { program := "ytklanpanmndakaa", sum := "b4c3b0ddacc2a5b164ae2127ab3b0ee9101be93447540188506acaad780c3b27", func := "tenterhook/tenterhooklaw13.RetNests", spec := "retNests", apart := false }
def RetNestsSaid : Prop := retNestsRow.holds Try.pinned (OpenSpec.ofChange retNestsSpec)

/-- ITS FALSE NEIGHBOUR: 'it returns false'. Refute it at one input. -/
def retNestsWrong : ChangeSpec := { name := "retNests", fn := fun _ => fun
  | [d1, d2, d3, d4, d5] => { results := [.lit (.bool false)], args := [d1, d2, d3, d4, d5] }
  | _ => none }
def RetNestsWrongFalsely : Prop := retNestsRow.holds Try.pinned (OpenSpec.ofChange retNestsWrong)

/-- 'tenterhooklaw13.RetCaught': WHATEVER THE INPUT: true; the input reads as it did. -/
def retCaughtSpec : ChangeSpec := { name := "retCaught", fn := fun _ => fun
  | [d1, d2, d3, d4] => { results := [.lit (.bool true)], args := [d1, d2, d3, d4] }
  | _ => none }
def retCaughtRow : OpenClaim := { program := "ytklanpanmndakaa", sum := "b4c3b0ddacc2a5b164ae2127ab3b0ee9101be93447540188506acaad780c3b27", func := "tenterhook/tenterhooklaw13.RetCaught", spec := "retCaught", apart := false }
def RetCaughtSaid : Prop := retCaughtRow.holds Try.pinned (OpenSpec.ofChange retCaughtSpec)

/-- ITS FALSE NEIGHBOUR: 'it returns false'. Refute it at one input. -/
def retCaughtWrong : ChangeSpec := { name := "retCaught", fn := fun _ => fun
  | [d1, d2, d3, d4] => { results := [.lit (.bool false)], args := [d1, d2, d3, d4] }
  | _ => none }
def RetCaughtWrongFalsely : Prop := retCaughtRow.holds Try.pinned (OpenSpec.ofChange retCaughtWrong)

/-- 'tenterhooklaw13.RetIs': WHATEVER THE INPUT: true; the input reads as it did. -/
def retIsSpec : ChangeSpec := { name := "retIs", fn := fun _ => fun
  | [d1, d2, d3] => { results := [.lit (.bool true)], args := [d1, d2, d3] }
  | _ => none }
def retIsRow : OpenClaim := { program := "ytklanpanmndakaa", sum := "b4c3b0ddacc2a5b164ae2127ab3b0ee9101be93447540188506acaad780c3b27", func := "tenterhook/tenterhooklaw13.RetIs", spec := "retIs", apart := false }
def RetIsSaid : Prop := retIsRow.holds Try.pinned (OpenSpec.ofChange retIsSpec)

/-- ITS FALSE NEIGHBOUR: 'it returns false'. Refute it at one input. -/
def retIsWrong : ChangeSpec := { name := "retIs", fn := fun _ => fun
  | [d1, d2, d3] => { results := [.lit (.bool false)], args := [d1, d2, d3] }
  | _ => none }
def RetIsWrongFalsely : Prop := retIsRow.holds Try.pinned (OpenSpec.ofChange retIsWrong)

/- THE SECOND FORM. 'bulk': how many values and letters a reading holds, each counted each time it is reached (what is shared counts as often as it is met; a slice's spare places count too). A statement '..UptoSaid' is the law's where the arguments, and the package variables that the reading takes, are together of bulk at most 1048576: NARROWER than '..Said'. Prove '..Said' where nothing that the law and all that it calls make is longer than what came in: it says more and counts as full. Else prove '..UptoSaid'. A law counts once. -/
mutual
def uptoBulk {H : Type} : DataW H → Nat
  | .lit (.string bytes) => bytes.length + 1
  | .lit _ => 1
  | .nil => 1
  | .ptr d => uptoBulk d + 1
  | .slice elems spare => uptoBulkAll elems + uptoBulkAll spare + 1
  | .agg parts => uptoBulkAll parts + 1
  | .iface _ d => uptoBulk d + 1
  | .map entries => uptoBulkEntries entries + 1
  | .held _ => 1
def uptoBulkAll {H : Type} : List (DataW H) → Nat
  | [] => 0
  | d :: r => uptoBulk d + uptoBulkAll r
def uptoBulkEntries {H : Type} : List (Lit × DataW H) → Nat
  | [] => 0
  | x :: r => uptoBulkEntry x + uptoBulkEntries r
def uptoBulkEntry {H : Type} : Lit × DataW H → Nat
  | (.string bytes, d) => bytes.length + uptoBulk d + 1
  | (_, d) => uptoBulk d + 1
 end
def uptoSmall : (H : Type) → List (DataW H) → Bool := fun _ ds => decide (uptoBulkAll ds ≤ 1048576)
def OpenSpec.upto (s : _root_.Go.ChangeSpec) : _root_.Go.OpenSpec := { _root_.Go.OpenSpec.ofChange s with cond := some uptoSmall }

/-- 'tenterhooklaw13.RetDeep', WHERE WHAT IT READS IS OF BULK AT MOST 1048576: true; the input reads as it did. -/
def retDeepUptoRow : OpenClaim := { program := "ytklanpanmndakaa", sum := "b4c3b0ddacc2a5b164ae2127ab3b0ee9101be93447540188506acaad780c3b27", func := "tenterhook/tenterhooklaw13.RetDeep", spec := "retDeep", apart := false, narrowed := true }
def RetDeepUptoSaid : Prop := retDeepUptoRow.holds Try.pinned (OpenSpec.upto retDeepSpec)

/-- 'tenterhooklaw13.RetBack', WHERE WHAT IT READS IS OF BULK AT MOST 1048576: true; the input reads as it did. -/
def retBackUptoRow : OpenClaim := { program := "ytklanpanmndakaa", sum := "b4c3b0ddacc2a5b164ae2127ab3b0ee9101be93447540188506acaad780c3b27", func := "tenterhook/tenterhooklaw13.RetBack", spec := "retBack", apart := false, narrowed := true }
def RetBackUptoSaid : Prop := retBackUptoRow.holds Try.pinned (OpenSpec.upto retBackSpec)

/-- 'tenterhooklaw13.RetThrown', WHERE WHAT IT READS IS OF BULK AT MOST 1048576: true; the input reads as it did. -/
def retThrownUptoRow : OpenClaim := { program := "ytklanpanmndakaa", sum := "b4c3b0ddacc2a5b164ae2127ab3b0ee9101be93447540188506acaad780c3b27", func := "tenterhook/tenterhooklaw13.RetThrown", spec := "retThrown", apart := false, narrowed := true }
def RetThrownUptoSaid : Prop := retThrownUptoRow.holds Try.pinned (OpenSpec.upto retThrownSpec)

/-- 'tenterhooklaw13.RetRounds', WHERE WHAT IT READS IS OF BULK AT MOST 1048576: true; the input reads as it did. -/
def retRoundsUptoRow : OpenClaim := { program := "ytklanpanmndakaa", sum := "b4c3b0ddacc2a5b164ae2127ab3b0ee9101be93447540188506acaad780c3b27", func := "tenterhook/tenterhooklaw13.RetRounds", spec := "retRounds", apart := false, narrowed := true }
def RetRoundsUptoSaid : Prop := retRoundsUptoRow.holds Try.pinned (OpenSpec.upto retRoundsSpec)

/-- 'tenterhooklaw13.RetNests', WHERE WHAT IT READS IS OF BULK AT MOST 1048576: true; the input reads as it did. -/
def retNestsUptoRow : OpenClaim := { program := "ytklanpanmndakaa", sum := "b4c3b0ddacc2a5b164ae2127ab3b0ee9101be93447540188506acaad780c3b27", func := "tenterhook/tenterhooklaw13.RetNests", spec := "retNests", apart := false, narrowed := true }
def RetNestsUptoSaid : Prop := retNestsUptoRow.holds Try.pinned (OpenSpec.upto retNestsSpec)

/-- 'tenterhooklaw13.RetCaught', WHERE WHAT IT READS IS OF BULK AT MOST 1048576: true; the input reads as it did. -/
def retCaughtUptoRow : OpenClaim := { program := "ytklanpanmndakaa", sum := "b4c3b0ddacc2a5b164ae2127ab3b0ee9101be93447540188506acaad780c3b27", func := "tenterhook/tenterhooklaw13.RetCaught", spec := "retCaught", apart := false, narrowed := true }
def RetCaughtUptoSaid : Prop := retCaughtUptoRow.holds Try.pinned (OpenSpec.upto retCaughtSpec)

/-- 'tenterhooklaw13.RetIs', WHERE WHAT IT READS IS OF BULK AT MOST 1048576: true; the input reads as it did. -/
def retIsUptoRow : OpenClaim := { program := "ytklanpanmndakaa", sum := "b4c3b0ddacc2a5b164ae2127ab3b0ee9101be93447540188506acaad780c3b27", func := "tenterhook/tenterhooklaw13.RetIs", spec := "retIs", apart := false, narrowed := true }
def RetIsUptoSaid : Prop := retIsUptoRow.holds Try.pinned (OpenSpec.upto retIsSpec)

end Rows
end Go.Proofs.Ytklanpanmndakaa
