/-
  No cell of these rows narrows 'for every input' (looked for: loops, veiled, ifaces, maps, wideKeys, modest, calm, conditions, laid).
  DERIVED. THE GIVEN ROWS OF THIS SEAT. 6 by the template 'for every input the law returns true; each argument reads behind the call as it read before'; 0 by the template 'total and deterministic' (their statements: YtcphpiboamlanaaTotals.lean).
  GIVEN WITH THE SEED: the statements are not yours to turn. If you find one false, say at which input.
  Laid BY PROGRAM, IN A SANDBOX (cutbox-rows.mjs): the forced cells as the released guide's own fill.sh prints them over the translation 0c41756596b3bdee… (all of the seat's roots in one cut). By AI agents, Wed Nov 11 2026. No macro, syntax, notation, axiom, sorry.
-/
import Derived.Test.YtcphpiboamlanaaChecked
import GoSem.Claim
import GoSem.ClaimJoined
import GoSem.ClaimMapViews
import Derived.JoinedTies
import Derived.KernelRfl
namespace Go.Proofs.Ytcphpiboamlanaa
/- THE CELL 'sum', in the pinned program and in every row, IS THE sha256 OF THE DUMP (.gsa) THAT YtcphpiboamlanaaProg.lean LOADS. Nothing in Lean hashes anything: it is a label: what it is worth is what the hold of that sum in a sandbox is worth. -/
noncomputable def Try.pinned : Pinned := { name := "ytcphpiboamlanaa", sum := "0c41756596b3bdeea990886dbdc63ba39593c7e4c0d9dc81074c2c9e004581cb", checked := Try.checked }
namespace Rows
def none {H : Type} : Left H := { results := [], args := [] }

/-- 'tenterhooklaw08.FlowPairs': WHATEVER THE INPUT: true; the input reads as it did. -/
def flowPairsSpec : ChangeSpec := { name := "flowPairs", fn := fun _ => fun
  | [d] => { results := [.lit (.bool true)], args := [d] }
  | _ => none }
def flowPairsRow : OpenClaim := { program := "ytcphpiboamlanaa", sum := "0c41756596b3bdeea990886dbdc63ba39593c7e4c0d9dc81074c2c9e004581cb", func := "tenterhook/tenterhooklaw08.FlowPairs", spec := "flowPairs", unfollowed := true, recurses := true, apart := false }
def FlowPairsSaid : Prop := flowPairsRow.holds Try.pinned (OpenSpec.ofChange flowPairsSpec)

/-- ITS FALSE NEIGHBOUR: 'it returns false'. Refute it at one input. -/
def flowPairsWrong : ChangeSpec := { name := "flowPairs", fn := fun _ => fun
  | [d] => { results := [.lit (.bool false)], args := [d] }
  | _ => none }
def FlowPairsWrongFalsely : Prop := flowPairsRow.holds Try.pinned (OpenSpec.ofChange flowPairsWrong)

/-- 'tenterhooklaw08.FlowWrong': WHATEVER THE INPUT: true; the input reads as it did. -/
def flowWrongSpec : ChangeSpec := { name := "flowWrong", fn := fun _ => fun
  | [d1, d2] => { results := [.lit (.bool true)], args := [d1, d2] }
  | _ => none }
def flowWrongRow : OpenClaim := { program := "ytcphpiboamlanaa", sum := "0c41756596b3bdeea990886dbdc63ba39593c7e4c0d9dc81074c2c9e004581cb", func := "tenterhook/tenterhooklaw08.FlowWrong", spec := "flowWrong", unfollowed := true, recurses := true, apart := false }
def FlowWrongSaid : Prop := flowWrongRow.holds Try.pinned (OpenSpec.ofChange flowWrongSpec)

/-- ITS FALSE NEIGHBOUR: 'it returns false'. Refute it at one input. -/
def flowWrongWrong : ChangeSpec := { name := "flowWrong", fn := fun _ => fun
  | [d1, d2] => { results := [.lit (.bool false)], args := [d1, d2] }
  | _ => none }
def FlowWrongWrongFalsely : Prop := flowWrongRow.holds Try.pinned (OpenSpec.ofChange flowWrongWrong)

/-- 'tenterhooklaw08.FlowGrows': WHATEVER THE INPUT: true; the input reads as it did. -/
def flowGrowsSpec : ChangeSpec := { name := "flowGrows", fn := fun _ => fun
  | [d1, d2] => { results := [.lit (.bool true)], args := [d1, d2] }
  | _ => none }
def flowGrowsRow : OpenClaim := { program := "ytcphpiboamlanaa", sum := "0c41756596b3bdeea990886dbdc63ba39593c7e4c0d9dc81074c2c9e004581cb", func := "tenterhook/tenterhooklaw08.FlowGrows", spec := "flowGrows", unfollowed := true, recurses := true, apart := false }
def FlowGrowsSaid : Prop := flowGrowsRow.holds Try.pinned (OpenSpec.ofChange flowGrowsSpec)

/-- ITS FALSE NEIGHBOUR: 'it returns false'. Refute it at one input. -/
def flowGrowsWrong : ChangeSpec := { name := "flowGrows", fn := fun _ => fun
  | [d1, d2] => { results := [.lit (.bool false)], args := [d1, d2] }
  | _ => none }
def FlowGrowsWrongFalsely : Prop := flowGrowsRow.holds Try.pinned (OpenSpec.ofChange flowGrowsWrong)

/-- 'tenterhooklaw08.FlowIs': WHATEVER THE INPUT: true; the input reads as it did. -/
def flowIsSpec : ChangeSpec := { name := "flowIs", fn := fun _ => fun
  | [d1, d2, d3] => { results := [.lit (.bool true)], args := [d1, d2, d3] }
  | _ => none }
def flowIsRow : OpenClaim := { program := "ytcphpiboamlanaa", sum := "0c41756596b3bdeea990886dbdc63ba39593c7e4c0d9dc81074c2c9e004581cb", func := "tenterhook/tenterhooklaw08.FlowIs", spec := "flowIs", unfollowed := true, recurses := true, apart := false }
def FlowIsSaid : Prop := flowIsRow.holds Try.pinned (OpenSpec.ofChange flowIsSpec)

/-- ITS FALSE NEIGHBOUR: 'it returns false'. Refute it at one input. -/
def flowIsWrong : ChangeSpec := { name := "flowIs", fn := fun _ => fun
  | [d1, d2, d3] => { results := [.lit (.bool false)], args := [d1, d2, d3] }
  | _ => none }
def FlowIsWrongFalsely : Prop := flowIsRow.holds Try.pinned (OpenSpec.ofChange flowIsWrong)

/-- 'tenterhooklaw08.FlowWhole': WHATEVER THE INPUT: true; the input reads as it did. -/
def flowWholeSpec : ChangeSpec := { name := "flowWhole", fn := fun _ => fun
  | [d1, d2] => { results := [.lit (.bool true)], args := [d1, d2] }
  | _ => none }
def flowWholeRow : OpenClaim := { program := "ytcphpiboamlanaa", sum := "0c41756596b3bdeea990886dbdc63ba39593c7e4c0d9dc81074c2c9e004581cb", func := "tenterhook/tenterhooklaw08.FlowWhole", spec := "flowWhole", unfollowed := true, recurses := true, apart := false }
def FlowWholeSaid : Prop := flowWholeRow.holds Try.pinned (OpenSpec.ofChange flowWholeSpec)

/-- ITS FALSE NEIGHBOUR: 'it returns false'. Refute it at one input. -/
def flowWholeWrong : ChangeSpec := { name := "flowWhole", fn := fun _ => fun
  | [d1, d2] => { results := [.lit (.bool false)], args := [d1, d2] }
  | _ => none }
def FlowWholeWrongFalsely : Prop := flowWholeRow.holds Try.pinned (OpenSpec.ofChange flowWholeWrong)

/-- 'tenterhooklaw08.FlowRows': WHATEVER THE INPUT: true; the input reads as it did. -/
def flowRowsSpec : ChangeSpec := { name := "flowRows", fn := fun _ => fun
  | [d1, d2] => { results := [.lit (.bool true)], args := [d1, d2] }
  | _ => none }
def flowRowsRow : OpenClaim := { program := "ytcphpiboamlanaa", sum := "0c41756596b3bdeea990886dbdc63ba39593c7e4c0d9dc81074c2c9e004581cb", func := "tenterhook/tenterhooklaw08.FlowRows", spec := "flowRows", unfollowed := true, recurses := true, apart := false }
def FlowRowsSaid : Prop := flowRowsRow.holds Try.pinned (OpenSpec.ofChange flowRowsSpec)

/-- ITS FALSE NEIGHBOUR: 'it returns false'. Refute it at one input. -/
def flowRowsWrong : ChangeSpec := { name := "flowRows", fn := fun _ => fun
  | [d1, d2] => { results := [.lit (.bool false)], args := [d1, d2] }
  | _ => none }
def FlowRowsWrongFalsely : Prop := flowRowsRow.holds Try.pinned (OpenSpec.ofChange flowRowsWrong)

/- THE SECOND FORM. 'bulk': how many values and letters a reading holds, each counted each time it is reached (what is shared counts as often as it is met; a slice's spare places count too). A statement '..UptoSaid' is the law's where the arguments, and the package variables that the reading takes, are together of bulk at most 1048576: NARROWER than '..Said'. Prove '..Said' where nothing that the law and all that it calls make is longer than what came in: it says more and counts as full. Else prove '..UptoSaid'. A law counts once. -/
mutual
def uptoBulk {H : Type} : DataW H → Nat
  | .lit (.string bytes) => bytes.length + 1
  | .lit _ => 1
  | .nil => 1
  | .ptr d => uptoBulk d + 1
  | .slice elems spare => uptoBulkAll elems + uptoBulkAll spare + 1
  | .agg parts => uptoBulkAll parts + 1
  | .iface _ d => uptoBulk d + 1
  | .map entries => uptoBulkEntries entries + 1
  | .held _ => 1
def uptoBulkAll {H : Type} : List (DataW H) → Nat
  | [] => 0
  | d :: r => uptoBulk d + uptoBulkAll r
def uptoBulkEntries {H : Type} : List (Lit × DataW H) → Nat
  | [] => 0
  | x :: r => uptoBulkEntry x + uptoBulkEntries r
def uptoBulkEntry {H : Type} : Lit × DataW H → Nat
  | (.string bytes, d) => bytes.length + uptoBulk d + 1
  | (_, d) => uptoBulk d + 1
 end
def uptoSmall : (H : Type) → List (DataW H) → Bool := fun _ ds => decide (uptoBulkAll ds ≤ 1048576)
def OpenSpec.upto (s : _root_.Go.ChangeSpec) : _root_.Go.OpenSpec := { _root_.Go.OpenSpec.ofChange s with cond := some uptoSmall }

/-- 'tenterhooklaw08.FlowPairs', WHERE WHAT IT READS IS OF BULK AT MOST 1048576: true; the input reads as it did. -/
def flowPairsUptoRow : OpenClaim := { program := "ytcphpiboamlanaa", sum := "0c41756596b3bdeea990886dbdc63ba39593c7e4c0d9dc81074c2c9e004581cb", func := "tenterhook/tenterhooklaw08.FlowPairs", spec := "flowPairs", unfollowed := true, recurses := true, apart := false, narrowed := true }
def FlowPairsUptoSaid : Prop := flowPairsUptoRow.holds Try.pinned (OpenSpec.upto flowPairsSpec)

/-- 'tenterhooklaw08.FlowWrong', WHERE WHAT IT READS IS OF BULK AT MOST 1048576: true; the input reads as it did. -/
def flowWrongUptoRow : OpenClaim := { program := "ytcphpiboamlanaa", sum := "0c41756596b3bdeea990886dbdc63ba39593c7e4c0d9dc81074c2c9e004581cb", func := "tenterhook/tenterhooklaw08.FlowWrong", spec := "flowWrong", unfollowed := true, recurses := true, apart := false, narrowed := true }
def FlowWrongUptoSaid : Prop := flowWrongUptoRow.holds Try.pinned (OpenSpec.upto flowWrongSpec)

/-- 'tenterhooklaw08.FlowGrows', WHERE WHAT IT READS IS OF BULK AT MOST 1048576: true; the input reads as it did. -/
def flowGrowsUptoRow : OpenClaim := { program := "ytcphpiboamlanaa", sum := "0c41756596b3bdeea990886dbdc63ba39593c7e4c0d9dc81074c2c9e004581cb", func := "tenterhook/tenterhooklaw08.FlowGrows", spec := "flowGrows", unfollowed := true, recurses := true, apart := false, narrowed := true }
def FlowGrowsUptoSaid : Prop := flowGrowsUptoRow.holds Try.pinned (OpenSpec.upto flowGrowsSpec)

/-- 'tenterhooklaw08.FlowIs', WHERE WHAT IT READS IS OF BULK AT MOST 1048576: true; the input reads as it did. -/
def flowIsUptoRow : OpenClaim := { program := "ytcphpiboamlanaa", sum := "0c41756596b3bdeea990886dbdc63ba39593c7e4c0d9dc81074c2c9e004581cb", func := "tenterhook/tenterhooklaw08.FlowIs", spec := "flowIs", unfollowed := true, recurses := true, apart := false, narrowed := true }
def FlowIsUptoSaid : Prop := flowIsUptoRow.holds Try.pinned (OpenSpec.upto flowIsSpec)

/-- 'tenterhooklaw08.FlowWhole', WHERE WHAT IT READS IS OF BULK AT MOST 1048576: true; the input reads as it did. -/
def flowWholeUptoRow : OpenClaim := { program := "ytcphpiboamlanaa", sum := "0c41756596b3bdeea990886dbdc63ba39593c7e4c0d9dc81074c2c9e004581cb", func := "tenterhook/tenterhooklaw08.FlowWhole", spec := "flowWhole", unfollowed := true, recurses := true, apart := false, narrowed := true }
def FlowWholeUptoSaid : Prop := flowWholeUptoRow.holds Try.pinned (OpenSpec.upto flowWholeSpec)

/-- 'tenterhooklaw08.FlowRows', WHERE WHAT IT READS IS OF BULK AT MOST 1048576: true; the input reads as it did. -/
def flowRowsUptoRow : OpenClaim := { program := "ytcphpiboamlanaa", sum := "0c41756596b3bdeea990886dbdc63ba39593c7e4c0d9dc81074c2c9e004581cb", func := "tenterhook/tenterhooklaw08.FlowRows", spec := "flowRows", unfollowed := true, recurses := true, apart := false, narrowed := true }
def FlowRowsUptoSaid : Prop := flowRowsUptoRow.holds Try.pinned (OpenSpec.upto flowRowsSpec)

end Rows
end Go.Proofs.Ytcphpiboamlanaa
