/-
  No cell of these rows narrows 'for every input' (looked for: loops, veiled, ifaces, maps, wideKeys, modest, calm, conditions, laid).
  DERIVED. THE GIVEN ROWS OF THIS SEAT. 6 by the template 'for every input the law returns true; each argument reads behind the call as it read before'; 0 by the template 'total and deterministic' (their statements: YtbgihgkobojfaaaTotals.lean).
  GIVEN WITH THE SEED: the statements are not yours to turn. If you find one false, say at which input.
  Laid BY PROGRAM, IN A SANDBOX (cutbox-rows.mjs): the forced cells as the released guide's own fill.sh prints them over the translation 59132d2913d401fb… (all of the seat's roots in one cut). By AI agents, Wed Nov 11 2026. No macro, syntax, notation, axiom, sorry.
-/
import Derived.Test.YtbgihgkobojfaaaChecked
import GoSem.Claim
import GoSem.ClaimJoined
import GoSem.ClaimMapViews
import Derived.JoinedTies
import Derived.KernelRfl
namespace Go.Proofs.Ytbgihgkobojfaaa
/- THE CELL 'sum', in the pinned program and in every row, IS THE sha256 OF THE DUMP (.gsa) THAT YtbgihgkobojfaaaProg.lean LOADS. Nothing in Lean hashes anything: it is a label: what it is worth is what the hold of that sum in a sandbox is worth. -/
noncomputable def Try.pinned : Pinned := { name := "ytbgihgkobojfaaa", sum := "59132d2913d401fb50e838fb9a24d332c611a1e05865d0211619452c2ae7d931", checked := Try.checked }
namespace Rows
def none {H : Type} : Left H := { results := [], args := [] }

/-- 'tenterhooklaw11.DictBase': WHATEVER THE INPUT: true; the input reads as it did. -/
def dictBaseSpec : ChangeSpec := { name := "dictBase", fn := fun _ => fun
  | [d] => { results := [.lit (.bool true)], args := [d] }
  | _ => none }
def dictBaseRow : OpenClaim := { program := "ytbgihgkobojfaaa", sum := "59132d2913d401fb50e838fb9a24d332c611a1e05865d0211619452c2ae7d931", func := "tenterhook/tenterhooklaw11.DictBase", spec := "dictBase", unfollowed := true, recurses := true, apart := false }
def DictBaseSaid : Prop := dictBaseRow.holds Try.pinned (OpenSpec.ofChange dictBaseSpec)

/-- ITS FALSE NEIGHBOUR: 'it returns false'. Refute it at one input. -/
def dictBaseWrong : ChangeSpec := { name := "dictBase", fn := fun _ => fun
  | [d] => { results := [.lit (.bool false)], args := [d] }
  | _ => none }
def DictBaseWrongFalsely : Prop := dictBaseRow.holds Try.pinned (OpenSpec.ofChange dictBaseWrong)

/-- 'tenterhooklaw11.DictFinds': WHATEVER THE INPUT: true; the input reads as it did. -/
def dictFindsSpec : ChangeSpec := { name := "dictFinds", fn := fun _ => fun
  | [d1, d2, d3] => { results := [.lit (.bool true)], args := [d1, d2, d3] }
  | _ => none }
def dictFindsRow : OpenClaim := { program := "ytbgihgkobojfaaa", sum := "59132d2913d401fb50e838fb9a24d332c611a1e05865d0211619452c2ae7d931", func := "tenterhook/tenterhooklaw11.DictFinds", spec := "dictFinds", unfollowed := true, recurses := true, apart := false }
def DictFindsSaid : Prop := dictFindsRow.holds Try.pinned (OpenSpec.ofChange dictFindsSpec)

/-- ITS FALSE NEIGHBOUR: 'it returns false'. Refute it at one input. -/
def dictFindsWrong : ChangeSpec := { name := "dictFinds", fn := fun _ => fun
  | [d1, d2, d3] => { results := [.lit (.bool false)], args := [d1, d2, d3] }
  | _ => none }
def DictFindsWrongFalsely : Prop := dictFindsRow.holds Try.pinned (OpenSpec.ofChange dictFindsWrong)

/-- 'tenterhooklaw11.DictNames': WHATEVER THE INPUT: true; the input reads as it did. -/
def dictNamesSpec : ChangeSpec := { name := "dictNames", fn := fun _ => fun
  | [d1, d2] => { results := [.lit (.bool true)], args := [d1, d2] }
  | _ => none }
def dictNamesRow : OpenClaim := { program := "ytbgihgkobojfaaa", sum := "59132d2913d401fb50e838fb9a24d332c611a1e05865d0211619452c2ae7d931", func := "tenterhook/tenterhooklaw11.DictNames", spec := "dictNames", unfollowed := true, recurses := true, apart := false }
def DictNamesSaid : Prop := dictNamesRow.holds Try.pinned (OpenSpec.ofChange dictNamesSpec)

/-- ITS FALSE NEIGHBOUR: 'it returns false'. Refute it at one input. -/
def dictNamesWrong : ChangeSpec := { name := "dictNames", fn := fun _ => fun
  | [d1, d2] => { results := [.lit (.bool false)], args := [d1, d2] }
  | _ => none }
def DictNamesWrongFalsely : Prop := dictNamesRow.holds Try.pinned (OpenSpec.ofChange dictNamesWrong)

/-- 'tenterhooklaw11.DictIs': WHATEVER THE INPUT: true; the input reads as it did. -/
def dictIsSpec : ChangeSpec := { name := "dictIs", fn := fun _ => fun
  | [d1, d2, d3, d4, d5] => { results := [.lit (.bool true)], args := [d1, d2, d3, d4, d5] }
  | _ => none }
def dictIsRow : OpenClaim := { program := "ytbgihgkobojfaaa", sum := "59132d2913d401fb50e838fb9a24d332c611a1e05865d0211619452c2ae7d931", func := "tenterhook/tenterhooklaw11.DictIs", spec := "dictIs", unfollowed := true, recurses := true, apart := false }
def DictIsSaid : Prop := dictIsRow.holds Try.pinned (OpenSpec.ofChange dictIsSpec)

/-- ITS FALSE NEIGHBOUR: 'it returns false'. Refute it at one input. -/
def dictIsWrong : ChangeSpec := { name := "dictIs", fn := fun _ => fun
  | [d1, d2, d3, d4, d5] => { results := [.lit (.bool false)], args := [d1, d2, d3, d4, d5] }
  | _ => none }
def DictIsWrongFalsely : Prop := dictIsRow.holds Try.pinned (OpenSpec.ofChange dictIsWrong)

/-- 'tenterhooklaw11.DictPlaces': WHATEVER THE INPUT: true; the input reads as it did. -/
def dictPlacesSpec : ChangeSpec := { name := "dictPlaces", fn := fun _ => fun
  | [d1, d2, d3] => { results := [.lit (.bool true)], args := [d1, d2, d3] }
  | _ => none }
def dictPlacesRow : OpenClaim := { program := "ytbgihgkobojfaaa", sum := "59132d2913d401fb50e838fb9a24d332c611a1e05865d0211619452c2ae7d931", func := "tenterhook/tenterhooklaw11.DictPlaces", spec := "dictPlaces", unfollowed := true, recurses := true, apart := false }
def DictPlacesSaid : Prop := dictPlacesRow.holds Try.pinned (OpenSpec.ofChange dictPlacesSpec)

/-- ITS FALSE NEIGHBOUR: 'it returns false'. Refute it at one input. -/
def dictPlacesWrong : ChangeSpec := { name := "dictPlaces", fn := fun _ => fun
  | [d1, d2, d3] => { results := [.lit (.bool false)], args := [d1, d2, d3] }
  | _ => none }
def DictPlacesWrongFalsely : Prop := dictPlacesRow.holds Try.pinned (OpenSpec.ofChange dictPlacesWrong)

/-- 'tenterhooklaw11.DictCode': WHATEVER THE INPUT: true; the input reads as it did. -/
def dictCodeSpec : ChangeSpec := { name := "dictCode", fn := fun _ => fun
  | [d1, d2, d3] => { results := [.lit (.bool true)], args := [d1, d2, d3] }
  | _ => none }
def dictCodeRow : OpenClaim := { program := "ytbgihgkobojfaaa", sum := "59132d2913d401fb50e838fb9a24d332c611a1e05865d0211619452c2ae7d931", func := "tenterhook/tenterhooklaw11.DictCode", spec := "dictCode", unfollowed := true, recurses := true, apart := false }
def DictCodeSaid : Prop := dictCodeRow.holds Try.pinned (OpenSpec.ofChange dictCodeSpec)

/-- ITS FALSE NEIGHBOUR: 'it returns false'. Refute it at one input. -/
def dictCodeWrong : ChangeSpec := { name := "dictCode", fn := fun _ => fun
  | [d1, d2, d3] => { results := [.lit (.bool false)], args := [d1, d2, d3] }
  | _ => none }
def DictCodeWrongFalsely : Prop := dictCodeRow.holds Try.pinned (OpenSpec.ofChange dictCodeWrong)

/- THE SECOND FORM. 'bulk': how many values and letters a reading holds, each counted each time it is reached (what is shared counts as often as it is met; a slice's spare places count too). A statement '..UptoSaid' is the law's where the arguments, and the package variables that the reading takes, are together of bulk at most 1048576: NARROWER than '..Said'. Prove '..Said' where nothing that the law and all that it calls make is longer than what came in: it says more and counts as full. Else prove '..UptoSaid'. A law counts once. -/
mutual
def uptoBulk {H : Type} : DataW H → Nat
  | .lit (.string bytes) => bytes.length + 1
  | .lit _ => 1
  | .nil => 1
  | .ptr d => uptoBulk d + 1
  | .slice elems spare => uptoBulkAll elems + uptoBulkAll spare + 1
  | .agg parts => uptoBulkAll parts + 1
  | .iface _ d => uptoBulk d + 1
  | .map entries => uptoBulkEntries entries + 1
  | .held _ => 1
def uptoBulkAll {H : Type} : List (DataW H) → Nat
  | [] => 0
  | d :: r => uptoBulk d + uptoBulkAll r
def uptoBulkEntries {H : Type} : List (Lit × DataW H) → Nat
  | [] => 0
  | x :: r => uptoBulkEntry x + uptoBulkEntries r
def uptoBulkEntry {H : Type} : Lit × DataW H → Nat
  | (.string bytes, d) => bytes.length + uptoBulk d + 1
  | (_, d) => uptoBulk d + 1
 end
def uptoSmall : (H : Type) → List (DataW H) → Bool := fun _ ds => decide (uptoBulkAll ds ≤ 1048576)
def OpenSpec.upto (s : _root_.Go.ChangeSpec) : _root_.Go.OpenSpec := { _root_.Go.OpenSpec.ofChange s with cond := some uptoSmall }

/-- 'tenterhooklaw11.DictBase', WHERE WHAT IT READS IS OF BULK AT MOST 1048576: true; the input reads as it did. -/
def dictBaseUptoRow : OpenClaim := { program := "ytbgihgkobojfaaa", sum := "59132d2913d401fb50e838fb9a24d332c611a1e05865d0211619452c2ae7d931", func := "tenterhook/tenterhooklaw11.DictBase", spec := "dictBase", unfollowed := true, recurses := true, apart := false, narrowed := true }
def DictBaseUptoSaid : Prop := dictBaseUptoRow.holds Try.pinned (OpenSpec.upto dictBaseSpec)

/-- 'tenterhooklaw11.DictFinds', WHERE WHAT IT READS IS OF BULK AT MOST 1048576: true; the input reads as it did. -/
def dictFindsUptoRow : OpenClaim := { program := "ytbgihgkobojfaaa", sum := "59132d2913d401fb50e838fb9a24d332c611a1e05865d0211619452c2ae7d931", func := "tenterhook/tenterhooklaw11.DictFinds", spec := "dictFinds", unfollowed := true, recurses := true, apart := false, narrowed := true }
def DictFindsUptoSaid : Prop := dictFindsUptoRow.holds Try.pinned (OpenSpec.upto dictFindsSpec)

/-- 'tenterhooklaw11.DictNames', WHERE WHAT IT READS IS OF BULK AT MOST 1048576: true; the input reads as it did. -/
def dictNamesUptoRow : OpenClaim := { program := "ytbgihgkobojfaaa", sum := "59132d2913d401fb50e838fb9a24d332c611a1e05865d0211619452c2ae7d931", func := "tenterhook/tenterhooklaw11.DictNames", spec := "dictNames", unfollowed := true, recurses := true, apart := false, narrowed := true }
def DictNamesUptoSaid : Prop := dictNamesUptoRow.holds Try.pinned (OpenSpec.upto dictNamesSpec)

/-- 'tenterhooklaw11.DictIs', WHERE WHAT IT READS IS OF BULK AT MOST 1048576: true; the input reads as it did. -/
def dictIsUptoRow : OpenClaim := { program := "ytbgihgkobojfaaa", sum := "59132d2913d401fb50e838fb9a24d332c611a1e05865d0211619452c2ae7d931", func := "tenterhook/tenterhooklaw11.DictIs", spec := "dictIs", unfollowed := true, recurses := true, apart := false, narrowed := true }
def DictIsUptoSaid : Prop := dictIsUptoRow.holds Try.pinned (OpenSpec.upto dictIsSpec)

/-- 'tenterhooklaw11.DictPlaces', WHERE WHAT IT READS IS OF BULK AT MOST 1048576: true; the input reads as it did. -/
def dictPlacesUptoRow : OpenClaim := { program := "ytbgihgkobojfaaa", sum := "59132d2913d401fb50e838fb9a24d332c611a1e05865d0211619452c2ae7d931", func := "tenterhook/tenterhooklaw11.DictPlaces", spec := "dictPlaces", unfollowed := true, recurses := true, apart := false, narrowed := true }
def DictPlacesUptoSaid : Prop := dictPlacesUptoRow.holds Try.pinned (OpenSpec.upto dictPlacesSpec)

/-- 'tenterhooklaw11.DictCode', WHERE WHAT IT READS IS OF BULK AT MOST 1048576: true; the input reads as it did. -/
def dictCodeUptoRow : OpenClaim := { program := "ytbgihgkobojfaaa", sum := "59132d2913d401fb50e838fb9a24d332c611a1e05865d0211619452c2ae7d931", func := "tenterhook/tenterhooklaw11.DictCode", spec := "dictCode", unfollowed := true, recurses := true, apart := false, narrowed := true }
def DictCodeUptoSaid : Prop := dictCodeUptoRow.holds Try.pinned (OpenSpec.upto dictCodeSpec)

end Rows
end Go.Proofs.Ytbgihgkobojfaaa
