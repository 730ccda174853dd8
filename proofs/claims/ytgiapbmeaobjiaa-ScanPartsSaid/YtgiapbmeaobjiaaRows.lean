/-
  No cell of these rows narrows 'for every input' (looked for: loops, veiled, ifaces, maps, wideKeys, modest, calm, conditions, laid).
  DERIVED. THE GIVEN ROWS OF THIS SEAT. 6 by the template 'for every input the law returns true; each argument reads behind the call as it read before'; 0 by the template 'total and deterministic' (their statements: YtgiapbmeaobjiaaTotals.lean).
  GIVEN WITH THE SEED: the statements are not yours to turn. If you find one false, say at which input.
  Laid BY PROGRAM, IN A SANDBOX (cutbox-rows.mjs): the forced cells as the released guide's own fill.sh prints them over the translation 07f5cae5ae41f5cb… (all of the seat's roots in one cut). By AI agents, Wed Nov 11 2026. No macro, syntax, notation, axiom, sorry.
-/
import Derived.Test.YtgiapbmeaobjiaaChecked
import GoSem.Claim
import GoSem.ClaimJoined
import GoSem.ClaimMapViews
import Derived.JoinedTies
import Derived.KernelRfl
namespace Go.Proofs.Ytgiapbmeaobjiaa
/- THE CELL 'sum', in the pinned program and in every row, IS THE sha256 OF THE DUMP (.gsa) THAT YtgiapbmeaobjiaaProg.lean LOADS. Nothing in Lean hashes anything: it is a label: what it is worth is what the hold of that sum in a sandbox is worth. -/
noncomputable def Try.pinned : Pinned := { name := "ytgiapbmeaobjiaa", sum := "07f5cae5ae41f5cb86557742b336076c8f679f99e245c82d271d5f347d64e1d8", checked := Try.checked }
namespace Rows
def none {H : Type} : Left H := { results := [], args := [] }

/-- 'tenterhooklaw06.ScanWords': WHATEVER THE INPUT: true; the input reads as it did. -/
def scanWordsSpec : ChangeSpec := { name := "scanWords", fn := fun _ => fun
  | [d] => { results := [.lit (.bool true)], args := [d] }
  | _ => none }
def scanWordsRow : OpenClaim := { program := "ytgiapbmeaobjiaa", sum := "07f5cae5ae41f5cb86557742b336076c8f679f99e245c82d271d5f347d64e1d8", func := "tenterhook/tenterhooklaw06.ScanWords", spec := "scanWords", inPlace := ["internal/bytealg.IndexByteString", "internal/bytealg.IndexString"], unfollowed := true, recurses := true, named := ["internal/bytealg.MaxLen"], apart := false }
def ScanWordsSaid : Prop := scanWordsRow.holds Try.pinned (OpenSpec.ofChange scanWordsSpec)

/-- ITS FALSE NEIGHBOUR: 'it returns false'. Refute it at one input. -/
def scanWordsWrong : ChangeSpec := { name := "scanWords", fn := fun _ => fun
  | [d] => { results := [.lit (.bool false)], args := [d] }
  | _ => none }
def ScanWordsWrongFalsely : Prop := scanWordsRow.holds Try.pinned (OpenSpec.ofChange scanWordsWrong)

/-- 'tenterhooklaw06.ScanLines': WHATEVER THE INPUT: true; the input reads as it did. -/
def scanLinesSpec : ChangeSpec := { name := "scanLines", fn := fun _ => fun
  | [d] => { results := [.lit (.bool true)], args := [d] }
  | _ => none }
def scanLinesRow : OpenClaim := { program := "ytgiapbmeaobjiaa", sum := "07f5cae5ae41f5cb86557742b336076c8f679f99e245c82d271d5f347d64e1d8", func := "tenterhook/tenterhooklaw06.ScanLines", spec := "scanLines", inPlace := ["internal/bytealg.IndexByteString", "internal/bytealg.IndexString"], unfollowed := true, recurses := true, named := ["internal/bytealg.MaxLen"], apart := false }
def ScanLinesSaid : Prop := scanLinesRow.holds Try.pinned (OpenSpec.ofChange scanLinesSpec)

/-- ITS FALSE NEIGHBOUR: 'it returns false'. Refute it at one input. -/
def scanLinesWrong : ChangeSpec := { name := "scanLines", fn := fun _ => fun
  | [d] => { results := [.lit (.bool false)], args := [d] }
  | _ => none }
def ScanLinesWrongFalsely : Prop := scanLinesRow.holds Try.pinned (OpenSpec.ofChange scanLinesWrong)

/-- 'tenterhooklaw06.ScanBlanks': WHATEVER THE INPUT: true; the input reads as it did. -/
def scanBlanksSpec : ChangeSpec := { name := "scanBlanks", fn := fun _ => fun
  | [d1, d2, d3] => { results := [.lit (.bool true)], args := [d1, d2, d3] }
  | _ => none }
def scanBlanksRow : OpenClaim := { program := "ytgiapbmeaobjiaa", sum := "07f5cae5ae41f5cb86557742b336076c8f679f99e245c82d271d5f347d64e1d8", func := "tenterhook/tenterhooklaw06.ScanBlanks", spec := "scanBlanks", inPlace := ["internal/bytealg.IndexByteString", "internal/bytealg.IndexString"], unfollowed := true, recurses := true, named := ["internal/bytealg.MaxLen"], apart := false }
def ScanBlanksSaid : Prop := scanBlanksRow.holds Try.pinned (OpenSpec.ofChange scanBlanksSpec)

/-- ITS FALSE NEIGHBOUR: 'it returns false'. Refute it at one input. -/
def scanBlanksWrong : ChangeSpec := { name := "scanBlanks", fn := fun _ => fun
  | [d1, d2, d3] => { results := [.lit (.bool false)], args := [d1, d2, d3] }
  | _ => none }
def ScanBlanksWrongFalsely : Prop := scanBlanksRow.holds Try.pinned (OpenSpec.ofChange scanBlanksWrong)

/-- 'tenterhooklaw06.ScanIs': WHATEVER THE INPUT: true; the input reads as it did. -/
def scanIsSpec : ChangeSpec := { name := "scanIs", fn := fun _ => fun
  | [d1, d2] => { results := [.lit (.bool true)], args := [d1, d2] }
  | _ => none }
def scanIsRow : OpenClaim := { program := "ytgiapbmeaobjiaa", sum := "07f5cae5ae41f5cb86557742b336076c8f679f99e245c82d271d5f347d64e1d8", func := "tenterhook/tenterhooklaw06.ScanIs", spec := "scanIs", inPlace := ["internal/bytealg.IndexByteString", "internal/bytealg.IndexString"], unfollowed := true, recurses := true, named := ["internal/bytealg.MaxLen"], apart := false }
def ScanIsSaid : Prop := scanIsRow.holds Try.pinned (OpenSpec.ofChange scanIsSpec)

/-- ITS FALSE NEIGHBOUR: 'it returns false'. Refute it at one input. -/
def scanIsWrong : ChangeSpec := { name := "scanIs", fn := fun _ => fun
  | [d1, d2] => { results := [.lit (.bool false)], args := [d1, d2] }
  | _ => none }
def ScanIsWrongFalsely : Prop := scanIsRow.holds Try.pinned (OpenSpec.ofChange scanIsWrong)

/-- 'tenterhooklaw06.ScanParts': WHATEVER THE INPUT: true; the input reads as it did. -/
def scanPartsSpec : ChangeSpec := { name := "scanParts", fn := fun _ => fun
  | [d1, d2, d3] => { results := [.lit (.bool true)], args := [d1, d2, d3] }
  | _ => none }
def scanPartsRow : OpenClaim := { program := "ytgiapbmeaobjiaa", sum := "07f5cae5ae41f5cb86557742b336076c8f679f99e245c82d271d5f347d64e1d8", func := "tenterhook/tenterhooklaw06.ScanParts", spec := "scanParts", inPlace := ["internal/bytealg.IndexByteString", "internal/bytealg.IndexString"], unfollowed := true, recurses := true, named := ["internal/bytealg.MaxLen"], apart := false }
def ScanPartsSaid : Prop := scanPartsRow.holds Try.pinned (OpenSpec.ofChange scanPartsSpec)

/-- ITS FALSE NEIGHBOUR: 'it returns false'. Refute it at one input. -/
def scanPartsWrong : ChangeSpec := { name := "scanParts", fn := fun _ => fun
  | [d1, d2, d3] => { results := [.lit (.bool false)], args := [d1, d2, d3] }
  | _ => none }
def ScanPartsWrongFalsely : Prop := scanPartsRow.holds Try.pinned (OpenSpec.ofChange scanPartsWrong)

/-- 'tenterhooklaw06.ScanSkips': WHATEVER THE INPUT: true; the input reads as it did. -/
def scanSkipsSpec : ChangeSpec := { name := "scanSkips", fn := fun _ => fun
  | [d1, d2] => { results := [.lit (.bool true)], args := [d1, d2] }
  | _ => none }
def scanSkipsRow : OpenClaim := { program := "ytgiapbmeaobjiaa", sum := "07f5cae5ae41f5cb86557742b336076c8f679f99e245c82d271d5f347d64e1d8", func := "tenterhook/tenterhooklaw06.ScanSkips", spec := "scanSkips", inPlace := ["internal/bytealg.IndexByteString", "internal/bytealg.IndexString"], unfollowed := true, recurses := true, named := ["internal/bytealg.MaxLen"], apart := false }
def ScanSkipsSaid : Prop := scanSkipsRow.holds Try.pinned (OpenSpec.ofChange scanSkipsSpec)

/-- ITS FALSE NEIGHBOUR: 'it returns false'. Refute it at one input. -/
def scanSkipsWrong : ChangeSpec := { name := "scanSkips", fn := fun _ => fun
  | [d1, d2] => { results := [.lit (.bool false)], args := [d1, d2] }
  | _ => none }
def ScanSkipsWrongFalsely : Prop := scanSkipsRow.holds Try.pinned (OpenSpec.ofChange scanSkipsWrong)

/- THE SECOND FORM. 'bulk': how many values and letters a reading holds, each counted each time it is reached (what is shared counts as often as it is met; a slice's spare places count too). A statement '..UptoSaid' is the law's where the arguments, and the package variables that the reading takes, are together of bulk at most 1048576: NARROWER than '..Said'. Prove '..Said' where nothing that the law and all that it calls make is longer than what came in: it says more and counts as full. Else prove '..UptoSaid'. A law counts once. -/
mutual
def uptoBulk {H : Type} : DataW H → Nat
  | .lit (.string bytes) => bytes.length + 1
  | .lit _ => 1
  | .nil => 1
  | .ptr d => uptoBulk d + 1
  | .slice elems spare => uptoBulkAll elems + uptoBulkAll spare + 1
  | .agg parts => uptoBulkAll parts + 1
  | .iface _ d => uptoBulk d + 1
  | .map entries => uptoBulkEntries entries + 1
  | .held _ => 1
def uptoBulkAll {H : Type} : List (DataW H) → Nat
  | [] => 0
  | d :: r => uptoBulk d + uptoBulkAll r
def uptoBulkEntries {H : Type} : List (Lit × DataW H) → Nat
  | [] => 0
  | x :: r => uptoBulkEntry x + uptoBulkEntries r
def uptoBulkEntry {H : Type} : Lit × DataW H → Nat
  | (.string bytes, d) => bytes.length + uptoBulk d + 1
  | (_, d) => uptoBulk d + 1
 end
def uptoSmall : (H : Type) → List (DataW H) → Bool := fun _ ds => decide (uptoBulkAll ds ≤ 1048576)
def OpenSpec.upto (s : _root_.Go.ChangeSpec) : _root_.Go.OpenSpec := { _root_.Go.OpenSpec.ofChange s with cond := some uptoSmall }

/-- 'tenterhooklaw06.ScanWords', WHERE WHAT IT READS IS OF BULK AT MOST 1048576: true; the input reads as it did. -/
def scanWordsUptoRow : OpenClaim := { program := "ytgiapbmeaobjiaa", sum := "07f5cae5ae41f5cb86557742b336076c8f679f99e245c82d271d5f347d64e1d8", func := "tenterhook/tenterhooklaw06.ScanWords", spec := "scanWords", inPlace := ["internal/bytealg.IndexByteString", "internal/bytealg.IndexString"], unfollowed := true, recurses := true, named := ["internal/bytealg.MaxLen"], apart := false, narrowed := true }
def ScanWordsUptoSaid : Prop := scanWordsUptoRow.holds Try.pinned (OpenSpec.upto scanWordsSpec)

/-- 'tenterhooklaw06.ScanLines', WHERE WHAT IT READS IS OF BULK AT MOST 1048576: true; the input reads as it did. -/
def scanLinesUptoRow : OpenClaim := { program := "ytgiapbmeaobjiaa", sum := "07f5cae5ae41f5cb86557742b336076c8f679f99e245c82d271d5f347d64e1d8", func := "tenterhook/tenterhooklaw06.ScanLines", spec := "scanLines", inPlace := ["internal/bytealg.IndexByteString", "internal/bytealg.IndexString"], unfollowed := true, recurses := true, named := ["internal/bytealg.MaxLen"], apart := false, narrowed := true }
def ScanLinesUptoSaid : Prop := scanLinesUptoRow.holds Try.pinned (OpenSpec.upto scanLinesSpec)

/-- 'tenterhooklaw06.ScanBlanks', WHERE WHAT IT READS IS OF BULK AT MOST 1048576: true; the input reads as it did. -/
def scanBlanksUptoRow : OpenClaim := { program := "ytgiapbmeaobjiaa", sum := "07f5cae5ae41f5cb86557742b336076c8f679f99e245c82d271d5f347d64e1d8", func := "tenterhook/tenterhooklaw06.ScanBlanks", spec := "scanBlanks", inPlace := ["internal/bytealg.IndexByteString", "internal/bytealg.IndexString"], unfollowed := true, recurses := true, named := ["internal/bytealg.MaxLen"], apart := false, narrowed := true }
def ScanBlanksUptoSaid : Prop := scanBlanksUptoRow.holds Try.pinned (OpenSpec.upto scanBlanksSpec)

/-- 'tenterhooklaw06.ScanIs', WHERE WHAT IT READS IS OF BULK AT MOST 1048576: true; the input reads as it did. -/
def scanIsUptoRow : OpenClaim := { program := "ytgiapbmeaobjiaa", sum := "07f5cae5ae41f5cb86557742b336076c8f679f99e245c82d271d5f347d64e1d8", func := "tenterhook/tenterhooklaw06.ScanIs", spec := "scanIs", inPlace := ["internal/bytealg.IndexByteString", "internal/bytealg.IndexString"], unfollowed := true, recurses := true, named := ["internal/bytealg.MaxLen"], apart := false, narrowed := true }
def ScanIsUptoSaid : Prop := scanIsUptoRow.holds Try.pinned (OpenSpec.upto scanIsSpec)

/-- 'tenterhooklaw06.ScanParts', WHERE WHAT IT READS IS OF BULK AT MOST 1048576: true; the input reads as it did. -/
def scanPartsUptoRow : OpenClaim := { program := "ytgiapbmeaobjiaa", sum := "07f5cae5ae41f5cb86557742b336076c8f679f99e245c82d271d5f347d64e1d8", func := "tenterhook/tenterhooklaw06.ScanParts", spec := "scanParts", inPlace := ["internal/bytealg.IndexByteString", "internal/bytealg.IndexString"], unfollowed := true, recurses := true, named := ["internal/bytealg.MaxLen"], apart := false, narrowed := true }
def ScanPartsUptoSaid : Prop := scanPartsUptoRow.holds Try.pinned (OpenSpec.upto scanPartsSpec)

/-- 'tenterhooklaw06.ScanSkips', WHERE WHAT IT READS IS OF BULK AT MOST 1048576: true; the input reads as it did. -/
def scanSkipsUptoRow : OpenClaim := { program := "ytgiapbmeaobjiaa", sum := "07f5cae5ae41f5cb86557742b336076c8f679f99e245c82d271d5f347d64e1d8", func := "tenterhook/tenterhooklaw06.ScanSkips", spec := "scanSkips", inPlace := ["internal/bytealg.IndexByteString", "internal/bytealg.IndexString"], unfollowed := true, recurses := true, named := ["internal/bytealg.MaxLen"], apart := false, narrowed := true }
def ScanSkipsUptoSaid : Prop := scanSkipsUptoRow.holds Try.pinned (OpenSpec.upto scanSkipsSpec)

end Rows
end Go.Proofs.Ytgiapbmeaobjiaa
