/-
  DERIVED. GIVEN WITH THE SEED: THE CARDS: each row of YtipnedhclbopdaaDoorRows.lean that lists a variable, with what it lists TIED to the program's text (the seventh form; the later family's looks); each row that meets fmt, with fmt's text TOLD by the authors' own Lean function (tested against real Go, not proved from fmt's source: count such statements apart). THE CARD IS WHAT COUNTS. Prove the row's statement (the work); the ties are given (YtipnedhclbopdaaDoorTie.lean); close each card by the builder's one call (the guide's Derived/Test/ToyasCard.lean, 'card_holds'). Laid BY PROGRAM, IN A SANDBOX (cutbox-door.mjs). By AI agents, Wed Nov 11 2026. No macro, syntax, notation, axiom, sorry.
-/
import Derived.Test.YtipnedhclbopdaaDoorRows
import GoSem.ClaimSeven
namespace Go.Proofs.YtipnedhclbopdaaDoor
namespace Rows

/-- THE TIED CARD OF 'tenterhooklaw22.LinIs'. -/
def linIsCard : Claim7 := { stood := { row := linIsRow, standIns := [], harness := (true, "d6cfdf2df5424e1af604b5cbc879f4d2fc749f86da18e8caf5e3f07a9eeecb4c"), looks := false }, kinds := [], alts := [], laidByText := true, laidKinds := [.data, .data, .data], laidTests := true, laidLooks := .later }
def LinIsCardSaid : Prop := Claim7.holds Tryd.pinned (.plain (OpenSpec.ofChange linIsSpec)) linIsCard

/-- THE TIED CARD OF 'tenterhooklaw22.LinRow'. -/
def linRowCard : Claim7 := { stood := { row := linRowRow, standIns := [], harness := (true, "d6cfdf2df5424e1af604b5cbc879f4d2fc749f86da18e8caf5e3f07a9eeecb4c"), looks := false }, kinds := [], alts := [], laidByText := true, laidKinds := [.data, .data, .data], laidTests := true, laidLooks := .later }
def LinRowCardSaid : Prop := Claim7.holds Tryd.pinned (.plain (OpenSpec.ofChange linRowSpec)) linRowCard

/-- THE TIED CARD OF 'tenterhooklaw22.LinDrops'. -/
def linDropsCard : Claim7 := { stood := { row := linDropsRow, standIns := [], harness := (true, "d6cfdf2df5424e1af604b5cbc879f4d2fc749f86da18e8caf5e3f07a9eeecb4c"), looks := false }, kinds := [], alts := [], laidByText := true, laidKinds := [.data, .data, .data], laidTests := true, laidLooks := .later }
def LinDropsCardSaid : Prop := Claim7.holds Tryd.pinned (.plain (OpenSpec.ofChange linDropsSpec)) linDropsCard

/-- THE TIED CARD OF 'tenterhooklaw22.LinWider'. -/
def linWiderCard : Claim7 := { stood := { row := linWiderRow, standIns := [], harness := (true, "d6cfdf2df5424e1af604b5cbc879f4d2fc749f86da18e8caf5e3f07a9eeecb4c"), looks := false }, kinds := [], alts := [], laidByText := true, laidKinds := [.data, .data, .data], laidTests := true, laidLooks := .later }
def LinWiderCardSaid : Prop := Claim7.holds Tryd.pinned (.plain (OpenSpec.ofChange linWiderSpec)) linWiderCard

/-- THE TIED CARD OF 'tenterhooklaw22.LinSwaps'. -/
def linSwapsCard : Claim7 := { stood := { row := linSwapsRow, standIns := [], harness := (true, "d6cfdf2df5424e1af604b5cbc879f4d2fc749f86da18e8caf5e3f07a9eeecb4c"), looks := false }, kinds := [], alts := [], laidByText := true, laidKinds := [.data, .data, .data], laidTests := true, laidLooks := .later }
def LinSwapsCardSaid : Prop := Claim7.holds Tryd.pinned (.plain (OpenSpec.ofChange linSwapsSpec)) linSwapsCard

/-- THE TIED CARD OF 'tenterhooklaw22.LinBounds'. -/
def linBoundsCard : Claim7 := { stood := { row := linBoundsRow, standIns := [], harness := (true, "d6cfdf2df5424e1af604b5cbc879f4d2fc749f86da18e8caf5e3f07a9eeecb4c"), looks := false }, kinds := [], alts := [], laidByText := true, laidKinds := [.data, .data, .data], laidTests := true, laidLooks := .later }
def LinBoundsCardSaid : Prop := Claim7.holds Tryd.pinned (.plain (OpenSpec.ofChange linBoundsSpec)) linBoundsCard

/-- THE SECOND FORM's CARD OF 'tenterhooklaw22.LinIs'. -/
def linIsUptoCard : Claim7 := { stood := { row := linIsUptoRow, standIns := [], harness := (true, "d6cfdf2df5424e1af604b5cbc879f4d2fc749f86da18e8caf5e3f07a9eeecb4c"), looks := false }, kinds := [], alts := [], laidByText := true, laidKinds := [.data, .data, .data], laidTests := true, laidLooks := .later }
def LinIsUptoCardSaid : Prop := Claim7.holds Tryd.pinned (.plain (OpenSpec.upto linIsSpec)) linIsUptoCard

/-- THE SECOND FORM's CARD OF 'tenterhooklaw22.LinRow'. -/
def linRowUptoCard : Claim7 := { stood := { row := linRowUptoRow, standIns := [], harness := (true, "d6cfdf2df5424e1af604b5cbc879f4d2fc749f86da18e8caf5e3f07a9eeecb4c"), looks := false }, kinds := [], alts := [], laidByText := true, laidKinds := [.data, .data, .data], laidTests := true, laidLooks := .later }
def LinRowUptoCardSaid : Prop := Claim7.holds Tryd.pinned (.plain (OpenSpec.upto linRowSpec)) linRowUptoCard

/-- THE SECOND FORM's CARD OF 'tenterhooklaw22.LinDrops'. -/
def linDropsUptoCard : Claim7 := { stood := { row := linDropsUptoRow, standIns := [], harness := (true, "d6cfdf2df5424e1af604b5cbc879f4d2fc749f86da18e8caf5e3f07a9eeecb4c"), looks := false }, kinds := [], alts := [], laidByText := true, laidKinds := [.data, .data, .data], laidTests := true, laidLooks := .later }
def LinDropsUptoCardSaid : Prop := Claim7.holds Tryd.pinned (.plain (OpenSpec.upto linDropsSpec)) linDropsUptoCard

/-- THE SECOND FORM's CARD OF 'tenterhooklaw22.LinWider'. -/
def linWiderUptoCard : Claim7 := { stood := { row := linWiderUptoRow, standIns := [], harness := (true, "d6cfdf2df5424e1af604b5cbc879f4d2fc749f86da18e8caf5e3f07a9eeecb4c"), looks := false }, kinds := [], alts := [], laidByText := true, laidKinds := [.data, .data, .data], laidTests := true, laidLooks := .later }
def LinWiderUptoCardSaid : Prop := Claim7.holds Tryd.pinned (.plain (OpenSpec.upto linWiderSpec)) linWiderUptoCard

/-- THE SECOND FORM's CARD OF 'tenterhooklaw22.LinSwaps'. -/
def linSwapsUptoCard : Claim7 := { stood := { row := linSwapsUptoRow, standIns := [], harness := (true, "d6cfdf2df5424e1af604b5cbc879f4d2fc749f86da18e8caf5e3f07a9eeecb4c"), looks := false }, kinds := [], alts := [], laidByText := true, laidKinds := [.data, .data, .data], laidTests := true, laidLooks := .later }
def LinSwapsUptoCardSaid : Prop := Claim7.holds Tryd.pinned (.plain (OpenSpec.upto linSwapsSpec)) linSwapsUptoCard

/-- THE SECOND FORM's CARD OF 'tenterhooklaw22.LinBounds'. -/
def linBoundsUptoCard : Claim7 := { stood := { row := linBoundsUptoRow, standIns := [], harness := (true, "d6cfdf2df5424e1af604b5cbc879f4d2fc749f86da18e8caf5e3f07a9eeecb4c"), looks := false }, kinds := [], alts := [], laidByText := true, laidKinds := [.data, .data, .data], laidTests := true, laidLooks := .later }
def LinBoundsUptoCardSaid : Prop := Claim7.holds Tryd.pinned (.plain (OpenSpec.upto linBoundsSpec)) linBoundsUptoCard
end Rows
end Go.Proofs.YtipnedhclbopdaaDoor
