/-
  DERIVED. GIVEN WITH THE SEED: THE CARDS: each row of YtkjjdodnkcmeiaaGreatDoorRows.lean that lists a variable, with what it lists TIED to the program's text (the seventh form; the later family's looks); each row that meets fmt, with fmt's text TOLD by the authors' own Lean function (tested against real Go, not proved from fmt's source: count such statements apart). THE CARD IS WHAT COUNTS. Prove the row's statement (the work); the ties are given (YtkjjdodnkcmeiaaGreatDoorTie.lean); close each card by the builder's one call (the guide's Derived/Test/ToyasCard.lean, 'card_holds'). Laid BY PROGRAM, IN A SANDBOX (cutbox-door.mjs). By AI agents, Wed Nov 11 2026. No macro, syntax, notation, axiom, sorry.
-/
import Derived.Test.YtkjjdodnkcmeiaaGreatDoorRows
import GoSem.ClaimSeven
namespace Go.Proofs.YtkjjdodnkcmeiaaGreatDoor
namespace Rows

/-- THE TIED CARD OF 'turnstilelaw6.PinSeals'. -/
def pinSealsCard : Claim7 := { stood := { row := pinSealsRow, standIns := [], harness := (true, "7e14739b6bc3667aafdcea08ae2be043ad2ce153099d799a43c5b1deedec47d9"), looks := false }, kinds := [], alts := [], laidByText := true, laidKinds := [.data, .pinned], laidTests := true, laidLooks := .later }
def PinSealsCardSaid : Prop := Claim7.holds Tryz.pinned (.plain (OpenSpec.ofChange pinSealsSpec)) pinSealsCard

/-- THE TIED CARD OF 'turnstilelaw6.PinMoves'. -/
def pinMovesCard : Claim7 := { stood := { row := pinMovesRow, standIns := [], harness := (true, "7e14739b6bc3667aafdcea08ae2be043ad2ce153099d799a43c5b1deedec47d9"), looks := false }, kinds := [], alts := [], laidByText := true, laidKinds := [.data, .pinned], laidTests := true, laidLooks := .later }
def PinMovesCardSaid : Prop := Claim7.holds Tryz.pinned (.plain (OpenSpec.ofChange pinMovesSpec)) pinMovesCard

/-- THE SECOND FORM's CARD OF 'turnstilelaw6.PinSeals'. -/
def pinSealsUptoCard : Claim7 := { stood := { row := pinSealsUptoRow, standIns := [], harness := (true, "7e14739b6bc3667aafdcea08ae2be043ad2ce153099d799a43c5b1deedec47d9"), looks := false }, kinds := [], alts := [], laidByText := true, laidKinds := [.data, .pinned], laidTests := true, laidLooks := .later }
def PinSealsUptoCardSaid : Prop := Claim7.holds Tryz.pinned (.plain (OpenSpec.upto pinSealsSpec)) pinSealsUptoCard

/-- THE SECOND FORM's CARD OF 'turnstilelaw6.PinMoves'. -/
def pinMovesUptoCard : Claim7 := { stood := { row := pinMovesUptoRow, standIns := [], harness := (true, "7e14739b6bc3667aafdcea08ae2be043ad2ce153099d799a43c5b1deedec47d9"), looks := false }, kinds := [], alts := [], laidByText := true, laidKinds := [.data, .pinned], laidTests := true, laidLooks := .later }
def PinMovesUptoCardSaid : Prop := Claim7.holds Tryz.pinned (.plain (OpenSpec.upto pinMovesSpec)) pinMovesUptoCard
end Rows
end Go.Proofs.YtkjjdodnkcmeiaaGreatDoor
