/-
  DERIVED. GIVEN WITH THE SEED: THE CARDS: each row of YtkjjdodnkcmeiaaDoorRows.lean that lists a variable, with what it lists TIED to the program's text (the seventh form; the later family's looks); each row that meets fmt, with fmt's text TOLD by the authors' own Lean function (tested against real Go, not proved from fmt's source: count such statements apart). THE CARD IS WHAT COUNTS. Prove the row's statement (the work); the ties are given (YtkjjdodnkcmeiaaDoorTie.lean); close each card by the builder's one call (the guide's Derived/Test/ToyasCard.lean, 'card_holds'). Laid BY PROGRAM, IN A SANDBOX (cutbox-door.mjs). By AI agents, Wed Nov 11 2026. No macro, syntax, notation, axiom, sorry.
-/
import Derived.Test.YtkjjdodnkcmeiaaDoorRows
import GoSem.ClaimSeven
namespace Go.Proofs.YtkjjdodnkcmeiaaDoor
namespace Rows

/-- THE TIED CARD OF 'turnstilelaw6.PinBlocks'. -/
def pinBlocksCard : Claim7 := { stood := { row := pinBlocksRow, standIns := [], harness := (true, "7f7844f764304ed438505d58177db2f427be625d06d6ebdfc92da5e28d9e7053"), looks := false }, kinds := [], alts := [], laidByText := true, laidKinds := [.data, .pinned], laidTests := true, laidLooks := .later }
def PinBlocksCardSaid : Prop := Claim7.holds Tryd.pinned (.plain (OpenSpec.ofChange pinBlocksSpec)) pinBlocksCard

/-- THE TIED CARD OF 'turnstilelaw6.PinRight'. -/
def pinRightCard : Claim7 := { stood := { row := pinRightRow, standIns := [], harness := (true, "7f7844f764304ed438505d58177db2f427be625d06d6ebdfc92da5e28d9e7053"), looks := false }, kinds := [], alts := [], laidByText := true, laidKinds := [.data, .pinned], laidTests := true, laidLooks := .later }
def PinRightCardSaid : Prop := Claim7.holds Tryd.pinned (.plain (OpenSpec.ofChange pinRightSpec)) pinRightCard

/-- THE TIED CARD OF 'turnstilelaw6.PinValues'. -/
def pinValuesCard : Claim7 := { stood := { row := pinValuesRow, standIns := [], harness := (true, "7f7844f764304ed438505d58177db2f427be625d06d6ebdfc92da5e28d9e7053"), looks := false }, kinds := [], alts := [], laidByText := true, laidKinds := [.data, .pinned], laidTests := true, laidLooks := .later }
def PinValuesCardSaid : Prop := Claim7.holds Tryd.pinned (.plain (OpenSpec.ofChange pinValuesSpec)) pinValuesCard

/-- THE TIED CARD OF 'turnstilelaw6.PinValue'. -/
def pinValueCard : Claim7 := { stood := { row := pinValueRow, standIns := [], harness := (true, "7f7844f764304ed438505d58177db2f427be625d06d6ebdfc92da5e28d9e7053"), looks := false }, kinds := [], alts := [], laidByText := true, laidKinds := [.data, .pinned], laidTests := true, laidLooks := .later }
def PinValueCardSaid : Prop := Claim7.holds Tryd.pinned (.plain (OpenSpec.ofChange pinValueSpec)) pinValueCard

/-- THE TIED CARD OF 'turnstilelaw6.PinBack'. -/
def pinBackCard : Claim7 := { stood := { row := pinBackRow, standIns := [], harness := (true, "7f7844f764304ed438505d58177db2f427be625d06d6ebdfc92da5e28d9e7053"), looks := false }, kinds := [], alts := [], laidByText := true, laidKinds := [.data, .pinned], laidTests := true, laidLooks := .later }
def PinBackCardSaid : Prop := Claim7.holds Tryd.pinned (.plain (OpenSpec.ofChange pinBackSpec)) pinBackCard

/-- THE TIED CARD OF 'turnstilelaw6.PinThere'. -/
def pinThereCard : Claim7 := { stood := { row := pinThereRow, standIns := [], harness := (true, "7f7844f764304ed438505d58177db2f427be625d06d6ebdfc92da5e28d9e7053"), looks := false }, kinds := [], alts := [], laidByText := true, laidKinds := [.data, .pinned], laidTests := true, laidLooks := .later }
def PinThereCardSaid : Prop := Claim7.holds Tryd.pinned (.plain (OpenSpec.ofChange pinThereSpec)) pinThereCard

/-- THE SECOND FORM's CARD OF 'turnstilelaw6.PinBlocks'. -/
def pinBlocksUptoCard : Claim7 := { stood := { row := pinBlocksUptoRow, standIns := [], harness := (true, "7f7844f764304ed438505d58177db2f427be625d06d6ebdfc92da5e28d9e7053"), looks := false }, kinds := [], alts := [], laidByText := true, laidKinds := [.data, .pinned], laidTests := true, laidLooks := .later }
def PinBlocksUptoCardSaid : Prop := Claim7.holds Tryd.pinned (.plain (OpenSpec.upto pinBlocksSpec)) pinBlocksUptoCard

/-- THE SECOND FORM's CARD OF 'turnstilelaw6.PinRight'. -/
def pinRightUptoCard : Claim7 := { stood := { row := pinRightUptoRow, standIns := [], harness := (true, "7f7844f764304ed438505d58177db2f427be625d06d6ebdfc92da5e28d9e7053"), looks := false }, kinds := [], alts := [], laidByText := true, laidKinds := [.data, .pinned], laidTests := true, laidLooks := .later }
def PinRightUptoCardSaid : Prop := Claim7.holds Tryd.pinned (.plain (OpenSpec.upto pinRightSpec)) pinRightUptoCard

/-- THE SECOND FORM's CARD OF 'turnstilelaw6.PinValues'. -/
def pinValuesUptoCard : Claim7 := { stood := { row := pinValuesUptoRow, standIns := [], harness := (true, "7f7844f764304ed438505d58177db2f427be625d06d6ebdfc92da5e28d9e7053"), looks := false }, kinds := [], alts := [], laidByText := true, laidKinds := [.data, .pinned], laidTests := true, laidLooks := .later }
def PinValuesUptoCardSaid : Prop := Claim7.holds Tryd.pinned (.plain (OpenSpec.upto pinValuesSpec)) pinValuesUptoCard

/-- THE SECOND FORM's CARD OF 'turnstilelaw6.PinValue'. -/
def pinValueUptoCard : Claim7 := { stood := { row := pinValueUptoRow, standIns := [], harness := (true, "7f7844f764304ed438505d58177db2f427be625d06d6ebdfc92da5e28d9e7053"), looks := false }, kinds := [], alts := [], laidByText := true, laidKinds := [.data, .pinned], laidTests := true, laidLooks := .later }
def PinValueUptoCardSaid : Prop := Claim7.holds Tryd.pinned (.plain (OpenSpec.upto pinValueSpec)) pinValueUptoCard

/-- THE SECOND FORM's CARD OF 'turnstilelaw6.PinBack'. -/
def pinBackUptoCard : Claim7 := { stood := { row := pinBackUptoRow, standIns := [], harness := (true, "7f7844f764304ed438505d58177db2f427be625d06d6ebdfc92da5e28d9e7053"), looks := false }, kinds := [], alts := [], laidByText := true, laidKinds := [.data, .pinned], laidTests := true, laidLooks := .later }
def PinBackUptoCardSaid : Prop := Claim7.holds Tryd.pinned (.plain (OpenSpec.upto pinBackSpec)) pinBackUptoCard

/-- THE SECOND FORM's CARD OF 'turnstilelaw6.PinThere'. -/
def pinThereUptoCard : Claim7 := { stood := { row := pinThereUptoRow, standIns := [], harness := (true, "7f7844f764304ed438505d58177db2f427be625d06d6ebdfc92da5e28d9e7053"), looks := false }, kinds := [], alts := [], laidByText := true, laidKinds := [.data, .pinned], laidTests := true, laidLooks := .later }
def PinThereUptoCardSaid : Prop := Claim7.holds Tryd.pinned (.plain (OpenSpec.upto pinThereSpec)) pinThereUptoCard
end Rows
end Go.Proofs.YtkjjdodnkcmeiaaDoor
