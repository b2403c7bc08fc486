/-
  DERIVED. GIVEN WITH THE SEED: THE CARDS: each row of YtmcnblibnbkfjaaGreatDoorRows.lean that lists a variable, with what it lists TIED to the program's text (the seventh form; the later family's looks); each row that meets fmt, with fmt's text TOLD by the authors' own Lean function (tested against real Go, not proved from fmt's source: count such statements apart). THE CARD IS WHAT COUNTS. Prove the row's statement (the work); the ties are given (YtmcnblibnbkfjaaGreatDoorTie.lean); close each card by the builder's one call (the guide's Derived/Test/ToyasCard.lean, 'card_holds'). Laid BY PROGRAM, IN A SANDBOX (cutbox-door.mjs). By AI agents, Wed Nov 11 2026. No macro, syntax, notation, axiom, sorry.
-/
import Derived.Test.YtmcnblibnbkfjaaGreatDoorRows
import GoSem.ClaimSeven
namespace Go.Proofs.YtmcnblibnbkfjaaGreatDoor
namespace Rows

/-- THE TIED CARD OF 'cartularylaw12.FormReads'. -/
def formReadsCard : Claim7 := { stood := { row := formReadsRow, standIns := [], harness := (true, "f53492c4ee507a6844c96766b542dd3ef200a8b225aa6f1f8c2f4340c4e4047e"), looks := true }, kinds := [], alts := [], laidByText := true, laidKinds := [.data, .data, .data, .sentinel, .sentinel], laidTests := true, laidLooks := .later }
def FormReadsCardSaid : Prop := Claim7.holds Tryz.pinned (.plain (OpenSpec.ofChange formReadsSpec)) formReadsCard

/-- THE TIED CARD OF 'cartularylaw12.FormSets'. -/
def formSetsCard : Claim7 := { stood := { row := formSetsRow, standIns := [], harness := (true, "f53492c4ee507a6844c96766b542dd3ef200a8b225aa6f1f8c2f4340c4e4047e"), looks := true }, kinds := [], alts := [], laidByText := true, laidKinds := [.data, .data, .data, .sentinel, .sentinel], laidTests := true, laidLooks := .later }
def FormSetsCardSaid : Prop := Claim7.holds Tryz.pinned (.plain (OpenSpec.ofChange formSetsSpec)) formSetsCard

/-- THE TIED CARD OF 'cartularylaw12.FormKeeps'. -/
def formKeepsCard : Claim7 := { stood := { row := formKeepsRow, standIns := [], harness := (true, "f53492c4ee507a6844c96766b542dd3ef200a8b225aa6f1f8c2f4340c4e4047e"), looks := true }, kinds := [], alts := [], laidByText := true, laidKinds := [.data, .data, .data, .sentinel, .sentinel], laidTests := true, laidLooks := .later }
def FormKeepsCardSaid : Prop := Claim7.holds Tryz.pinned (.plain (OpenSpec.ofChange formKeepsSpec)) formKeepsCard

/-- THE SECOND FORM's CARD OF 'cartularylaw12.FormReads'. -/
def formReadsUptoCard : Claim7 := { stood := { row := formReadsUptoRow, standIns := [], harness := (true, "f53492c4ee507a6844c96766b542dd3ef200a8b225aa6f1f8c2f4340c4e4047e"), looks := true }, kinds := [], alts := [], laidByText := true, laidKinds := [.data, .data, .data, .sentinel, .sentinel], laidTests := true, laidLooks := .later }
def FormReadsUptoCardSaid : Prop := Claim7.holds Tryz.pinned (.plain (OpenSpec.upto formReadsSpec)) formReadsUptoCard

/-- THE SECOND FORM's CARD OF 'cartularylaw12.FormSets'. -/
def formSetsUptoCard : Claim7 := { stood := { row := formSetsUptoRow, standIns := [], harness := (true, "f53492c4ee507a6844c96766b542dd3ef200a8b225aa6f1f8c2f4340c4e4047e"), looks := true }, kinds := [], alts := [], laidByText := true, laidKinds := [.data, .data, .data, .sentinel, .sentinel], laidTests := true, laidLooks := .later }
def FormSetsUptoCardSaid : Prop := Claim7.holds Tryz.pinned (.plain (OpenSpec.upto formSetsSpec)) formSetsUptoCard

/-- THE SECOND FORM's CARD OF 'cartularylaw12.FormKeeps'. -/
def formKeepsUptoCard : Claim7 := { stood := { row := formKeepsUptoRow, standIns := [], harness := (true, "f53492c4ee507a6844c96766b542dd3ef200a8b225aa6f1f8c2f4340c4e4047e"), looks := true }, kinds := [], alts := [], laidByText := true, laidKinds := [.data, .data, .data, .sentinel, .sentinel], laidTests := true, laidLooks := .later }
def FormKeepsUptoCardSaid : Prop := Claim7.holds Tryz.pinned (.plain (OpenSpec.upto formKeepsSpec)) formKeepsUptoCard
end Rows
end Go.Proofs.YtmcnblibnbkfjaaGreatDoor
