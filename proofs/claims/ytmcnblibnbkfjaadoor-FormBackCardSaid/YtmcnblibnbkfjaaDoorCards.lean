/-
  DERIVED. GIVEN WITH THE SEED: THE CARDS: each row of YtmcnblibnbkfjaaDoorRows.lean that lists a variable, with what it lists TIED to the program's text (the seventh form; the later family's looks); each row that meets fmt, with fmt's text TOLD by the authors' own Lean function (tested against real Go, not proved from fmt's source: count such statements apart). THE CARD IS WHAT COUNTS. Prove the row's statement (the work); the ties are given (YtmcnblibnbkfjaaDoorTie.lean); close each card by the builder's one call (the guide's Derived/Test/ToyasCard.lean, 'card_holds'). Laid BY PROGRAM, IN A SANDBOX (cutbox-door.mjs). By AI agents, Wed Nov 11 2026. No macro, syntax, notation, axiom, sorry.
-/
import Derived.Test.YtmcnblibnbkfjaaDoorRows
import GoSem.ClaimSeven
namespace Go.Proofs.YtmcnblibnbkfjaaDoor
namespace Rows

/-- THE TIED CARD OF 'cartularylaw12.FormNames'. -/
def formNamesCard : Claim7 := { stood := { row := formNamesRow, standIns := [], harness := (true, "6fb9c23722b5d66606da700a41e3520c5fe5a7628b5df2af9623d48b18f723a5"), looks := true }, kinds := [], alts := [], laidByText := true, laidKinds := [.data, .data, .data, .sentinel, .sentinel], laidTests := true, laidLooks := .later }
def FormNamesCardSaid : Prop := Claim7.holds Tryd.pinned (.plain (OpenSpec.ofChange formNamesSpec)) formNamesCard

/-- THE TIED CARD OF 'cartularylaw12.FormWrites'. -/
def formWritesCard : Claim7 := { stood := { row := formWritesRow, standIns := [], harness := (true, "6fb9c23722b5d66606da700a41e3520c5fe5a7628b5df2af9623d48b18f723a5"), looks := true }, kinds := [], alts := [], laidByText := true, laidKinds := [.data, .data, .data, .sentinel, .sentinel], laidTests := true, laidLooks := .later }
def FormWritesCardSaid : Prop := Claim7.holds Tryd.pinned (.plain (OpenSpec.ofChange formWritesSpec)) formWritesCard

/-- THE TIED CARD OF 'cartularylaw12.FormBack'. -/
def formBackCard : Claim7 := { stood := { row := formBackRow, standIns := [], harness := (true, "6fb9c23722b5d66606da700a41e3520c5fe5a7628b5df2af9623d48b18f723a5"), looks := true }, kinds := [], alts := [], laidByText := true, laidKinds := [.data, .data, .data, .sentinel, .sentinel], laidTests := true, laidLooks := .later }
def FormBackCardSaid : Prop := Claim7.holds Tryd.pinned (.plain (OpenSpec.ofChange formBackSpec)) formBackCard

/-- THE TIED CARD OF 'cartularylaw12.FormEscapes'. -/
def formEscapesCard : Claim7 := { stood := { row := formEscapesRow, standIns := [], harness := (true, "6fb9c23722b5d66606da700a41e3520c5fe5a7628b5df2af9623d48b18f723a5"), looks := true }, kinds := [], alts := [], laidByText := true, laidKinds := [.data, .data, .data, .sentinel, .sentinel], laidTests := true, laidLooks := .later }
def FormEscapesCardSaid : Prop := Claim7.holds Tryd.pinned (.plain (OpenSpec.ofChange formEscapesSpec)) formEscapesCard

/-- THE SECOND FORM's CARD OF 'cartularylaw12.FormNames'. -/
def formNamesUptoCard : Claim7 := { stood := { row := formNamesUptoRow, standIns := [], harness := (true, "6fb9c23722b5d66606da700a41e3520c5fe5a7628b5df2af9623d48b18f723a5"), looks := true }, kinds := [], alts := [], laidByText := true, laidKinds := [.data, .data, .data, .sentinel, .sentinel], laidTests := true, laidLooks := .later }
def FormNamesUptoCardSaid : Prop := Claim7.holds Tryd.pinned (.plain (OpenSpec.upto formNamesSpec)) formNamesUptoCard

/-- THE SECOND FORM's CARD OF 'cartularylaw12.FormWrites'. -/
def formWritesUptoCard : Claim7 := { stood := { row := formWritesUptoRow, standIns := [], harness := (true, "6fb9c23722b5d66606da700a41e3520c5fe5a7628b5df2af9623d48b18f723a5"), looks := true }, kinds := [], alts := [], laidByText := true, laidKinds := [.data, .data, .data, .sentinel, .sentinel], laidTests := true, laidLooks := .later }
def FormWritesUptoCardSaid : Prop := Claim7.holds Tryd.pinned (.plain (OpenSpec.upto formWritesSpec)) formWritesUptoCard

/-- THE SECOND FORM's CARD OF 'cartularylaw12.FormBack'. -/
def formBackUptoCard : Claim7 := { stood := { row := formBackUptoRow, standIns := [], harness := (true, "6fb9c23722b5d66606da700a41e3520c5fe5a7628b5df2af9623d48b18f723a5"), looks := true }, kinds := [], alts := [], laidByText := true, laidKinds := [.data, .data, .data, .sentinel, .sentinel], laidTests := true, laidLooks := .later }
def FormBackUptoCardSaid : Prop := Claim7.holds Tryd.pinned (.plain (OpenSpec.upto formBackSpec)) formBackUptoCard

/-- THE SECOND FORM's CARD OF 'cartularylaw12.FormEscapes'. -/
def formEscapesUptoCard : Claim7 := { stood := { row := formEscapesUptoRow, standIns := [], harness := (true, "6fb9c23722b5d66606da700a41e3520c5fe5a7628b5df2af9623d48b18f723a5"), looks := true }, kinds := [], alts := [], laidByText := true, laidKinds := [.data, .data, .data, .sentinel, .sentinel], laidTests := true, laidLooks := .later }
def FormEscapesUptoCardSaid : Prop := Claim7.holds Tryd.pinned (.plain (OpenSpec.upto formEscapesSpec)) formEscapesUptoCard
end Rows
end Go.Proofs.YtmcnblibnbkfjaaDoor
