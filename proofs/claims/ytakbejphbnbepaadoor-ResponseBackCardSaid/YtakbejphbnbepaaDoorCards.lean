/-
  DERIVED. GIVEN WITH THE SEED: THE CARDS: each row of YtakbejphbnbepaaDoorRows.lean that lists a variable, with what it lists TIED to the program's text (the seventh form; the later family's looks); each row that meets fmt, with fmt's text TOLD by the authors' own Lean function (tested against real Go, not proved from fmt's source: count such statements apart). THE CARD IS WHAT COUNTS. Prove the row's statement (the work); the ties are given (YtakbejphbnbepaaDoorTie.lean); close each card by the builder's one call (the guide's Derived/Test/ToyasCard.lean, 'card_holds'). Laid BY PROGRAM, IN A SANDBOX (cutbox-door.mjs). By AI agents, Wed Nov 11 2026. No macro, syntax, notation, axiom, sorry.
-/
import Derived.Test.YtakbejphbnbepaaDoorRows
import GoSem.ClaimSeven
namespace Go.Proofs.YtakbejphbnbepaaDoor
namespace Rows

/-- THE TIED CARD OF 'cartularylaw19.ResponseNames'. -/
def responseNamesCard : Claim7 := { stood := { row := responseNamesRow, standIns := [], harness := (true, "8842f951e4df9c95b6a39be78247aadb91d8642175ed26d8a44a24baf1ee3a3f"), looks := true }, kinds := [], alts := [], laidByText := true, laidKinds := [.data, .data, .data, .data, .sentinel, .sentinel, .pinned], laidTests := true, laidLooks := .later }
def ResponseNamesCardSaid : Prop := Claim7.holds Tryd.pinned (.plain (OpenSpec.ofChange responseNamesSpec)) responseNamesCard

/-- THE TIED CARD OF 'cartularylaw19.ResponseWrites'. -/
def responseWritesCard : Claim7 := { stood := { row := responseWritesRow, standIns := [], harness := (true, "8842f951e4df9c95b6a39be78247aadb91d8642175ed26d8a44a24baf1ee3a3f"), looks := true }, kinds := [], alts := [], laidByText := true, laidKinds := [.data, .data, .data, .data, .sentinel, .sentinel, .pinned], laidTests := true, laidLooks := .later }
def ResponseWritesCardSaid : Prop := Claim7.holds Tryd.pinned (.plain (OpenSpec.ofChange responseWritesSpec)) responseWritesCard

/-- THE TIED CARD OF 'cartularylaw19.ResponseUnlike'. -/
def responseUnlikeCard : Claim7 := { stood := { row := responseUnlikeRow, standIns := [], harness := (true, "8842f951e4df9c95b6a39be78247aadb91d8642175ed26d8a44a24baf1ee3a3f"), looks := true }, kinds := [], alts := [], laidByText := true, laidKinds := [.data, .data, .data, .data, .sentinel, .sentinel, .pinned], laidTests := true, laidLooks := .later }
def ResponseUnlikeCardSaid : Prop := Claim7.holds Tryd.pinned (.plain (OpenSpec.ofChange responseUnlikeSpec)) responseUnlikeCard

/-- THE TIED CARD OF 'cartularylaw19.ResponseReads'. -/
def responseReadsCard : Claim7 := { stood := { row := responseReadsRow, standIns := [], harness := (true, "8842f951e4df9c95b6a39be78247aadb91d8642175ed26d8a44a24baf1ee3a3f"), looks := true }, kinds := [], alts := [], laidByText := true, laidKinds := [.data, .data, .data, .data, .sentinel, .sentinel, .pinned], laidTests := true, laidLooks := .later }
def ResponseReadsCardSaid : Prop := Claim7.holds Tryd.pinned (.plain (OpenSpec.ofChange responseReadsSpec)) responseReadsCard

/-- THE TIED CARD OF 'cartularylaw19.ResponseBack'. -/
def responseBackCard : Claim7 := { stood := { row := responseBackRow, standIns := [], harness := (true, "8842f951e4df9c95b6a39be78247aadb91d8642175ed26d8a44a24baf1ee3a3f"), looks := true }, kinds := [], alts := [], laidByText := true, laidKinds := [.data, .data, .data, .data, .sentinel, .sentinel, .pinned], laidTests := true, laidLooks := .later }
def ResponseBackCardSaid : Prop := Claim7.holds Tryd.pinned (.plain (OpenSpec.ofChange responseBackSpec)) responseBackCard

/-- THE SECOND FORM's CARD OF 'cartularylaw19.ResponseNames'. -/
def responseNamesUptoCard : Claim7 := { stood := { row := responseNamesUptoRow, standIns := [], harness := (true, "8842f951e4df9c95b6a39be78247aadb91d8642175ed26d8a44a24baf1ee3a3f"), looks := true }, kinds := [], alts := [], laidByText := true, laidKinds := [.data, .data, .data, .data, .sentinel, .sentinel, .pinned], laidTests := true, laidLooks := .later }
def ResponseNamesUptoCardSaid : Prop := Claim7.holds Tryd.pinned (.plain (OpenSpec.upto responseNamesSpec)) responseNamesUptoCard

/-- THE SECOND FORM's CARD OF 'cartularylaw19.ResponseWrites'. -/
def responseWritesUptoCard : Claim7 := { stood := { row := responseWritesUptoRow, standIns := [], harness := (true, "8842f951e4df9c95b6a39be78247aadb91d8642175ed26d8a44a24baf1ee3a3f"), looks := true }, kinds := [], alts := [], laidByText := true, laidKinds := [.data, .data, .data, .data, .sentinel, .sentinel, .pinned], laidTests := true, laidLooks := .later }
def ResponseWritesUptoCardSaid : Prop := Claim7.holds Tryd.pinned (.plain (OpenSpec.upto responseWritesSpec)) responseWritesUptoCard

/-- THE SECOND FORM's CARD OF 'cartularylaw19.ResponseUnlike'. -/
def responseUnlikeUptoCard : Claim7 := { stood := { row := responseUnlikeUptoRow, standIns := [], harness := (true, "8842f951e4df9c95b6a39be78247aadb91d8642175ed26d8a44a24baf1ee3a3f"), looks := true }, kinds := [], alts := [], laidByText := true, laidKinds := [.data, .data, .data, .data, .sentinel, .sentinel, .pinned], laidTests := true, laidLooks := .later }
def ResponseUnlikeUptoCardSaid : Prop := Claim7.holds Tryd.pinned (.plain (OpenSpec.upto responseUnlikeSpec)) responseUnlikeUptoCard

/-- THE SECOND FORM's CARD OF 'cartularylaw19.ResponseReads'. -/
def responseReadsUptoCard : Claim7 := { stood := { row := responseReadsUptoRow, standIns := [], harness := (true, "8842f951e4df9c95b6a39be78247aadb91d8642175ed26d8a44a24baf1ee3a3f"), looks := true }, kinds := [], alts := [], laidByText := true, laidKinds := [.data, .data, .data, .data, .sentinel, .sentinel, .pinned], laidTests := true, laidLooks := .later }
def ResponseReadsUptoCardSaid : Prop := Claim7.holds Tryd.pinned (.plain (OpenSpec.upto responseReadsSpec)) responseReadsUptoCard

/-- THE SECOND FORM's CARD OF 'cartularylaw19.ResponseBack'. -/
def responseBackUptoCard : Claim7 := { stood := { row := responseBackUptoRow, standIns := [], harness := (true, "8842f951e4df9c95b6a39be78247aadb91d8642175ed26d8a44a24baf1ee3a3f"), looks := true }, kinds := [], alts := [], laidByText := true, laidKinds := [.data, .data, .data, .data, .sentinel, .sentinel, .pinned], laidTests := true, laidLooks := .later }
def ResponseBackUptoCardSaid : Prop := Claim7.holds Tryd.pinned (.plain (OpenSpec.upto responseBackSpec)) responseBackUptoCard
end Rows
end Go.Proofs.YtakbejphbnbepaaDoor
