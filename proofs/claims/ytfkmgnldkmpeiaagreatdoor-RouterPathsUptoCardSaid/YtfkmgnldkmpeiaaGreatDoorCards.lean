/-
  DERIVED. GIVEN WITH THE SEED: THE CARDS: each row of YtfkmgnldkmpeiaaGreatDoorRows.lean that lists a variable, with what it lists TIED to the program's text (the seventh form; the later family's looks); each row that meets fmt, with fmt's text TOLD by the authors' own Lean function (tested against real Go, not proved from fmt's source: count such statements apart). THE CARD IS WHAT COUNTS. Prove the row's statement (the work); the ties are given (YtfkmgnldkmpeiaaGreatDoorTie.lean); close each card by the builder's one call (the guide's Derived/Test/ToyasCard.lean, 'card_holds'). Laid BY PROGRAM, IN A SANDBOX (cutbox-door.mjs). By AI agents, Wed Nov 11 2026. No macro, syntax, notation, axiom, sorry.
-/
import Derived.Test.YtfkmgnldkmpeiaaGreatDoorRows
import GoSem.ClaimSeven
namespace Go.Proofs.YtfkmgnldkmpeiaaGreatDoor
namespace Rows

/-- THE TIED CARD OF 'cartularylaw20.RouterNames'. -/
def routerNamesCard : Claim7 := { stood := { row := routerNamesRow, standIns := [], harness := (true, "31833c2746ca356f38c9687e4d3225de4661ac6d79e2d45e0936e234ef5fe43e"), looks := true }, kinds := [], alts := [], laidByText := true, laidKinds := [.data, .data, .data, .data, .sentinel, .sentinel, .pinned], laidTests := true, laidLooks := .later }
def RouterNamesCardSaid : Prop := Claim7.holds Tryz.pinned (.plain (OpenSpec.ofChange routerNamesSpec)) routerNamesCard

/-- THE TIED CARD OF 'cartularylaw20.RouterRoutes'. -/
def routerRoutesCard : Claim7 := { stood := { row := routerRoutesRow, standIns := [], harness := (true, "31833c2746ca356f38c9687e4d3225de4661ac6d79e2d45e0936e234ef5fe43e"), looks := true }, kinds := [], alts := [], laidByText := true, laidKinds := [.data, .data, .data, .data, .sentinel, .sentinel, .pinned], laidTests := true, laidLooks := .later }
def RouterRoutesCardSaid : Prop := Claim7.holds Tryz.pinned (.plain (OpenSpec.ofChange routerRoutesSpec)) routerRoutesCard

/-- THE TIED CARD OF 'cartularylaw20.RouterPaths'. -/
def routerPathsCard : Claim7 := { stood := { row := routerPathsRow, standIns := [], harness := (true, "31833c2746ca356f38c9687e4d3225de4661ac6d79e2d45e0936e234ef5fe43e"), looks := true }, kinds := [], alts := [], laidByText := true, laidKinds := [.data, .data, .data, .data, .sentinel, .sentinel, .pinned], laidTests := true, laidLooks := .later }
def RouterPathsCardSaid : Prop := Claim7.holds Tryz.pinned (.plain (OpenSpec.ofChange routerPathsSpec)) routerPathsCard

/-- THE TIED CARD OF 'cartularylaw20.RouterTells'. -/
def routerTellsCard : Claim7 := { stood := { row := routerTellsRow, standIns := [], harness := (true, "31833c2746ca356f38c9687e4d3225de4661ac6d79e2d45e0936e234ef5fe43e"), looks := true }, kinds := [], alts := [], laidByText := true, laidKinds := [.data, .data, .data, .data, .sentinel, .sentinel, .pinned], laidTests := true, laidLooks := .later }
def RouterTellsCardSaid : Prop := Claim7.holds Tryz.pinned (.plain (OpenSpec.ofChange routerTellsSpec)) routerTellsCard

/-- THE TIED CARD OF 'cartularylaw20.RouterStreams'. -/
def routerStreamsCard : Claim7 := { stood := { row := routerStreamsRow, standIns := [], harness := (true, "31833c2746ca356f38c9687e4d3225de4661ac6d79e2d45e0936e234ef5fe43e"), looks := true }, kinds := [], alts := [], laidByText := true, laidKinds := [.data, .data, .data, .data, .sentinel, .sentinel, .pinned], laidTests := true, laidLooks := .later }
def RouterStreamsCardSaid : Prop := Claim7.holds Tryz.pinned (.plain (OpenSpec.ofChange routerStreamsSpec)) routerStreamsCard

/-- THE TIED CARD OF 'cartularylaw20.RouterAnswers'. -/
def routerAnswersCard : Claim7 := { stood := { row := routerAnswersRow, standIns := [], harness := (true, "31833c2746ca356f38c9687e4d3225de4661ac6d79e2d45e0936e234ef5fe43e"), looks := true }, kinds := [], alts := [], laidByText := true, laidKinds := [.data, .data, .data, .data, .sentinel, .sentinel, .pinned], laidTests := true, laidLooks := .later }
def RouterAnswersCardSaid : Prop := Claim7.holds Tryz.pinned (.plain (OpenSpec.ofChange routerAnswersSpec)) routerAnswersCard

/-- THE SECOND FORM's CARD OF 'cartularylaw20.RouterNames'. -/
def routerNamesUptoCard : Claim7 := { stood := { row := routerNamesUptoRow, standIns := [], harness := (true, "31833c2746ca356f38c9687e4d3225de4661ac6d79e2d45e0936e234ef5fe43e"), looks := true }, kinds := [], alts := [], laidByText := true, laidKinds := [.data, .data, .data, .data, .sentinel, .sentinel, .pinned], laidTests := true, laidLooks := .later }
def RouterNamesUptoCardSaid : Prop := Claim7.holds Tryz.pinned (.plain (OpenSpec.upto routerNamesSpec)) routerNamesUptoCard

/-- THE SECOND FORM's CARD OF 'cartularylaw20.RouterRoutes'. -/
def routerRoutesUptoCard : Claim7 := { stood := { row := routerRoutesUptoRow, standIns := [], harness := (true, "31833c2746ca356f38c9687e4d3225de4661ac6d79e2d45e0936e234ef5fe43e"), looks := true }, kinds := [], alts := [], laidByText := true, laidKinds := [.data, .data, .data, .data, .sentinel, .sentinel, .pinned], laidTests := true, laidLooks := .later }
def RouterRoutesUptoCardSaid : Prop := Claim7.holds Tryz.pinned (.plain (OpenSpec.upto routerRoutesSpec)) routerRoutesUptoCard

/-- THE SECOND FORM's CARD OF 'cartularylaw20.RouterPaths'. -/
def routerPathsUptoCard : Claim7 := { stood := { row := routerPathsUptoRow, standIns := [], harness := (true, "31833c2746ca356f38c9687e4d3225de4661ac6d79e2d45e0936e234ef5fe43e"), looks := true }, kinds := [], alts := [], laidByText := true, laidKinds := [.data, .data, .data, .data, .sentinel, .sentinel, .pinned], laidTests := true, laidLooks := .later }
def RouterPathsUptoCardSaid : Prop := Claim7.holds Tryz.pinned (.plain (OpenSpec.upto routerPathsSpec)) routerPathsUptoCard

/-- THE SECOND FORM's CARD OF 'cartularylaw20.RouterTells'. -/
def routerTellsUptoCard : Claim7 := { stood := { row := routerTellsUptoRow, standIns := [], harness := (true, "31833c2746ca356f38c9687e4d3225de4661ac6d79e2d45e0936e234ef5fe43e"), looks := true }, kinds := [], alts := [], laidByText := true, laidKinds := [.data, .data, .data, .data, .sentinel, .sentinel, .pinned], laidTests := true, laidLooks := .later }
def RouterTellsUptoCardSaid : Prop := Claim7.holds Tryz.pinned (.plain (OpenSpec.upto routerTellsSpec)) routerTellsUptoCard

/-- THE SECOND FORM's CARD OF 'cartularylaw20.RouterStreams'. -/
def routerStreamsUptoCard : Claim7 := { stood := { row := routerStreamsUptoRow, standIns := [], harness := (true, "31833c2746ca356f38c9687e4d3225de4661ac6d79e2d45e0936e234ef5fe43e"), looks := true }, kinds := [], alts := [], laidByText := true, laidKinds := [.data, .data, .data, .data, .sentinel, .sentinel, .pinned], laidTests := true, laidLooks := .later }
def RouterStreamsUptoCardSaid : Prop := Claim7.holds Tryz.pinned (.plain (OpenSpec.upto routerStreamsSpec)) routerStreamsUptoCard

/-- THE SECOND FORM's CARD OF 'cartularylaw20.RouterAnswers'. -/
def routerAnswersUptoCard : Claim7 := { stood := { row := routerAnswersUptoRow, standIns := [], harness := (true, "31833c2746ca356f38c9687e4d3225de4661ac6d79e2d45e0936e234ef5fe43e"), looks := true }, kinds := [], alts := [], laidByText := true, laidKinds := [.data, .data, .data, .data, .sentinel, .sentinel, .pinned], laidTests := true, laidLooks := .later }
def RouterAnswersUptoCardSaid : Prop := Claim7.holds Tryz.pinned (.plain (OpenSpec.upto routerAnswersSpec)) routerAnswersUptoCard
end Rows
end Go.Proofs.YtfkmgnldkmpeiaaGreatDoor
