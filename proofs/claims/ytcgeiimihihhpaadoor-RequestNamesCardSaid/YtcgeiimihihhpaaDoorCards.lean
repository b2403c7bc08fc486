/-
  DERIVED. GIVEN WITH THE SEED: THE CARDS: each row of YtcgeiimihihhpaaDoorRows.lean that lists a variable, with what it lists TIED to the program's text (the seventh form; the later family's looks); each row that meets fmt, with fmt's text TOLD by the authors' own Lean function (tested against real Go, not proved from fmt's source: count such statements apart). THE CARD IS WHAT COUNTS. Prove the row's statement (the work); the ties are given (YtcgeiimihihhpaaDoorTie.lean); close each card by the builder's one call (the guide's Derived/Test/ToyasCard.lean, 'card_holds'). Laid BY PROGRAM, IN A SANDBOX (cutbox-door.mjs). By AI agents, Wed Nov 11 2026. No macro, syntax, notation, axiom, sorry.
-/
import Derived.Test.YtcgeiimihihhpaaDoorRows
import GoSem.ClaimSeven
namespace Go.Proofs.YtcgeiimihihhpaaDoor
namespace Rows

/-- THE TIED CARD OF 'cartularylaw18.RequestNames'. -/
def requestNamesCard : Claim7 := { stood := { row := requestNamesRow, standIns := [], harness := (true, "d96e67ee1f753437b99a8bb308a463daa7084e126d607593a8108b1f9acb4981"), looks := true }, kinds := [], alts := [], laidByText := true, laidKinds := [.data, .data, .data, .data, .sentinel, .sentinel, .pinned], laidTests := true, laidLooks := .later }
def RequestNamesCardSaid : Prop := Claim7.holds Tryd.pinned (.plain (OpenSpec.ofChange requestNamesSpec)) requestNamesCard

/-- THE TIED CARD OF 'cartularylaw18.RequestHeads'. -/
def requestHeadsCard : Claim7 := { stood := { row := requestHeadsRow, standIns := [], harness := (true, "d96e67ee1f753437b99a8bb308a463daa7084e126d607593a8108b1f9acb4981"), looks := true }, kinds := [], alts := [], laidByText := true, laidKinds := [.data, .data, .data, .data, .sentinel, .sentinel, .pinned], laidTests := true, laidLooks := .later }
def RequestHeadsCardSaid : Prop := Claim7.holds Tryd.pinned (.plain (OpenSpec.ofChange requestHeadsSpec)) requestHeadsCard

/-- THE SECOND FORM's CARD OF 'cartularylaw18.RequestNames'. -/
def requestNamesUptoCard : Claim7 := { stood := { row := requestNamesUptoRow, standIns := [], harness := (true, "d96e67ee1f753437b99a8bb308a463daa7084e126d607593a8108b1f9acb4981"), looks := true }, kinds := [], alts := [], laidByText := true, laidKinds := [.data, .data, .data, .data, .sentinel, .sentinel, .pinned], laidTests := true, laidLooks := .later }
def RequestNamesUptoCardSaid : Prop := Claim7.holds Tryd.pinned (.plain (OpenSpec.upto requestNamesSpec)) requestNamesUptoCard

/-- THE SECOND FORM's CARD OF 'cartularylaw18.RequestHeads'. -/
def requestHeadsUptoCard : Claim7 := { stood := { row := requestHeadsUptoRow, standIns := [], harness := (true, "d96e67ee1f753437b99a8bb308a463daa7084e126d607593a8108b1f9acb4981"), looks := true }, kinds := [], alts := [], laidByText := true, laidKinds := [.data, .data, .data, .data, .sentinel, .sentinel, .pinned], laidTests := true, laidLooks := .later }
def RequestHeadsUptoCardSaid : Prop := Claim7.holds Tryd.pinned (.plain (OpenSpec.upto requestHeadsSpec)) requestHeadsUptoCard
end Rows
end Go.Proofs.YtcgeiimihihhpaaDoor
