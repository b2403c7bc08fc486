/-
  DERIVED. GIVEN WITH THE SEED: THE CARDS: each row of YtcgeiimihihhpaaGreatDoorRows.lean that lists a variable, with what it lists TIED to the program's text (the seventh form; the later family's looks); each row that meets fmt, with fmt's text TOLD by the authors' own Lean function (tested against real Go, not proved from fmt's source: count such statements apart). THE CARD IS WHAT COUNTS. Prove the row's statement (the work); the ties are given (YtcgeiimihihhpaaGreatDoorTie.lean); close each card by the builder's one call (the guide's Derived/Test/ToyasCard.lean, 'card_holds'). Laid BY PROGRAM, IN A SANDBOX (cutbox-door.mjs). By AI agents, Wed Nov 11 2026. No macro, syntax, notation, axiom, sorry.
-/
import Derived.Test.YtcgeiimihihhpaaGreatDoorRows
import GoSem.ClaimSeven
namespace Go.Proofs.YtcgeiimihihhpaaGreatDoor
namespace Rows

/-- THE TIED CARD OF 'cartularylaw18.RequestParses'. -/
def requestParsesCard : Claim7 := { stood := { row := requestParsesRow, standIns := [], harness := (true, "969e612bcce4852cdfe75797e39faaf7e5f8613c77efddaae415a6478914aa7a"), looks := true }, kinds := [], alts := [], laidByText := true, laidKinds := [.data, .data, .data, .data, .sentinel, .sentinel, .pinned], laidTests := true, laidLooks := .later }
def RequestParsesCardSaid : Prop := Claim7.holds Tryz.pinned (.plain (OpenSpec.ofChange requestParsesSpec)) requestParsesCard

/-- THE TIED CARD OF 'cartularylaw18.RequestGrows'. -/
def requestGrowsCard : Claim7 := { stood := { row := requestGrowsRow, standIns := [], harness := (true, "969e612bcce4852cdfe75797e39faaf7e5f8613c77efddaae415a6478914aa7a"), looks := true }, kinds := [], alts := [], laidByText := true, laidKinds := [.data, .data, .data, .data, .sentinel, .sentinel, .pinned], laidTests := true, laidLooks := .later }
def RequestGrowsCardSaid : Prop := Claim7.holds Tryz.pinned (.plain (OpenSpec.ofChange requestGrowsSpec)) requestGrowsCard

/-- THE TIED CARD OF 'cartularylaw18.RequestSound'. -/
def requestSoundCard : Claim7 := { stood := { row := requestSoundRow, standIns := [], harness := (true, "969e612bcce4852cdfe75797e39faaf7e5f8613c77efddaae415a6478914aa7a"), looks := true }, kinds := [], alts := [], laidByText := true, laidKinds := [.data, .data, .data, .data, .sentinel, .sentinel, .pinned], laidTests := true, laidLooks := .later }
def RequestSoundCardSaid : Prop := Claim7.holds Tryz.pinned (.plain (OpenSpec.ofChange requestSoundSpec)) requestSoundCard

/-- THE TIED CARD OF 'cartularylaw18.RequestPipes'. -/
def requestPipesCard : Claim7 := { stood := { row := requestPipesRow, standIns := [], harness := (true, "969e612bcce4852cdfe75797e39faaf7e5f8613c77efddaae415a6478914aa7a"), looks := true }, kinds := [], alts := [], laidByText := true, laidKinds := [.data, .data, .data, .data, .sentinel, .sentinel, .pinned], laidTests := true, laidLooks := .later }
def RequestPipesCardSaid : Prop := Claim7.holds Tryz.pinned (.plain (OpenSpec.ofChange requestPipesSpec)) requestPipesCard

/-- THE TIED CARD OF 'cartularylaw18.RequestBodies'. -/
def requestBodiesCard : Claim7 := { stood := { row := requestBodiesRow, standIns := [], harness := (true, "969e612bcce4852cdfe75797e39faaf7e5f8613c77efddaae415a6478914aa7a"), looks := true }, kinds := [], alts := [], laidByText := true, laidKinds := [.data, .data, .data, .data, .sentinel, .sentinel, .pinned], laidTests := true, laidLooks := .later }
def RequestBodiesCardSaid : Prop := Claim7.holds Tryz.pinned (.plain (OpenSpec.ofChange requestBodiesSpec)) requestBodiesCard

/-- THE SECOND FORM's CARD OF 'cartularylaw18.RequestParses'. -/
def requestParsesUptoCard : Claim7 := { stood := { row := requestParsesUptoRow, standIns := [], harness := (true, "969e612bcce4852cdfe75797e39faaf7e5f8613c77efddaae415a6478914aa7a"), looks := true }, kinds := [], alts := [], laidByText := true, laidKinds := [.data, .data, .data, .data, .sentinel, .sentinel, .pinned], laidTests := true, laidLooks := .later }
def RequestParsesUptoCardSaid : Prop := Claim7.holds Tryz.pinned (.plain (OpenSpec.upto requestParsesSpec)) requestParsesUptoCard

/-- THE SECOND FORM's CARD OF 'cartularylaw18.RequestGrows'. -/
def requestGrowsUptoCard : Claim7 := { stood := { row := requestGrowsUptoRow, standIns := [], harness := (true, "969e612bcce4852cdfe75797e39faaf7e5f8613c77efddaae415a6478914aa7a"), looks := true }, kinds := [], alts := [], laidByText := true, laidKinds := [.data, .data, .data, .data, .sentinel, .sentinel, .pinned], laidTests := true, laidLooks := .later }
def RequestGrowsUptoCardSaid : Prop := Claim7.holds Tryz.pinned (.plain (OpenSpec.upto requestGrowsSpec)) requestGrowsUptoCard

/-- THE SECOND FORM's CARD OF 'cartularylaw18.RequestSound'. -/
def requestSoundUptoCard : Claim7 := { stood := { row := requestSoundUptoRow, standIns := [], harness := (true, "969e612bcce4852cdfe75797e39faaf7e5f8613c77efddaae415a6478914aa7a"), looks := true }, kinds := [], alts := [], laidByText := true, laidKinds := [.data, .data, .data, .data, .sentinel, .sentinel, .pinned], laidTests := true, laidLooks := .later }
def RequestSoundUptoCardSaid : Prop := Claim7.holds Tryz.pinned (.plain (OpenSpec.upto requestSoundSpec)) requestSoundUptoCard

/-- THE SECOND FORM's CARD OF 'cartularylaw18.RequestPipes'. -/
def requestPipesUptoCard : Claim7 := { stood := { row := requestPipesUptoRow, standIns := [], harness := (true, "969e612bcce4852cdfe75797e39faaf7e5f8613c77efddaae415a6478914aa7a"), looks := true }, kinds := [], alts := [], laidByText := true, laidKinds := [.data, .data, .data, .data, .sentinel, .sentinel, .pinned], laidTests := true, laidLooks := .later }
def RequestPipesUptoCardSaid : Prop := Claim7.holds Tryz.pinned (.plain (OpenSpec.upto requestPipesSpec)) requestPipesUptoCard

/-- THE SECOND FORM's CARD OF 'cartularylaw18.RequestBodies'. -/
def requestBodiesUptoCard : Claim7 := { stood := { row := requestBodiesUptoRow, standIns := [], harness := (true, "969e612bcce4852cdfe75797e39faaf7e5f8613c77efddaae415a6478914aa7a"), looks := true }, kinds := [], alts := [], laidByText := true, laidKinds := [.data, .data, .data, .data, .sentinel, .sentinel, .pinned], laidTests := true, laidLooks := .later }
def RequestBodiesUptoCardSaid : Prop := Claim7.holds Tryz.pinned (.plain (OpenSpec.upto requestBodiesSpec)) requestBodiesUptoCard
end Rows
end Go.Proofs.YtcgeiimihihhpaaGreatDoor
