/-
  DERIVED. GIVEN WITH THE SEED: THE CARDS: each row of YtfdmeojcopkaoaaGreatDoorRows.lean that lists a variable, with what it lists TIED to the program's text (the seventh form; the later family's looks); each row that meets fmt, with fmt's text TOLD by the authors' own Lean function (tested against real Go, not proved from fmt's source: count such statements apart). THE CARD IS WHAT COUNTS. Prove the row's statement (the work); the ties are given (YtfdmeojcopkaoaaGreatDoorTie.lean); close each card by the builder's one call (the guide's Derived/Test/ToyasCard.lean, 'card_holds'). Laid BY PROGRAM, IN A SANDBOX (cutbox-door.mjs). By AI agents, Wed Nov 11 2026. No macro, syntax, notation, axiom, sorry.
-/
import Derived.Test.YtfdmeojcopkaoaaGreatDoorRows
import GoSem.ClaimSeven
namespace Go.Proofs.YtfdmeojcopkaoaaGreatDoor
namespace Rows

/-- THE TIED CARD OF 'guidewaylaw10.CentreHouses'. -/
def centreHousesCard : Claim7 := { stood := { row := centreHousesRow, standIns := [], harness := (true, "dd670936e51f3b381eb294b4fc01a8a20dc561abb10ee0d78924de71b97ea376"), looks := true }, kinds := [], alts := [], laidByText := true, laidKinds := [.data, .data, .data, .data, .sentinel, .sentinel, .widerDeep, .pinned], laidTests := true, laidLooks := .later }
def CentreHousesCardSaid : Prop := Claim7.holds Tryz.pinned (.plain (OpenSpec.ofChange centreHousesSpec)) centreHousesCard

/-- THE SECOND FORM's CARD OF 'guidewaylaw10.CentreHouses'. -/
def centreHousesUptoCard : Claim7 := { stood := { row := centreHousesUptoRow, standIns := [], harness := (true, "dd670936e51f3b381eb294b4fc01a8a20dc561abb10ee0d78924de71b97ea376"), looks := true }, kinds := [], alts := [], laidByText := true, laidKinds := [.data, .data, .data, .data, .sentinel, .sentinel, .widerDeep, .pinned], laidTests := true, laidLooks := .later }
def CentreHousesUptoCardSaid : Prop := Claim7.holds Tryz.pinned (.plain (OpenSpec.upto centreHousesSpec)) centreHousesUptoCard
end Rows
end Go.Proofs.YtfdmeojcopkaoaaGreatDoor
