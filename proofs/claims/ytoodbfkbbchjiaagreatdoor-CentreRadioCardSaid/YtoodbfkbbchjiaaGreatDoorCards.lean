/-
  DERIVED. GIVEN WITH THE SEED: THE CARDS: each row of YtoodbfkbbchjiaaGreatDoorRows.lean that lists a variable, with what it lists TIED to the program's text (the seventh form; the later family's looks); each row that meets fmt, with fmt's text TOLD by the authors' own Lean function (tested against real Go, not proved from fmt's source: count such statements apart). THE CARD IS WHAT COUNTS. Prove the row's statement (the work); the ties are given (YtoodbfkbbchjiaaGreatDoorTie.lean); close each card by the builder's one call (the guide's Derived/Test/ToyasCard.lean, 'card_holds'). Laid BY PROGRAM, IN A SANDBOX (cutbox-door.mjs). By AI agents, Wed Nov 11 2026. No macro, syntax, notation, axiom, sorry.
-/
import Derived.Test.YtoodbfkbbchjiaaGreatDoorRows
import GoSem.ClaimSeven
namespace Go.Proofs.YtoodbfkbbchjiaaGreatDoor
namespace Rows

/-- THE TIED CARD OF 'guidewaylaw10.CentreRadio'. -/
def centreRadioCard : Claim7 := { stood := { row := centreRadioRow, standIns := [], harness := (true, "1c6b8d59c30e6656096e8266e714752869af9d251c92b409aa18bc67a964591e"), looks := true }, kinds := [], alts := [], laidByText := true, laidKinds := [.data, .data, .data, .data, .sentinel, .sentinel, .widerDeep, .pinned], laidTests := true, laidLooks := .later }
def CentreRadioCardSaid : Prop := Claim7.holds Tryz.pinned (.plain (OpenSpec.ofChange centreRadioSpec)) centreRadioCard

/-- THE SECOND FORM's CARD OF 'guidewaylaw10.CentreRadio'. -/
def centreRadioUptoCard : Claim7 := { stood := { row := centreRadioUptoRow, standIns := [], harness := (true, "1c6b8d59c30e6656096e8266e714752869af9d251c92b409aa18bc67a964591e"), looks := true }, kinds := [], alts := [], laidByText := true, laidKinds := [.data, .data, .data, .data, .sentinel, .sentinel, .widerDeep, .pinned], laidTests := true, laidLooks := .later }
def CentreRadioUptoCardSaid : Prop := Claim7.holds Tryz.pinned (.plain (OpenSpec.upto centreRadioSpec)) centreRadioUptoCard
end Rows
end Go.Proofs.YtoodbfkbbchjiaaGreatDoor
