/-
  DERIVED. GIVEN WITH THE SEED: THE CARDS: each row of YtlbgocgocanloaaGreatDoorRows.lean that lists a variable, with what it lists TIED to the program's text (the seventh form; the later family's looks); each row that meets fmt, with fmt's text TOLD by the authors' own Lean function (tested against real Go, not proved from fmt's source: count such statements apart). THE CARD IS WHAT COUNTS. Prove the row's statement (the work); the ties are given (YtlbgocgocanloaaGreatDoorTie.lean); close each card by the builder's one call (the guide's Derived/Test/ToyasCard.lean, 'card_holds'). Laid BY PROGRAM, IN A SANDBOX (cutbox-door.mjs). By AI agents, Wed Nov 11 2026. No macro, syntax, notation, axiom, sorry.
-/
import Derived.Test.YtlbgocgocanloaaGreatDoorRows
import GoSem.ClaimSeven
namespace Go.Proofs.YtlbgocgocanloaaGreatDoor
namespace Rows

/-- THE TIED CARD OF 'guidewaylaw09.CareTexts'. -/
def careTextsCard : Claim7 := { stood := { row := careTextsRow, standIns := [], harness := (true, "f130f76d7a4a0ae103bc763a4345af078c15e88c53910533a47303efde295308"), looks := true }, kinds := [], alts := [], laidByText := true, laidKinds := [.data, .data, .data, .data, .sentinel, .sentinel, .funcsDeep, .pinned], laidTests := true, laidLooks := .later }
def CareTextsCardSaid : Prop := Claim7.holds Tryz.pinned (.plain (OpenSpec.ofChange careTextsSpec)) careTextsCard

/-- THE TIED CARD OF 'guidewaytop.TopCareAllOut'. -/
def topCareAllOutCard : Claim7 := { stood := { row := topCareAllOutRow, standIns := [], harness := (true, "f130f76d7a4a0ae103bc763a4345af078c15e88c53910533a47303efde295308"), looks := true }, kinds := [], alts := [], laidByText := true, laidKinds := [.data, .data, .data, .sentinel, .sentinel, .funcsDeep], laidTests := true, laidLooks := .later }
def TopCareAllOutCardSaid : Prop := Claim7.holds Tryz.pinned (.plain (OpenSpec.ofChange topCareAllOutSpec)) topCareAllOutCard

/-- THE TIED CARD OF 'guidewaytop.TopCareFoundAndMended'. -/
def topCareFoundAndMendedCard : Claim7 := { stood := { row := topCareFoundAndMendedRow, standIns := [], harness := (true, "f130f76d7a4a0ae103bc763a4345af078c15e88c53910533a47303efde295308"), looks := true }, kinds := [], alts := [], laidByText := true, laidKinds := [.data, .data, .data, .data, .sentinel, .sentinel, .funcsDeep, .pinned], laidTests := true, laidLooks := .later }
def TopCareFoundAndMendedCardSaid : Prop := Claim7.holds Tryz.pinned (.plain (OpenSpec.ofChange topCareFoundAndMendedSpec)) topCareFoundAndMendedCard

/-- THE SECOND FORM's CARD OF 'guidewaylaw09.CareTexts'. -/
def careTextsUptoCard : Claim7 := { stood := { row := careTextsUptoRow, standIns := [], harness := (true, "f130f76d7a4a0ae103bc763a4345af078c15e88c53910533a47303efde295308"), looks := true }, kinds := [], alts := [], laidByText := true, laidKinds := [.data, .data, .data, .data, .sentinel, .sentinel, .funcsDeep, .pinned], laidTests := true, laidLooks := .later }
def CareTextsUptoCardSaid : Prop := Claim7.holds Tryz.pinned (.plain (OpenSpec.upto careTextsSpec)) careTextsUptoCard

/-- THE SECOND FORM's CARD OF 'guidewaytop.TopCareAllOut'. -/
def topCareAllOutUptoCard : Claim7 := { stood := { row := topCareAllOutUptoRow, standIns := [], harness := (true, "f130f76d7a4a0ae103bc763a4345af078c15e88c53910533a47303efde295308"), looks := true }, kinds := [], alts := [], laidByText := true, laidKinds := [.data, .data, .data, .sentinel, .sentinel, .funcsDeep], laidTests := true, laidLooks := .later }
def TopCareAllOutUptoCardSaid : Prop := Claim7.holds Tryz.pinned (.plain (OpenSpec.upto topCareAllOutSpec)) topCareAllOutUptoCard

/-- THE SECOND FORM's CARD OF 'guidewaytop.TopCareFoundAndMended'. -/
def topCareFoundAndMendedUptoCard : Claim7 := { stood := { row := topCareFoundAndMendedUptoRow, standIns := [], harness := (true, "f130f76d7a4a0ae103bc763a4345af078c15e88c53910533a47303efde295308"), looks := true }, kinds := [], alts := [], laidByText := true, laidKinds := [.data, .data, .data, .data, .sentinel, .sentinel, .funcsDeep, .pinned], laidTests := true, laidLooks := .later }
def TopCareFoundAndMendedUptoCardSaid : Prop := Claim7.holds Tryz.pinned (.plain (OpenSpec.upto topCareFoundAndMendedSpec)) topCareFoundAndMendedUptoCard
end Rows
end Go.Proofs.YtlbgocgocanloaaGreatDoor
