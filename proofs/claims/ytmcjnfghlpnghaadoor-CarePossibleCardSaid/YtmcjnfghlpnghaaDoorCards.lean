/-
  DERIVED. GIVEN WITH THE SEED: THE CARDS: each row of YtmcjnfghlpnghaaDoorRows.lean that lists a variable, with what it lists TIED to the program's text (the seventh form; the later family's looks); each row that meets fmt, with fmt's text TOLD by the authors' own Lean function (tested against real Go, not proved from fmt's source: count such statements apart). THE CARD IS WHAT COUNTS. Prove the row's statement (the work); the ties are given (YtmcjnfghlpnghaaDoorTie.lean); close each card by the builder's one call (the guide's Derived/Test/ToyasCard.lean, 'card_holds'). Laid BY PROGRAM, IN A SANDBOX (cutbox-door.mjs). By AI agents, Wed Nov 11 2026. No macro, syntax, notation, axiom, sorry.
-/
import Derived.Test.YtmcjnfghlpnghaaDoorRows
import GoSem.ClaimSeven
namespace Go.Proofs.YtmcjnfghlpnghaaDoor
namespace Rows

/-- THE TIED CARD OF 'guidewaylaw09.CareReplays'. -/
def careReplaysCard : Claim7 := { stood := { row := careReplaysRow, standIns := [], harness := (true, "adb9950258db83ff3a961aa9cf429f0c65cc01a0aafab3c3b963d81985d5d605"), looks := false }, kinds := [], alts := [], laidByText := true, laidKinds := [.funcsDeep], laidTests := true, laidLooks := .later }
def CareReplaysCardSaid : Prop := Claim7.holds Tryd.pinned (.plain (OpenSpec.ofChange careReplaysSpec)) careReplaysCard

/-- THE TIED CARD OF 'guidewaylaw09.CareOut'. -/
def careOutCard : Claim7 := { stood := { row := careOutRow, standIns := [], harness := (true, "adb9950258db83ff3a961aa9cf429f0c65cc01a0aafab3c3b963d81985d5d605"), looks := false }, kinds := [], alts := [], laidByText := true, laidKinds := [.funcsDeep], laidTests := true, laidLooks := .later }
def CareOutCardSaid : Prop := Claim7.holds Tryd.pinned (.plain (OpenSpec.ofChange careOutSpec)) careOutCard

/-- THE TIED CARD OF 'guidewaylaw09.CareBegins'. -/
def careBeginsCard : Claim7 := { stood := { row := careBeginsRow, standIns := [], harness := (true, "adb9950258db83ff3a961aa9cf429f0c65cc01a0aafab3c3b963d81985d5d605"), looks := false }, kinds := [], alts := [], laidByText := true, laidKinds := [.funcsDeep], laidTests := true, laidLooks := .later }
def CareBeginsCardSaid : Prop := Claim7.holds Tryd.pinned (.plain (OpenSpec.ofChange careBeginsSpec)) careBeginsCard

/-- THE TIED CARD OF 'guidewaylaw09.CareStates'. -/
def careStatesCard : Claim7 := { stood := { row := careStatesRow, standIns := [], harness := (true, "adb9950258db83ff3a961aa9cf429f0c65cc01a0aafab3c3b963d81985d5d605"), looks := false }, kinds := [], alts := [], laidByText := true, laidKinds := [.funcsDeep], laidTests := true, laidLooks := .later }
def CareStatesCardSaid : Prop := Claim7.holds Tryd.pinned (.plain (OpenSpec.ofChange careStatesSpec)) careStatesCard

/-- THE TIED CARD OF 'guidewaylaw09.CareApplies'. -/
def careAppliesCard : Claim7 := { stood := { row := careAppliesRow, standIns := [], harness := (true, "adb9950258db83ff3a961aa9cf429f0c65cc01a0aafab3c3b963d81985d5d605"), looks := false }, kinds := [], alts := [], laidByText := true, laidKinds := [.funcsDeep], laidTests := true, laidLooks := .later }
def CareAppliesCardSaid : Prop := Claim7.holds Tryd.pinned (.plain (OpenSpec.ofChange careAppliesSpec)) careAppliesCard

/-- THE TIED CARD OF 'guidewaylaw09.CareFindings'. -/
def careFindingsCard : Claim7 := { stood := { row := careFindingsRow, standIns := [], harness := (true, "adb9950258db83ff3a961aa9cf429f0c65cc01a0aafab3c3b963d81985d5d605"), looks := false }, kinds := [], alts := [], laidByText := true, laidKinds := [.funcsDeep], laidTests := true, laidLooks := .later }
def CareFindingsCardSaid : Prop := Claim7.holds Tryd.pinned (.plain (OpenSpec.ofChange careFindingsSpec)) careFindingsCard

/-- THE TIED CARD OF 'guidewaylaw09.CareCuts'. -/
def careCutsCard : Claim7 := { stood := { row := careCutsRow, standIns := [], harness := (true, "adb9950258db83ff3a961aa9cf429f0c65cc01a0aafab3c3b963d81985d5d605"), looks := false }, kinds := [], alts := [], laidByText := true, laidKinds := [.funcsDeep], laidTests := true, laidLooks := .later }
def CareCutsCardSaid : Prop := Claim7.holds Tryd.pinned (.plain (OpenSpec.ofChange careCutsSpec)) careCutsCard

/-- THE TIED CARD OF 'guidewaylaw09.CareShutWhileMoving'. -/
def careShutWhileMovingCard : Claim7 := { stood := { row := careShutWhileMovingRow, standIns := [], harness := (true, "adb9950258db83ff3a961aa9cf429f0c65cc01a0aafab3c3b963d81985d5d605"), looks := false }, kinds := [], alts := [], laidByText := true, laidKinds := [.funcsDeep], laidTests := true, laidLooks := .later }
def CareShutWhileMovingCardSaid : Prop := Claim7.holds Tryd.pinned (.plain (OpenSpec.ofChange careShutWhileMovingSpec)) careShutWhileMovingCard

/-- THE TIED CARD OF 'guidewaylaw09.CareNoMoreOut'. -/
def careNoMoreOutCard : Claim7 := { stood := { row := careNoMoreOutRow, standIns := [], harness := (true, "adb9950258db83ff3a961aa9cf429f0c65cc01a0aafab3c3b963d81985d5d605"), looks := false }, kinds := [], alts := [], laidByText := true, laidKinds := [.funcsDeep], laidTests := true, laidLooks := .later }
def CareNoMoreOutCardSaid : Prop := Claim7.holds Tryd.pinned (.plain (OpenSpec.ofChange careNoMoreOutSpec)) careNoMoreOutCard

/-- THE TIED CARD OF 'guidewaylaw09.CareSuspects'. -/
def careSuspectsCard : Claim7 := { stood := { row := careSuspectsRow, standIns := [], harness := (true, "adb9950258db83ff3a961aa9cf429f0c65cc01a0aafab3c3b963d81985d5d605"), looks := false }, kinds := [], alts := [], laidByText := true, laidKinds := [.funcsDeep], laidTests := true, laidLooks := .later }
def CareSuspectsCardSaid : Prop := Claim7.holds Tryd.pinned (.plain (OpenSpec.ofChange careSuspectsSpec)) careSuspectsCard

/-- THE TIED CARD OF 'guidewaylaw09.CareRescues'. -/
def careRescuesCard : Claim7 := { stood := { row := careRescuesRow, standIns := [], harness := (true, "adb9950258db83ff3a961aa9cf429f0c65cc01a0aafab3c3b963d81985d5d605"), looks := false }, kinds := [], alts := [], laidByText := true, laidKinds := [.funcsDeep], laidTests := true, laidLooks := .later }
def CareRescuesCardSaid : Prop := Claim7.holds Tryd.pinned (.plain (OpenSpec.ofChange careRescuesSpec)) careRescuesCard

/-- THE TIED CARD OF 'guidewaylaw09.CareRescued'. -/
def careRescuedCard : Claim7 := { stood := { row := careRescuedRow, standIns := [], harness := (true, "adb9950258db83ff3a961aa9cf429f0c65cc01a0aafab3c3b963d81985d5d605"), looks := false }, kinds := [], alts := [], laidByText := true, laidKinds := [.funcsDeep], laidTests := true, laidLooks := .later }
def CareRescuedCardSaid : Prop := Claim7.holds Tryd.pinned (.plain (OpenSpec.ofChange careRescuedSpec)) careRescuedCard

/-- THE TIED CARD OF 'guidewaylaw09.CarePossible'. -/
def carePossibleCard : Claim7 := { stood := { row := carePossibleRow, standIns := [], harness := (true, "adb9950258db83ff3a961aa9cf429f0c65cc01a0aafab3c3b963d81985d5d605"), looks := false }, kinds := [], alts := [], laidByText := true, laidKinds := [.funcsDeep], laidTests := true, laidLooks := .later }
def CarePossibleCardSaid : Prop := Claim7.holds Tryd.pinned (.plain (OpenSpec.ofChange carePossibleSpec)) carePossibleCard

/-- THE TIED CARD OF 'guidewaylaw09.CareWorks'. -/
def careWorksCard : Claim7 := { stood := { row := careWorksRow, standIns := [], harness := (true, "adb9950258db83ff3a961aa9cf429f0c65cc01a0aafab3c3b963d81985d5d605"), looks := false }, kinds := [], alts := [], laidByText := true, laidKinds := [.funcsDeep], laidTests := true, laidLooks := .later }
def CareWorksCardSaid : Prop := Claim7.holds Tryd.pinned (.plain (OpenSpec.ofChange careWorksSpec)) careWorksCard

/-- THE TIED CARD OF 'guidewaylaw09.CareFaults'. -/
def careFaultsCard : Claim7 := { stood := { row := careFaultsRow, standIns := [], harness := (true, "adb9950258db83ff3a961aa9cf429f0c65cc01a0aafab3c3b963d81985d5d605"), looks := false }, kinds := [], alts := [], laidByText := true, laidKinds := [.funcsDeep], laidTests := true, laidLooks := .later }
def CareFaultsCardSaid : Prop := Claim7.holds Tryd.pinned (.plain (OpenSpec.ofChange careFaultsSpec)) careFaultsCard

/-- THE TIED CARD OF 'guidewaylaw09.CareExplained'. -/
def careExplainedCard : Claim7 := { stood := { row := careExplainedRow, standIns := [], harness := (true, "adb9950258db83ff3a961aa9cf429f0c65cc01a0aafab3c3b963d81985d5d605"), looks := false }, kinds := [], alts := [], laidByText := true, laidKinds := [.funcsDeep], laidTests := true, laidLooks := .later }
def CareExplainedCardSaid : Prop := Claim7.holds Tryd.pinned (.plain (OpenSpec.ofChange careExplainedSpec)) careExplainedCard

/-- THE SECOND FORM's CARD OF 'guidewaylaw09.CareReplays'. -/
def careReplaysUptoCard : Claim7 := { stood := { row := careReplaysUptoRow, standIns := [], harness := (true, "adb9950258db83ff3a961aa9cf429f0c65cc01a0aafab3c3b963d81985d5d605"), looks := false }, kinds := [], alts := [], laidByText := true, laidKinds := [.funcsDeep], laidTests := true, laidLooks := .later }
def CareReplaysUptoCardSaid : Prop := Claim7.holds Tryd.pinned (.plain (OpenSpec.upto careReplaysSpec)) careReplaysUptoCard

/-- THE SECOND FORM's CARD OF 'guidewaylaw09.CareOut'. -/
def careOutUptoCard : Claim7 := { stood := { row := careOutUptoRow, standIns := [], harness := (true, "adb9950258db83ff3a961aa9cf429f0c65cc01a0aafab3c3b963d81985d5d605"), looks := false }, kinds := [], alts := [], laidByText := true, laidKinds := [.funcsDeep], laidTests := true, laidLooks := .later }
def CareOutUptoCardSaid : Prop := Claim7.holds Tryd.pinned (.plain (OpenSpec.upto careOutSpec)) careOutUptoCard

/-- THE SECOND FORM's CARD OF 'guidewaylaw09.CareBegins'. -/
def careBeginsUptoCard : Claim7 := { stood := { row := careBeginsUptoRow, standIns := [], harness := (true, "adb9950258db83ff3a961aa9cf429f0c65cc01a0aafab3c3b963d81985d5d605"), looks := false }, kinds := [], alts := [], laidByText := true, laidKinds := [.funcsDeep], laidTests := true, laidLooks := .later }
def CareBeginsUptoCardSaid : Prop := Claim7.holds Tryd.pinned (.plain (OpenSpec.upto careBeginsSpec)) careBeginsUptoCard

/-- THE SECOND FORM's CARD OF 'guidewaylaw09.CareStates'. -/
def careStatesUptoCard : Claim7 := { stood := { row := careStatesUptoRow, standIns := [], harness := (true, "adb9950258db83ff3a961aa9cf429f0c65cc01a0aafab3c3b963d81985d5d605"), looks := false }, kinds := [], alts := [], laidByText := true, laidKinds := [.funcsDeep], laidTests := true, laidLooks := .later }
def CareStatesUptoCardSaid : Prop := Claim7.holds Tryd.pinned (.plain (OpenSpec.upto careStatesSpec)) careStatesUptoCard

/-- THE SECOND FORM's CARD OF 'guidewaylaw09.CareApplies'. -/
def careAppliesUptoCard : Claim7 := { stood := { row := careAppliesUptoRow, standIns := [], harness := (true, "adb9950258db83ff3a961aa9cf429f0c65cc01a0aafab3c3b963d81985d5d605"), looks := false }, kinds := [], alts := [], laidByText := true, laidKinds := [.funcsDeep], laidTests := true, laidLooks := .later }
def CareAppliesUptoCardSaid : Prop := Claim7.holds Tryd.pinned (.plain (OpenSpec.upto careAppliesSpec)) careAppliesUptoCard

/-- THE SECOND FORM's CARD OF 'guidewaylaw09.CareFindings'. -/
def careFindingsUptoCard : Claim7 := { stood := { row := careFindingsUptoRow, standIns := [], harness := (true, "adb9950258db83ff3a961aa9cf429f0c65cc01a0aafab3c3b963d81985d5d605"), looks := false }, kinds := [], alts := [], laidByText := true, laidKinds := [.funcsDeep], laidTests := true, laidLooks := .later }
def CareFindingsUptoCardSaid : Prop := Claim7.holds Tryd.pinned (.plain (OpenSpec.upto careFindingsSpec)) careFindingsUptoCard

/-- THE SECOND FORM's CARD OF 'guidewaylaw09.CareCuts'. -/
def careCutsUptoCard : Claim7 := { stood := { row := careCutsUptoRow, standIns := [], harness := (true, "adb9950258db83ff3a961aa9cf429f0c65cc01a0aafab3c3b963d81985d5d605"), looks := false }, kinds := [], alts := [], laidByText := true, laidKinds := [.funcsDeep], laidTests := true, laidLooks := .later }
def CareCutsUptoCardSaid : Prop := Claim7.holds Tryd.pinned (.plain (OpenSpec.upto careCutsSpec)) careCutsUptoCard

/-- THE SECOND FORM's CARD OF 'guidewaylaw09.CareShutWhileMoving'. -/
def careShutWhileMovingUptoCard : Claim7 := { stood := { row := careShutWhileMovingUptoRow, standIns := [], harness := (true, "adb9950258db83ff3a961aa9cf429f0c65cc01a0aafab3c3b963d81985d5d605"), looks := false }, kinds := [], alts := [], laidByText := true, laidKinds := [.funcsDeep], laidTests := true, laidLooks := .later }
def CareShutWhileMovingUptoCardSaid : Prop := Claim7.holds Tryd.pinned (.plain (OpenSpec.upto careShutWhileMovingSpec)) careShutWhileMovingUptoCard

/-- THE SECOND FORM's CARD OF 'guidewaylaw09.CareNoMoreOut'. -/
def careNoMoreOutUptoCard : Claim7 := { stood := { row := careNoMoreOutUptoRow, standIns := [], harness := (true, "adb9950258db83ff3a961aa9cf429f0c65cc01a0aafab3c3b963d81985d5d605"), looks := false }, kinds := [], alts := [], laidByText := true, laidKinds := [.funcsDeep], laidTests := true, laidLooks := .later }
def CareNoMoreOutUptoCardSaid : Prop := Claim7.holds Tryd.pinned (.plain (OpenSpec.upto careNoMoreOutSpec)) careNoMoreOutUptoCard

/-- THE SECOND FORM's CARD OF 'guidewaylaw09.CareSuspects'. -/
def careSuspectsUptoCard : Claim7 := { stood := { row := careSuspectsUptoRow, standIns := [], harness := (true, "adb9950258db83ff3a961aa9cf429f0c65cc01a0aafab3c3b963d81985d5d605"), looks := false }, kinds := [], alts := [], laidByText := true, laidKinds := [.funcsDeep], laidTests := true, laidLooks := .later }
def CareSuspectsUptoCardSaid : Prop := Claim7.holds Tryd.pinned (.plain (OpenSpec.upto careSuspectsSpec)) careSuspectsUptoCard

/-- THE SECOND FORM's CARD OF 'guidewaylaw09.CareRescues'. -/
def careRescuesUptoCard : Claim7 := { stood := { row := careRescuesUptoRow, standIns := [], harness := (true, "adb9950258db83ff3a961aa9cf429f0c65cc01a0aafab3c3b963d81985d5d605"), looks := false }, kinds := [], alts := [], laidByText := true, laidKinds := [.funcsDeep], laidTests := true, laidLooks := .later }
def CareRescuesUptoCardSaid : Prop := Claim7.holds Tryd.pinned (.plain (OpenSpec.upto careRescuesSpec)) careRescuesUptoCard

/-- THE SECOND FORM's CARD OF 'guidewaylaw09.CareRescued'. -/
def careRescuedUptoCard : Claim7 := { stood := { row := careRescuedUptoRow, standIns := [], harness := (true, "adb9950258db83ff3a961aa9cf429f0c65cc01a0aafab3c3b963d81985d5d605"), looks := false }, kinds := [], alts := [], laidByText := true, laidKinds := [.funcsDeep], laidTests := true, laidLooks := .later }
def CareRescuedUptoCardSaid : Prop := Claim7.holds Tryd.pinned (.plain (OpenSpec.upto careRescuedSpec)) careRescuedUptoCard

/-- THE SECOND FORM's CARD OF 'guidewaylaw09.CarePossible'. -/
def carePossibleUptoCard : Claim7 := { stood := { row := carePossibleUptoRow, standIns := [], harness := (true, "adb9950258db83ff3a961aa9cf429f0c65cc01a0aafab3c3b963d81985d5d605"), looks := false }, kinds := [], alts := [], laidByText := true, laidKinds := [.funcsDeep], laidTests := true, laidLooks := .later }
def CarePossibleUptoCardSaid : Prop := Claim7.holds Tryd.pinned (.plain (OpenSpec.upto carePossibleSpec)) carePossibleUptoCard

/-- THE SECOND FORM's CARD OF 'guidewaylaw09.CareWorks'. -/
def careWorksUptoCard : Claim7 := { stood := { row := careWorksUptoRow, standIns := [], harness := (true, "adb9950258db83ff3a961aa9cf429f0c65cc01a0aafab3c3b963d81985d5d605"), looks := false }, kinds := [], alts := [], laidByText := true, laidKinds := [.funcsDeep], laidTests := true, laidLooks := .later }
def CareWorksUptoCardSaid : Prop := Claim7.holds Tryd.pinned (.plain (OpenSpec.upto careWorksSpec)) careWorksUptoCard

/-- THE SECOND FORM's CARD OF 'guidewaylaw09.CareFaults'. -/
def careFaultsUptoCard : Claim7 := { stood := { row := careFaultsUptoRow, standIns := [], harness := (true, "adb9950258db83ff3a961aa9cf429f0c65cc01a0aafab3c3b963d81985d5d605"), looks := false }, kinds := [], alts := [], laidByText := true, laidKinds := [.funcsDeep], laidTests := true, laidLooks := .later }
def CareFaultsUptoCardSaid : Prop := Claim7.holds Tryd.pinned (.plain (OpenSpec.upto careFaultsSpec)) careFaultsUptoCard

/-- THE SECOND FORM's CARD OF 'guidewaylaw09.CareExplained'. -/
def careExplainedUptoCard : Claim7 := { stood := { row := careExplainedUptoRow, standIns := [], harness := (true, "adb9950258db83ff3a961aa9cf429f0c65cc01a0aafab3c3b963d81985d5d605"), looks := false }, kinds := [], alts := [], laidByText := true, laidKinds := [.funcsDeep], laidTests := true, laidLooks := .later }
def CareExplainedUptoCardSaid : Prop := Claim7.holds Tryd.pinned (.plain (OpenSpec.upto careExplainedSpec)) careExplainedUptoCard
end Rows
end Go.Proofs.YtmcjnfghlpnghaaDoor
