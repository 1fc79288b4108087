/-
  NARROWER THAN 'FOR EVERY INPUT', by the rows' own cells (each row's printed sentence says how): CareReplays: laid · CareOut: laid · CareBegins: laid · CareStates: laid · CareApplies: laid · CareFindings: laid · CareCuts: laid · CareShutWhileMoving: laid · CareNoMoreOut: laid · CareSuspects: laid · CareRescues: laid · CareRescued: laid · CarePossible: laid · CareWorks: laid · CareFaults: laid · CareExplained: laid.
  DERIVED. THE GIVEN ROWS OF THIS SEAT. 16 by the template 'for every input the law returns true; each argument reads behind the call as it read before'; 0 by the template 'total and deterministic' (their statements: YtmcjnfghlpnghaaDoorTotals.lean).
  GIVEN WITH THE SEED: the statements are not yours to turn. If you find one false, say at which input.
  Laid BY PROGRAM, IN A SANDBOX (cutbox-rows.mjs): the forced cells as the released guide's own fill.sh prints them over the translation 3f3b2ada5861c30f… (all of the seat's roots in one cut). By AI agents, Wed Nov 11 2026. No macro, syntax, notation, axiom, sorry.
-/
import Derived.Test.YtmcjnfghlpnghaaDoorChecked
import GoSem.Claim
import GoSem.ClaimJoined
import GoSem.ClaimMapViews
import Derived.JoinedTies
import Derived.KernelRfl
namespace Go.Proofs.YtmcjnfghlpnghaaDoor
/- THE CELL 'sum', in the pinned program and in every row, IS THE sha256 OF THE DUMP (.gsa) THAT YtmcjnfghlpnghaaDoorProg.lean LOADS. Nothing in Lean hashes anything: it is a label: what it is worth is what the hold of that sum in a sandbox is worth. -/
noncomputable def Tryd.pinned : Pinned := { name := "ytmcjnfghlpnghaadoor", sum := "3f3b2ada5861c30f9d630d94f9c6178e07d790f73aed95f01e6acdd474bcfb55", checked := Tryd.checked }
namespace Rows
def none {H : Type} : Left H := { results := [], args := [] }

/- WHAT THE LISTED PACKAGE-LEVEL VARIABLES READ AS WHEN THE CALL BEGINS. Each datum BY PROGRAM (the guide's laid-datum.mjs) off the statement by which the dump's own 'gosem.cut.vars' lays the variable. In a bare row this is a premise. The card (YtmcjnfghlpnghaaDoorCards.lean) ties it to the program's text. -/
def laid_guideway_care_kinds {H : Type} : DataW H := .iface "func table" (.agg [.agg [.lit (.string [103, 111]), .lit (.bool false), .lit (.bool false), .iface "func" (.lit (.string [40, 42, 103, 117, 105, 100, 101, 119, 97, 121, 47, 99, 97, 114, 101, 46, 116, 114, 97, 105, 110, 41, 46, 108, 101, 97, 118, 101]))], .agg [.lit (.string [115, 116, 111, 112]), .lit (.bool true), .lit (.bool false), .iface "func" (.lit (.string [40, 42, 103, 117, 105, 100, 101, 119, 97, 121, 47, 99, 97, 114, 101, 46, 116, 114, 97, 105, 110, 41, 46, 115, 116, 111, 112]))], .agg [.lit (.string [103, 97, 116, 101]), .lit (.bool false), .lit (.bool true), .iface "func" (.lit (.string [40, 42, 103, 117, 105, 100, 101, 119, 97, 121, 47, 99, 97, 114, 101, 46, 116, 114, 97, 105, 110, 41, 46, 103, 97, 116, 101]))], .agg [.lit (.string [98, 97, 114]), .lit (.bool false), .lit (.bool true), .iface "func" (.lit (.string [40, 42, 103, 117, 105, 100, 101, 119, 97, 121, 47, 99, 97, 114, 101, 46, 116, 114, 97, 105, 110, 41, 46, 98, 97, 114]))], .agg [.lit (.string [111, 112, 101, 110]), .lit (.bool false), .lit (.bool true), .iface "func" (.lit (.string [40, 42, 103, 117, 105, 100, 101, 119, 97, 121, 47, 99, 97, 114, 101, 46, 116, 114, 97, 105, 110, 41, 46, 111, 112, 101, 110]))], .agg [.lit (.string [115, 104, 117, 116]), .lit (.bool false), .lit (.bool true), .iface "func" (.lit (.string [40, 42, 103, 117, 105, 100, 101, 119, 97, 121, 47, 99, 97, 114, 101, 46, 116, 114, 97, 105, 110, 41, 46, 115, 104, 117, 116]))], .agg [.lit (.string [97, 108, 97, 114, 109]), .lit (.bool false), .lit (.bool false), .iface "func" (.lit (.string [40, 42, 103, 117, 105, 100, 101, 119, 97, 121, 47, 99, 97, 114, 101, 46, 116, 114, 97, 105, 110, 41, 46, 97, 108, 97, 114, 109]))], .agg [.lit (.string [99, 97, 108, 109]), .lit (.bool false), .lit (.bool false), .iface "func" (.lit (.string [40, 42, 103, 117, 105, 100, 101, 119, 97, 121, 47, 99, 97, 114, 101, 46, 116, 114, 97, 105, 110, 41, 46, 99, 97, 108, 109]))]])

/-- 'guidewaylaw09.CareReplays': WHATEVER THE INPUT: true; the input reads as it did. -/
def careReplaysSpec : ChangeSpec := { name := "careReplays", fn := fun _ => fun
  | [d1, d2, d3] => { results := [.lit (.bool true)], args := [d1, d2, d3] }
  | _ => none }
def careReplaysRow : OpenClaim := { program := "ytmcjnfghlpnghaadoor", sum := "3f3b2ada5861c30f9d630d94f9c6178e07d790f73aed95f01e6acdd474bcfb55", func := "guideway/guidewaylaw09.CareReplays", spec := "careReplays", unfollowed := true, recurses := true, named := ["guideway/care.kinds"], apart := false, laid := [("guideway/care.kinds", laid_guideway_care_kinds)] }
def CareReplaysSaid : Prop := careReplaysRow.holds Tryd.pinned (OpenSpec.ofChange careReplaysSpec)

/-- ITS FALSE NEIGHBOUR: 'it returns false'. Refute it at one input. -/
def careReplaysWrong : ChangeSpec := { name := "careReplays", fn := fun _ => fun
  | [d1, d2, d3] => { results := [.lit (.bool false)], args := [d1, d2, d3] }
  | _ => none }
def CareReplaysWrongFalsely : Prop := careReplaysRow.holds Tryd.pinned (OpenSpec.ofChange careReplaysWrong)

/-- 'guidewaylaw09.CareOut': WHATEVER THE INPUT: true; the input reads as it did. -/
def careOutSpec : ChangeSpec := { name := "careOut", fn := fun _ => fun
  | [d1, d2] => { results := [.lit (.bool true)], args := [d1, d2] }
  | _ => none }
def careOutRow : OpenClaim := { program := "ytmcjnfghlpnghaadoor", sum := "3f3b2ada5861c30f9d630d94f9c6178e07d790f73aed95f01e6acdd474bcfb55", func := "guideway/guidewaylaw09.CareOut", spec := "careOut", unfollowed := true, recurses := true, named := ["guideway/care.kinds"], apart := false, laid := [("guideway/care.kinds", laid_guideway_care_kinds)] }
def CareOutSaid : Prop := careOutRow.holds Tryd.pinned (OpenSpec.ofChange careOutSpec)

/-- ITS FALSE NEIGHBOUR: 'it returns false'. Refute it at one input. -/
def careOutWrong : ChangeSpec := { name := "careOut", fn := fun _ => fun
  | [d1, d2] => { results := [.lit (.bool false)], args := [d1, d2] }
  | _ => none }
def CareOutWrongFalsely : Prop := careOutRow.holds Tryd.pinned (OpenSpec.ofChange careOutWrong)

/-- 'guidewaylaw09.CareBegins': WHATEVER THE INPUT: true; the input reads as it did. -/
def careBeginsSpec : ChangeSpec := { name := "careBegins", fn := fun _ => fun
  | [d1, d2] => { results := [.lit (.bool true)], args := [d1, d2] }
  | _ => none }
def careBeginsRow : OpenClaim := { program := "ytmcjnfghlpnghaadoor", sum := "3f3b2ada5861c30f9d630d94f9c6178e07d790f73aed95f01e6acdd474bcfb55", func := "guideway/guidewaylaw09.CareBegins", spec := "careBegins", unfollowed := true, recurses := true, named := ["guideway/care.kinds"], apart := false, laid := [("guideway/care.kinds", laid_guideway_care_kinds)] }
def CareBeginsSaid : Prop := careBeginsRow.holds Tryd.pinned (OpenSpec.ofChange careBeginsSpec)

/-- ITS FALSE NEIGHBOUR: 'it returns false'. Refute it at one input. -/
def careBeginsWrong : ChangeSpec := { name := "careBegins", fn := fun _ => fun
  | [d1, d2] => { results := [.lit (.bool false)], args := [d1, d2] }
  | _ => none }
def CareBeginsWrongFalsely : Prop := careBeginsRow.holds Tryd.pinned (OpenSpec.ofChange careBeginsWrong)

/-- 'guidewaylaw09.CareStates': WHATEVER THE INPUT: true; the input reads as it did. -/
def careStatesSpec : ChangeSpec := { name := "careStates", fn := fun _ => fun
  | [d1, d2] => { results := [.lit (.bool true)], args := [d1, d2] }
  | _ => none }
def careStatesRow : OpenClaim := { program := "ytmcjnfghlpnghaadoor", sum := "3f3b2ada5861c30f9d630d94f9c6178e07d790f73aed95f01e6acdd474bcfb55", func := "guideway/guidewaylaw09.CareStates", spec := "careStates", unfollowed := true, recurses := true, named := ["guideway/care.kinds"], apart := false, laid := [("guideway/care.kinds", laid_guideway_care_kinds)] }
def CareStatesSaid : Prop := careStatesRow.holds Tryd.pinned (OpenSpec.ofChange careStatesSpec)

/-- ITS FALSE NEIGHBOUR: 'it returns false'. Refute it at one input. -/
def careStatesWrong : ChangeSpec := { name := "careStates", fn := fun _ => fun
  | [d1, d2] => { results := [.lit (.bool false)], args := [d1, d2] }
  | _ => none }
def CareStatesWrongFalsely : Prop := careStatesRow.holds Tryd.pinned (OpenSpec.ofChange careStatesWrong)

/-- 'guidewaylaw09.CareApplies': WHATEVER THE INPUT: true; the input reads as it did. -/
def careAppliesSpec : ChangeSpec := { name := "careApplies", fn := fun _ => fun
  | [d1, d2, d3] => { results := [.lit (.bool true)], args := [d1, d2, d3] }
  | _ => none }
def careAppliesRow : OpenClaim := { program := "ytmcjnfghlpnghaadoor", sum := "3f3b2ada5861c30f9d630d94f9c6178e07d790f73aed95f01e6acdd474bcfb55", func := "guideway/guidewaylaw09.CareApplies", spec := "careApplies", unfollowed := true, recurses := true, named := ["guideway/care.kinds"], apart := false, laid := [("guideway/care.kinds", laid_guideway_care_kinds)] }
def CareAppliesSaid : Prop := careAppliesRow.holds Tryd.pinned (OpenSpec.ofChange careAppliesSpec)

/-- ITS FALSE NEIGHBOUR: 'it returns false'. Refute it at one input. -/
def careAppliesWrong : ChangeSpec := { name := "careApplies", fn := fun _ => fun
  | [d1, d2, d3] => { results := [.lit (.bool false)], args := [d1, d2, d3] }
  | _ => none }
def CareAppliesWrongFalsely : Prop := careAppliesRow.holds Tryd.pinned (OpenSpec.ofChange careAppliesWrong)

/-- 'guidewaylaw09.CareFindings': WHATEVER THE INPUT: true; the input reads as it did. -/
def careFindingsSpec : ChangeSpec := { name := "careFindings", fn := fun _ => fun
  | [d1, d2] => { results := [.lit (.bool true)], args := [d1, d2] }
  | _ => none }
def careFindingsRow : OpenClaim := { program := "ytmcjnfghlpnghaadoor", sum := "3f3b2ada5861c30f9d630d94f9c6178e07d790f73aed95f01e6acdd474bcfb55", func := "guideway/guidewaylaw09.CareFindings", spec := "careFindings", unfollowed := true, recurses := true, named := ["guideway/care.kinds"], apart := false, laid := [("guideway/care.kinds", laid_guideway_care_kinds)] }
def CareFindingsSaid : Prop := careFindingsRow.holds Tryd.pinned (OpenSpec.ofChange careFindingsSpec)

/-- ITS FALSE NEIGHBOUR: 'it returns false'. Refute it at one input. -/
def careFindingsWrong : ChangeSpec := { name := "careFindings", fn := fun _ => fun
  | [d1, d2] => { results := [.lit (.bool false)], args := [d1, d2] }
  | _ => none }
def CareFindingsWrongFalsely : Prop := careFindingsRow.holds Tryd.pinned (OpenSpec.ofChange careFindingsWrong)

/-- 'guidewaylaw09.CareCuts': WHATEVER THE INPUT: true; the input reads as it did. -/
def careCutsSpec : ChangeSpec := { name := "careCuts", fn := fun _ => fun
  | [d1, d2, d3] => { results := [.lit (.bool true)], args := [d1, d2, d3] }
  | _ => none }
def careCutsRow : OpenClaim := { program := "ytmcjnfghlpnghaadoor", sum := "3f3b2ada5861c30f9d630d94f9c6178e07d790f73aed95f01e6acdd474bcfb55", func := "guideway/guidewaylaw09.CareCuts", spec := "careCuts", unfollowed := true, recurses := true, named := ["guideway/care.kinds"], apart := false, laid := [("guideway/care.kinds", laid_guideway_care_kinds)] }
def CareCutsSaid : Prop := careCutsRow.holds Tryd.pinned (OpenSpec.ofChange careCutsSpec)

/-- ITS FALSE NEIGHBOUR: 'it returns false'. Refute it at one input. -/
def careCutsWrong : ChangeSpec := { name := "careCuts", fn := fun _ => fun
  | [d1, d2, d3] => { results := [.lit (.bool false)], args := [d1, d2, d3] }
  | _ => none }
def CareCutsWrongFalsely : Prop := careCutsRow.holds Tryd.pinned (OpenSpec.ofChange careCutsWrong)

/-- 'guidewaylaw09.CareShutWhileMoving': WHATEVER THE INPUT: true; the input reads as it did. -/
def careShutWhileMovingSpec : ChangeSpec := { name := "careShutWhileMoving", fn := fun _ => fun
  | [d1, d2, d3] => { results := [.lit (.bool true)], args := [d1, d2, d3] }
  | _ => none }
def careShutWhileMovingRow : OpenClaim := { program := "ytmcjnfghlpnghaadoor", sum := "3f3b2ada5861c30f9d630d94f9c6178e07d790f73aed95f01e6acdd474bcfb55", func := "guideway/guidewaylaw09.CareShutWhileMoving", spec := "careShutWhileMoving", unfollowed := true, recurses := true, named := ["guideway/care.kinds"], apart := false, laid := [("guideway/care.kinds", laid_guideway_care_kinds)] }
def CareShutWhileMovingSaid : Prop := careShutWhileMovingRow.holds Tryd.pinned (OpenSpec.ofChange careShutWhileMovingSpec)

/-- ITS FALSE NEIGHBOUR: 'it returns false'. Refute it at one input. -/
def careShutWhileMovingWrong : ChangeSpec := { name := "careShutWhileMoving", fn := fun _ => fun
  | [d1, d2, d3] => { results := [.lit (.bool false)], args := [d1, d2, d3] }
  | _ => none }
def CareShutWhileMovingWrongFalsely : Prop := careShutWhileMovingRow.holds Tryd.pinned (OpenSpec.ofChange careShutWhileMovingWrong)

/-- 'guidewaylaw09.CareNoMoreOut': WHATEVER THE INPUT: true; the input reads as it did. -/
def careNoMoreOutSpec : ChangeSpec := { name := "careNoMoreOut", fn := fun _ => fun
  | [d1, d2, d3] => { results := [.lit (.bool true)], args := [d1, d2, d3] }
  | _ => none }
def careNoMoreOutRow : OpenClaim := { program := "ytmcjnfghlpnghaadoor", sum := "3f3b2ada5861c30f9d630d94f9c6178e07d790f73aed95f01e6acdd474bcfb55", func := "guideway/guidewaylaw09.CareNoMoreOut", spec := "careNoMoreOut", unfollowed := true, recurses := true, named := ["guideway/care.kinds"], apart := false, laid := [("guideway/care.kinds", laid_guideway_care_kinds)] }
def CareNoMoreOutSaid : Prop := careNoMoreOutRow.holds Tryd.pinned (OpenSpec.ofChange careNoMoreOutSpec)

/-- ITS FALSE NEIGHBOUR: 'it returns false'. Refute it at one input. -/
def careNoMoreOutWrong : ChangeSpec := { name := "careNoMoreOut", fn := fun _ => fun
  | [d1, d2, d3] => { results := [.lit (.bool false)], args := [d1, d2, d3] }
  | _ => none }
def CareNoMoreOutWrongFalsely : Prop := careNoMoreOutRow.holds Tryd.pinned (OpenSpec.ofChange careNoMoreOutWrong)

/-- 'guidewaylaw09.CareSuspects': WHATEVER THE INPUT: true; the input reads as it did. -/
def careSuspectsSpec : ChangeSpec := { name := "careSuspects", fn := fun _ => fun
  | [d1, d2] => { results := [.lit (.bool true)], args := [d1, d2] }
  | _ => none }
def careSuspectsRow : OpenClaim := { program := "ytmcjnfghlpnghaadoor", sum := "3f3b2ada5861c30f9d630d94f9c6178e07d790f73aed95f01e6acdd474bcfb55", func := "guideway/guidewaylaw09.CareSuspects", spec := "careSuspects", unfollowed := true, recurses := true, named := ["guideway/care.kinds"], apart := false, laid := [("guideway/care.kinds", laid_guideway_care_kinds)] }
def CareSuspectsSaid : Prop := careSuspectsRow.holds Tryd.pinned (OpenSpec.ofChange careSuspectsSpec)

/-- ITS FALSE NEIGHBOUR: 'it returns false'. Refute it at one input. -/
def careSuspectsWrong : ChangeSpec := { name := "careSuspects", fn := fun _ => fun
  | [d1, d2] => { results := [.lit (.bool false)], args := [d1, d2] }
  | _ => none }
def CareSuspectsWrongFalsely : Prop := careSuspectsRow.holds Tryd.pinned (OpenSpec.ofChange careSuspectsWrong)

/-- 'guidewaylaw09.CareRescues': WHATEVER THE INPUT: true; the input reads as it did. -/
def careRescuesSpec : ChangeSpec := { name := "careRescues", fn := fun _ => fun
  | [d1, d2, d3] => { results := [.lit (.bool true)], args := [d1, d2, d3] }
  | _ => none }
def careRescuesRow : OpenClaim := { program := "ytmcjnfghlpnghaadoor", sum := "3f3b2ada5861c30f9d630d94f9c6178e07d790f73aed95f01e6acdd474bcfb55", func := "guideway/guidewaylaw09.CareRescues", spec := "careRescues", unfollowed := true, recurses := true, named := ["guideway/care.kinds"], apart := false, laid := [("guideway/care.kinds", laid_guideway_care_kinds)] }
def CareRescuesSaid : Prop := careRescuesRow.holds Tryd.pinned (OpenSpec.ofChange careRescuesSpec)

/-- ITS FALSE NEIGHBOUR: 'it returns false'. Refute it at one input. -/
def careRescuesWrong : ChangeSpec := { name := "careRescues", fn := fun _ => fun
  | [d1, d2, d3] => { results := [.lit (.bool false)], args := [d1, d2, d3] }
  | _ => none }
def CareRescuesWrongFalsely : Prop := careRescuesRow.holds Tryd.pinned (OpenSpec.ofChange careRescuesWrong)

/-- 'guidewaylaw09.CareRescued': WHATEVER THE INPUT: true; the input reads as it did. -/
def careRescuedSpec : ChangeSpec := { name := "careRescued", fn := fun _ => fun
  | [d1, d2, d3] => { results := [.lit (.bool true)], args := [d1, d2, d3] }
  | _ => none }
def careRescuedRow : OpenClaim := { program := "ytmcjnfghlpnghaadoor", sum := "3f3b2ada5861c30f9d630d94f9c6178e07d790f73aed95f01e6acdd474bcfb55", func := "guideway/guidewaylaw09.CareRescued", spec := "careRescued", unfollowed := true, recurses := true, named := ["guideway/care.kinds"], apart := false, laid := [("guideway/care.kinds", laid_guideway_care_kinds)] }
def CareRescuedSaid : Prop := careRescuedRow.holds Tryd.pinned (OpenSpec.ofChange careRescuedSpec)

/-- ITS FALSE NEIGHBOUR: 'it returns false'. Refute it at one input. -/
def careRescuedWrong : ChangeSpec := { name := "careRescued", fn := fun _ => fun
  | [d1, d2, d3] => { results := [.lit (.bool false)], args := [d1, d2, d3] }
  | _ => none }
def CareRescuedWrongFalsely : Prop := careRescuedRow.holds Tryd.pinned (OpenSpec.ofChange careRescuedWrong)

/-- 'guidewaylaw09.CarePossible': WHATEVER THE INPUT: true; the input reads as it did. -/
def carePossibleSpec : ChangeSpec := { name := "carePossible", fn := fun _ => fun
  | [d1, d2, d3] => { results := [.lit (.bool true)], args := [d1, d2, d3] }
  | _ => none }
def carePossibleRow : OpenClaim := { program := "ytmcjnfghlpnghaadoor", sum := "3f3b2ada5861c30f9d630d94f9c6178e07d790f73aed95f01e6acdd474bcfb55", func := "guideway/guidewaylaw09.CarePossible", spec := "carePossible", unfollowed := true, recurses := true, named := ["guideway/care.kinds"], apart := false, laid := [("guideway/care.kinds", laid_guideway_care_kinds)] }
def CarePossibleSaid : Prop := carePossibleRow.holds Tryd.pinned (OpenSpec.ofChange carePossibleSpec)

/-- ITS FALSE NEIGHBOUR: 'it returns false'. Refute it at one input. -/
def carePossibleWrong : ChangeSpec := { name := "carePossible", fn := fun _ => fun
  | [d1, d2, d3] => { results := [.lit (.bool false)], args := [d1, d2, d3] }
  | _ => none }
def CarePossibleWrongFalsely : Prop := carePossibleRow.holds Tryd.pinned (OpenSpec.ofChange carePossibleWrong)

/-- 'guidewaylaw09.CareWorks': WHATEVER THE INPUT: true; the input reads as it did. -/
def careWorksSpec : ChangeSpec := { name := "careWorks", fn := fun _ => fun
  | [d1, d2, d3] => { results := [.lit (.bool true)], args := [d1, d2, d3] }
  | _ => none }
def careWorksRow : OpenClaim := { program := "ytmcjnfghlpnghaadoor", sum := "3f3b2ada5861c30f9d630d94f9c6178e07d790f73aed95f01e6acdd474bcfb55", func := "guideway/guidewaylaw09.CareWorks", spec := "careWorks", unfollowed := true, recurses := true, named := ["guideway/care.kinds"], apart := false, laid := [("guideway/care.kinds", laid_guideway_care_kinds)] }
def CareWorksSaid : Prop := careWorksRow.holds Tryd.pinned (OpenSpec.ofChange careWorksSpec)

/-- ITS FALSE NEIGHBOUR: 'it returns false'. Refute it at one input. -/
def careWorksWrong : ChangeSpec := { name := "careWorks", fn := fun _ => fun
  | [d1, d2, d3] => { results := [.lit (.bool false)], args := [d1, d2, d3] }
  | _ => none }
def CareWorksWrongFalsely : Prop := careWorksRow.holds Tryd.pinned (OpenSpec.ofChange careWorksWrong)

/-- 'guidewaylaw09.CareFaults': WHATEVER THE INPUT: true; the input reads as it did. -/
def careFaultsSpec : ChangeSpec := { name := "careFaults", fn := fun _ => fun
  | [d] => { results := [.lit (.bool true)], args := [d] }
  | _ => none }
def careFaultsRow : OpenClaim := { program := "ytmcjnfghlpnghaadoor", sum := "3f3b2ada5861c30f9d630d94f9c6178e07d790f73aed95f01e6acdd474bcfb55", func := "guideway/guidewaylaw09.CareFaults", spec := "careFaults", unfollowed := true, recurses := true, named := ["guideway/care.kinds"], apart := false, laid := [("guideway/care.kinds", laid_guideway_care_kinds)] }
def CareFaultsSaid : Prop := careFaultsRow.holds Tryd.pinned (OpenSpec.ofChange careFaultsSpec)

/-- ITS FALSE NEIGHBOUR: 'it returns false'. Refute it at one input. -/
def careFaultsWrong : ChangeSpec := { name := "careFaults", fn := fun _ => fun
  | [d] => { results := [.lit (.bool false)], args := [d] }
  | _ => none }
def CareFaultsWrongFalsely : Prop := careFaultsRow.holds Tryd.pinned (OpenSpec.ofChange careFaultsWrong)

/-- 'guidewaylaw09.CareExplained': WHATEVER THE INPUT: true; the input reads as it did. -/
def careExplainedSpec : ChangeSpec := { name := "careExplained", fn := fun _ => fun
  | [d1, d2] => { results := [.lit (.bool true)], args := [d1, d2] }
  | _ => none }
def careExplainedRow : OpenClaim := { program := "ytmcjnfghlpnghaadoor", sum := "3f3b2ada5861c30f9d630d94f9c6178e07d790f73aed95f01e6acdd474bcfb55", func := "guideway/guidewaylaw09.CareExplained", spec := "careExplained", unfollowed := true, recurses := true, named := ["guideway/care.kinds"], apart := false, laid := [("guideway/care.kinds", laid_guideway_care_kinds)] }
def CareExplainedSaid : Prop := careExplainedRow.holds Tryd.pinned (OpenSpec.ofChange careExplainedSpec)

/-- ITS FALSE NEIGHBOUR: 'it returns false'. Refute it at one input. -/
def careExplainedWrong : ChangeSpec := { name := "careExplained", fn := fun _ => fun
  | [d1, d2] => { results := [.lit (.bool false)], args := [d1, d2] }
  | _ => none }
def CareExplainedWrongFalsely : Prop := careExplainedRow.holds Tryd.pinned (OpenSpec.ofChange careExplainedWrong)

/- THE SECOND FORM. 'bulk': how many values and letters a reading holds, each counted each time it is reached (what is shared counts as often as it is met; a slice's spare places count too). A statement '..UptoSaid' is the law's where the arguments, and the package variables that the reading takes, are together of bulk at most 1048576: NARROWER than '..Said'. Prove '..Said' where nothing that the law and all that it calls make is longer than what came in: it says more and counts as full. Else prove '..UptoSaid'. A law counts once. -/
mutual
def uptoBulk {H : Type} : DataW H → Nat
  | .lit (.string bytes) => bytes.length + 1
  | .lit _ => 1
  | .nil => 1
  | .ptr d => uptoBulk d + 1
  | .slice elems spare => uptoBulkAll elems + uptoBulkAll spare + 1
  | .agg parts => uptoBulkAll parts + 1
  | .iface _ d => uptoBulk d + 1
  | .map entries => uptoBulkEntries entries + 1
  | .held _ => 1
def uptoBulkAll {H : Type} : List (DataW H) → Nat
  | [] => 0
  | d :: r => uptoBulk d + uptoBulkAll r
def uptoBulkEntries {H : Type} : List (Lit × DataW H) → Nat
  | [] => 0
  | x :: r => uptoBulkEntry x + uptoBulkEntries r
def uptoBulkEntry {H : Type} : Lit × DataW H → Nat
  | (.string bytes, d) => bytes.length + uptoBulk d + 1
  | (_, d) => uptoBulk d + 1
 end
def uptoSmall : (H : Type) → List (DataW H) → Bool := fun _ ds => decide (uptoBulkAll ds ≤ 1048576)
def OpenSpec.upto (s : _root_.Go.ChangeSpec) : _root_.Go.OpenSpec := { _root_.Go.OpenSpec.ofChange s with cond := some uptoSmall }

/-- 'guidewaylaw09.CareReplays', WHERE WHAT IT READS IS OF BULK AT MOST 1048576: true; the input reads as it did. -/
def careReplaysUptoRow : OpenClaim := { program := "ytmcjnfghlpnghaadoor", sum := "3f3b2ada5861c30f9d630d94f9c6178e07d790f73aed95f01e6acdd474bcfb55", func := "guideway/guidewaylaw09.CareReplays", spec := "careReplays", unfollowed := true, recurses := true, named := ["guideway/care.kinds"], apart := false, laid := [("guideway/care.kinds", laid_guideway_care_kinds)], narrowed := true }
def CareReplaysUptoSaid : Prop := careReplaysUptoRow.holds Tryd.pinned (OpenSpec.upto careReplaysSpec)

/-- 'guidewaylaw09.CareOut', WHERE WHAT IT READS IS OF BULK AT MOST 1048576: true; the input reads as it did. -/
def careOutUptoRow : OpenClaim := { program := "ytmcjnfghlpnghaadoor", sum := "3f3b2ada5861c30f9d630d94f9c6178e07d790f73aed95f01e6acdd474bcfb55", func := "guideway/guidewaylaw09.CareOut", spec := "careOut", unfollowed := true, recurses := true, named := ["guideway/care.kinds"], apart := false, laid := [("guideway/care.kinds", laid_guideway_care_kinds)], narrowed := true }
def CareOutUptoSaid : Prop := careOutUptoRow.holds Tryd.pinned (OpenSpec.upto careOutSpec)

/-- 'guidewaylaw09.CareBegins', WHERE WHAT IT READS IS OF BULK AT MOST 1048576: true; the input reads as it did. -/
def careBeginsUptoRow : OpenClaim := { program := "ytmcjnfghlpnghaadoor", sum := "3f3b2ada5861c30f9d630d94f9c6178e07d790f73aed95f01e6acdd474bcfb55", func := "guideway/guidewaylaw09.CareBegins", spec := "careBegins", unfollowed := true, recurses := true, named := ["guideway/care.kinds"], apart := false, laid := [("guideway/care.kinds", laid_guideway_care_kinds)], narrowed := true }
def CareBeginsUptoSaid : Prop := careBeginsUptoRow.holds Tryd.pinned (OpenSpec.upto careBeginsSpec)

/-- 'guidewaylaw09.CareStates', WHERE WHAT IT READS IS OF BULK AT MOST 1048576: true; the input reads as it did. -/
def careStatesUptoRow : OpenClaim := { program := "ytmcjnfghlpnghaadoor", sum := "3f3b2ada5861c30f9d630d94f9c6178e07d790f73aed95f01e6acdd474bcfb55", func := "guideway/guidewaylaw09.CareStates", spec := "careStates", unfollowed := true, recurses := true, named := ["guideway/care.kinds"], apart := false, laid := [("guideway/care.kinds", laid_guideway_care_kinds)], narrowed := true }
def CareStatesUptoSaid : Prop := careStatesUptoRow.holds Tryd.pinned (OpenSpec.upto careStatesSpec)

/-- 'guidewaylaw09.CareApplies', WHERE WHAT IT READS IS OF BULK AT MOST 1048576: true; the input reads as it did. -/
def careAppliesUptoRow : OpenClaim := { program := "ytmcjnfghlpnghaadoor", sum := "3f3b2ada5861c30f9d630d94f9c6178e07d790f73aed95f01e6acdd474bcfb55", func := "guideway/guidewaylaw09.CareApplies", spec := "careApplies", unfollowed := true, recurses := true, named := ["guideway/care.kinds"], apart := false, laid := [("guideway/care.kinds", laid_guideway_care_kinds)], narrowed := true }
def CareAppliesUptoSaid : Prop := careAppliesUptoRow.holds Tryd.pinned (OpenSpec.upto careAppliesSpec)

/-- 'guidewaylaw09.CareFindings', WHERE WHAT IT READS IS OF BULK AT MOST 1048576: true; the input reads as it did. -/
def careFindingsUptoRow : OpenClaim := { program := "ytmcjnfghlpnghaadoor", sum := "3f3b2ada5861c30f9d630d94f9c6178e07d790f73aed95f01e6acdd474bcfb55", func := "guideway/guidewaylaw09.CareFindings", spec := "careFindings", unfollowed := true, recurses := true, named := ["guideway/care.kinds"], apart := false, laid := [("guideway/care.kinds", laid_guideway_care_kinds)], narrowed := true }
def CareFindingsUptoSaid : Prop := careFindingsUptoRow.holds Tryd.pinned (OpenSpec.upto careFindingsSpec)

/-- 'guidewaylaw09.CareCuts', WHERE WHAT IT READS IS OF BULK AT MOST 1048576: true; the input reads as it did. -/
def careCutsUptoRow : OpenClaim := { program := "ytmcjnfghlpnghaadoor", sum := "3f3b2ada5861c30f9d630d94f9c6178e07d790f73aed95f01e6acdd474bcfb55", func := "guideway/guidewaylaw09.CareCuts", spec := "careCuts", unfollowed := true, recurses := true, named := ["guideway/care.kinds"], apart := false, laid := [("guideway/care.kinds", laid_guideway_care_kinds)], narrowed := true }
def CareCutsUptoSaid : Prop := careCutsUptoRow.holds Tryd.pinned (OpenSpec.upto careCutsSpec)

/-- 'guidewaylaw09.CareShutWhileMoving', WHERE WHAT IT READS IS OF BULK AT MOST 1048576: true; the input reads as it did. -/
def careShutWhileMovingUptoRow : OpenClaim := { program := "ytmcjnfghlpnghaadoor", sum := "3f3b2ada5861c30f9d630d94f9c6178e07d790f73aed95f01e6acdd474bcfb55", func := "guideway/guidewaylaw09.CareShutWhileMoving", spec := "careShutWhileMoving", unfollowed := true, recurses := true, named := ["guideway/care.kinds"], apart := false, laid := [("guideway/care.kinds", laid_guideway_care_kinds)], narrowed := true }
def CareShutWhileMovingUptoSaid : Prop := careShutWhileMovingUptoRow.holds Tryd.pinned (OpenSpec.upto careShutWhileMovingSpec)

/-- 'guidewaylaw09.CareNoMoreOut', WHERE WHAT IT READS IS OF BULK AT MOST 1048576: true; the input reads as it did. -/
def careNoMoreOutUptoRow : OpenClaim := { program := "ytmcjnfghlpnghaadoor", sum := "3f3b2ada5861c30f9d630d94f9c6178e07d790f73aed95f01e6acdd474bcfb55", func := "guideway/guidewaylaw09.CareNoMoreOut", spec := "careNoMoreOut", unfollowed := true, recurses := true, named := ["guideway/care.kinds"], apart := false, laid := [("guideway/care.kinds", laid_guideway_care_kinds)], narrowed := true }
def CareNoMoreOutUptoSaid : Prop := careNoMoreOutUptoRow.holds Tryd.pinned (OpenSpec.upto careNoMoreOutSpec)

/-- 'guidewaylaw09.CareSuspects', WHERE WHAT IT READS IS OF BULK AT MOST 1048576: true; the input reads as it did. -/
def careSuspectsUptoRow : OpenClaim := { program := "ytmcjnfghlpnghaadoor", sum := "3f3b2ada5861c30f9d630d94f9c6178e07d790f73aed95f01e6acdd474bcfb55", func := "guideway/guidewaylaw09.CareSuspects", spec := "careSuspects", unfollowed := true, recurses := true, named := ["guideway/care.kinds"], apart := false, laid := [("guideway/care.kinds", laid_guideway_care_kinds)], narrowed := true }
def CareSuspectsUptoSaid : Prop := careSuspectsUptoRow.holds Tryd.pinned (OpenSpec.upto careSuspectsSpec)

/-- 'guidewaylaw09.CareRescues', WHERE WHAT IT READS IS OF BULK AT MOST 1048576: true; the input reads as it did. -/
def careRescuesUptoRow : OpenClaim := { program := "ytmcjnfghlpnghaadoor", sum := "3f3b2ada5861c30f9d630d94f9c6178e07d790f73aed95f01e6acdd474bcfb55", func := "guideway/guidewaylaw09.CareRescues", spec := "careRescues", unfollowed := true, recurses := true, named := ["guideway/care.kinds"], apart := false, laid := [("guideway/care.kinds", laid_guideway_care_kinds)], narrowed := true }
def CareRescuesUptoSaid : Prop := careRescuesUptoRow.holds Tryd.pinned (OpenSpec.upto careRescuesSpec)

/-- 'guidewaylaw09.CareRescued', WHERE WHAT IT READS IS OF BULK AT MOST 1048576: true; the input reads as it did. -/
def careRescuedUptoRow : OpenClaim := { program := "ytmcjnfghlpnghaadoor", sum := "3f3b2ada5861c30f9d630d94f9c6178e07d790f73aed95f01e6acdd474bcfb55", func := "guideway/guidewaylaw09.CareRescued", spec := "careRescued", unfollowed := true, recurses := true, named := ["guideway/care.kinds"], apart := false, laid := [("guideway/care.kinds", laid_guideway_care_kinds)], narrowed := true }
def CareRescuedUptoSaid : Prop := careRescuedUptoRow.holds Tryd.pinned (OpenSpec.upto careRescuedSpec)

/-- 'guidewaylaw09.CarePossible', WHERE WHAT IT READS IS OF BULK AT MOST 1048576: true; the input reads as it did. -/
def carePossibleUptoRow : OpenClaim := { program := "ytmcjnfghlpnghaadoor", sum := "3f3b2ada5861c30f9d630d94f9c6178e07d790f73aed95f01e6acdd474bcfb55", func := "guideway/guidewaylaw09.CarePossible", spec := "carePossible", unfollowed := true, recurses := true, named := ["guideway/care.kinds"], apart := false, laid := [("guideway/care.kinds", laid_guideway_care_kinds)], narrowed := true }
def CarePossibleUptoSaid : Prop := carePossibleUptoRow.holds Tryd.pinned (OpenSpec.upto carePossibleSpec)

/-- 'guidewaylaw09.CareWorks', WHERE WHAT IT READS IS OF BULK AT MOST 1048576: true; the input reads as it did. -/
def careWorksUptoRow : OpenClaim := { program := "ytmcjnfghlpnghaadoor", sum := "3f3b2ada5861c30f9d630d94f9c6178e07d790f73aed95f01e6acdd474bcfb55", func := "guideway/guidewaylaw09.CareWorks", spec := "careWorks", unfollowed := true, recurses := true, named := ["guideway/care.kinds"], apart := false, laid := [("guideway/care.kinds", laid_guideway_care_kinds)], narrowed := true }
def CareWorksUptoSaid : Prop := careWorksUptoRow.holds Tryd.pinned (OpenSpec.upto careWorksSpec)

/-- 'guidewaylaw09.CareFaults', WHERE WHAT IT READS IS OF BULK AT MOST 1048576: true; the input reads as it did. -/
def careFaultsUptoRow : OpenClaim := { program := "ytmcjnfghlpnghaadoor", sum := "3f3b2ada5861c30f9d630d94f9c6178e07d790f73aed95f01e6acdd474bcfb55", func := "guideway/guidewaylaw09.CareFaults", spec := "careFaults", unfollowed := true, recurses := true, named := ["guideway/care.kinds"], apart := false, laid := [("guideway/care.kinds", laid_guideway_care_kinds)], narrowed := true }
def CareFaultsUptoSaid : Prop := careFaultsUptoRow.holds Tryd.pinned (OpenSpec.upto careFaultsSpec)

/-- 'guidewaylaw09.CareExplained', WHERE WHAT IT READS IS OF BULK AT MOST 1048576: true; the input reads as it did. -/
def careExplainedUptoRow : OpenClaim := { program := "ytmcjnfghlpnghaadoor", sum := "3f3b2ada5861c30f9d630d94f9c6178e07d790f73aed95f01e6acdd474bcfb55", func := "guideway/guidewaylaw09.CareExplained", spec := "careExplained", unfollowed := true, recurses := true, named := ["guideway/care.kinds"], apart := false, laid := [("guideway/care.kinds", laid_guideway_care_kinds)], narrowed := true }
def CareExplainedUptoSaid : Prop := careExplainedUptoRow.holds Tryd.pinned (OpenSpec.upto careExplainedSpec)

end Rows
end Go.Proofs.YtmcjnfghlpnghaaDoor
