import Derived.Test.YtfdmeojcopkaoaaGreatDoorRows
import Derived.Test.YtfdmeojcopkaoaaGreatDoorTie
import Derived.Test.YtfdmeojcopkaoaaGreatDoorCards
import Derived.Test.YtfdmeojcopkaoaaGreatDoorf3KA
import Derived.SevenTiedAt
set_option maxRecDepth 100000
set_option maxHeartbeats 16000000
namespace Go.Proofs.YtfdmeojcopkaoaaGreatDoor
open Go.ChangeShapes Go.WideShapes Go.ChangeAt Go.RowKit Go Go.Joins
theorem zgr:true=Tryz.pinned.checked.prog.looks []:=by kernel_rfl
end Go.Proofs.YtfdmeojcopkaoaaGreatDoor
