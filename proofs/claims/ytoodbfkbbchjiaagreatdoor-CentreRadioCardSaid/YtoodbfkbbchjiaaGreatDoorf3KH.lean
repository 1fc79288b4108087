import Derived.Test.YtoodbfkbbchjiaaGreatDoorf3KA
import Derived.Test.YtoodbfkbbchjiaaGreatDoorf3KF
import Derived.Test.YtoodbfkbbchjiaaGreatDoorf3KL
import Derived.Test.YtoodbfkbbchjiaaGreatDoorTie
import Derived.Test.YtoodbfkbbchjiaaGreatDoorCards
import Derived.SevenTiedAt
set_option maxRecDepth 100000
set_option maxHeartbeats 16000000
namespace Go.Proofs.YtoodbfkbbchjiaaGreatDoor
open Go.ChangeShapes Go.WideShapes Go.ChangeAt Go.RowKit Go Go.Joins
theorem centreRadio_holds:Rows.CentreRadioSaid:=
 OpenClaim.holds_of_wide 3 Tryz.f3 rfl rfl rfl rfl rfl rfl rfl ⟨rfl,rfl,rfl,rfl,rfl⟩ rfl rfl rfl rfl rfl (by as_aux_lemma=>kernel_rfl) Tryz.func3 zhs
  (of_decide_eq_true (by as_aux_lemma=>kernel_rfl)) (by unfold Func.isWrapper;first | (rw [if_pos (by decide +kernel)];kernel_rfl) | (rw [if_neg (by decide +kernel)];exact ⟨rfl,rfl⟩))
  (fun os started H enc _=>zg8 os started H enc)
end Go.Proofs.YtoodbfkbbchjiaaGreatDoor
