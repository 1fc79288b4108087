import Derived.Test.YtfdmeojcopkaoaaGreatDoorf3KA
import Derived.Test.YtfdmeojcopkaoaaGreatDoorf3KF
import Derived.Test.YtfdmeojcopkaoaaGreatDoorf3KL
import Derived.Test.YtfdmeojcopkaoaaGreatDoorTie
import Derived.Test.YtfdmeojcopkaoaaGreatDoorCards
import Derived.SevenTiedAt
set_option maxRecDepth 100000
set_option maxHeartbeats 16000000
namespace Go.Proofs.YtfdmeojcopkaoaaGreatDoor
open Go.ChangeShapes Go.WideShapes Go.ChangeAt Go.RowKit Go Go.Joins
theorem centreHouses_holds:Rows.CentreHousesSaid:=
 OpenClaim.holds_of_wide 3 Tryz.f3 rfl rfl rfl rfl rfl rfl rfl ⟨rfl,rfl,rfl,rfl,rfl⟩ rfl rfl rfl rfl rfl (by as_aux_lemma=>kernel_rfl) Tryz.func3 zgs
  (of_decide_eq_true (by as_aux_lemma=>kernel_rfl)) (by unfold Func.isWrapper;first | (rw [if_pos (by decide +kernel)];kernel_rfl) | (rw [if_neg (by decide +kernel)];exact ⟨rfl,rfl⟩))
  (fun os started H enc _=>zf5 os started H enc)
end Go.Proofs.YtfdmeojcopkaoaaGreatDoor
