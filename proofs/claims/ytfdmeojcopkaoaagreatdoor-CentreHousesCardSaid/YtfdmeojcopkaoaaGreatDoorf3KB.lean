/- The statement CentreHouses of the given program, whole: for every house that the row's condition admits the function guidewaylaw10.CentreHouses returns true (which houses are right, with a mark, is as specified; limits of Few), at every laid world that the row describes; no condition beyond the given card's own. -/
import Derived.Test.YtfdmeojcopkaoaaGreatDoorf3KA
import Derived.Test.YtfdmeojcopkaoaaGreatDoorf3KH
import Derived.Test.YtfdmeojcopkaoaaGreatDoorf3KP
import Derived.Test.YtfdmeojcopkaoaaGreatDoorf3KQ
import Derived.Test.YtfdmeojcopkaoaaGreatDoorTie
import Derived.Test.YtfdmeojcopkaoaaGreatDoorCards
import Derived.SevenTiedAt
set_option maxRecDepth 100000
set_option maxHeartbeats 16000000
namespace Go.Proofs.YtfdmeojcopkaoaaGreatDoor
open Go.ChangeShapes Go.WideShapes Go.ChangeAt Go.RowKit Go Go.Joins
theorem centreHouses_card:Rows.CentreHousesCardSaid:=
 Claim7.holds_tied_plain_at .later [] [.data,.data,.data,.data,.sentinel,.sentinel,.widerDeep,.pinned] true (true,"dd670936e51f3b381eb294b4fc01a8a20dc561abb10ee0d78924de71b97ea376") true
  centreHouses_holds (fun _ h=>by cases h) (by as_aux_lemma=>kernel_rfl) (fun _ h=>by cases h) centreHouses_row_tie rfl ⟨rfl,rfl⟩ (by as_aux_lemma=>kernel_rfl) rfl
  (fun f fn hf hfn=>by
    obtain rfl:f=3:=Option.some.inj ((show Tryz.prog.funcNamed "guideway/guidewaylaw10.CentreHouses" = some 3 by as_aux_lemma=>kernel_rfl).symm.trans hf) |>.symm
    obtain rfl:fn=Tryz.f3:=(Option.some.inj (Tryz.func3.symm.trans hfn)).symm
    exact ⟨zgr,fun j t ht=>by
     rw [Tryz.params3] at ht
     have h3:t=45:=by
      rcases j with _ | j
      · simpa using ht.symm
      · simp at ht
     subst h3
     exact (show Tryz.prog.wantsStandIn 45=false by as_aux_lemma=>kernel_rfl)⟩)
  zha
#print axioms centreHouses_card
end Go.Proofs.YtfdmeojcopkaoaaGreatDoor
