/- The statement CentreRadio of the given program, whole: for every house and every way along the line that the row's condition admits the function guidewaylaw10.CentreRadio returns true (a train that has joined, and is handed along the line mast by mast, has always the masts that it should), at every laid world that the row describes; no condition beyond the given card's own. -/
import Derived.Test.YtoodbfkbbchjiaaGreatDoorf3KA
import Derived.Test.YtoodbfkbbchjiaaGreatDoorf3KH
import Derived.Test.YtoodbfkbbchjiaaGreatDoorf3KQ
import Derived.Test.YtoodbfkbbchjiaaGreatDoorTie
import Derived.Test.YtoodbfkbbchjiaaGreatDoorCards
import Derived.SevenTiedAt
set_option maxRecDepth 100000
set_option maxHeartbeats 16000000
namespace Go.Proofs.YtoodbfkbbchjiaaGreatDoor
open Go.ChangeShapes Go.WideShapes Go.ChangeAt Go.RowKit Go Go.Joins
theorem centreRadio_card:Rows.CentreRadioCardSaid:=
 Claim7.holds_tied_plain_at .later [] [.data,.data,.data,.data,.sentinel,.sentinel,.widerDeep,.pinned] true (true,"1c6b8d59c30e6656096e8266e714752869af9d251c92b409aa18bc67a964591e") true
  centreRadio_holds (fun _ h=>by cases h) (by as_aux_lemma=>kernel_rfl) (fun _ h=>by cases h) centreRadio_row_tie rfl ⟨rfl,rfl⟩ (by as_aux_lemma=>kernel_rfl) rfl
  (fun f fn hf hfn=>by
    obtain rfl:f=3:=Option.some.inj ((show Tryz.prog.funcNamed "guideway/guidewaylaw10.CentreRadio" = some 3 by as_aux_lemma=>kernel_rfl).symm.trans hf) |>.symm
    obtain rfl:fn=Tryz.f3:=(Option.some.inj (Tryz.func3.symm.trans hfn)).symm
    exact ⟨zhr,fun j t ht=>by
     rw [Tryz.params3] at ht
     rcases j with _ | _ | j
     · obtain rfl:t=45:=by simpa using ht.symm
       exact (show Tryz.prog.wantsStandIn 45=false by as_aux_lemma=>kernel_rfl)
     · obtain rfl:t=48:=by simpa using ht.symm
       exact (show Tryz.prog.wantsStandIn 48=false by as_aux_lemma=>kernel_rfl)
     · simp at ht⟩)
  zij
#print axioms centreRadio_card
end Go.Proofs.YtoodbfkbbchjiaaGreatDoor
