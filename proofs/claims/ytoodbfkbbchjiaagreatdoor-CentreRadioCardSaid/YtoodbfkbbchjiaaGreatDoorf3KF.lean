import Derived.Test.YtoodbfkbbchjiaaGreatDoorf3KA
import Derived.Test.YtoodbfkbbchjiaaGreatDoorTie
import Derived.Test.YtoodbfkbbchjiaaGreatDoorCards
import Derived.SevenTiedAt
set_option maxRecDepth 100000
set_option maxHeartbeats 16000000
namespace Go.Proofs.YtoodbfkbbchjiaaGreatDoor
open Go.ChangeShapes Go.WideShapes Go.ChangeAt Go.RowKit Go Go.Joins
theorem zhs:joinedFacts Tryz.prog 3 Tryz.f3 Rows.centreRadioSpec Rows.centreRadioRow=true:=
 facts_of (by as_aux_lemma=>kernel_rfl) laidOut pf_maps (by as_aux_lemma=>kernel_rfl) (by as_aux_lemma=>kernel_rfl) (by as_aux_lemma=>kernel_rfl) pf_stops (by as_aux_lemma=>kernel_rfl) pf_knobs (by as_aux_lemma=>kernel_rfl) (by as_aux_lemma=>kernel_rfl) (by as_aux_lemma=>kernel_rfl) (by as_aux_lemma=>kernel_rfl) (by as_aux_lemma=>kernel_rfl) (by as_aux_lemma=>kernel_rfl) (by as_aux_lemma=>kernel_rfl) (by as_aux_lemma=>kernel_rfl) (by as_aux_lemma=>kernel_rfl) (by as_aux_lemma=>kernel_rfl) pf_heard pf_enter (by as_aux_lemma=>kernel_rfl) (by as_aux_lemma=>kernel_rfl) (by as_aux_lemma=>kernel_rfl) (by as_aux_lemma=>kernel_rfl) (by as_aux_lemma=>kernel_rfl) (by as_aux_lemma=>kernel_rfl)
end Go.Proofs.YtoodbfkbbchjiaaGreatDoor
