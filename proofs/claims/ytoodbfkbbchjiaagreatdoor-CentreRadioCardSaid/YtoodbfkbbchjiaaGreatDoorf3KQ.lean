import Derived.Test.YtoodbfkbbchjiaaGreatDoorRows
import Derived.Test.YtoodbfkbbchjiaaGreatDoorTie
import Derived.Test.YtoodbfkbbchjiaaGreatDoorCards
import Derived.Test.YtoodbfkbbchjiaaGreatDoorf3KA
import Derived.SevenTiedAt
set_option maxRecDepth 100000
set_option maxHeartbeats 16000000
namespace Go.Proofs.YtoodbfkbbchjiaaGreatDoor
open Go.ChangeShapes Go.WideShapes Go.ChangeAt Go.RowKit Go Go.Joins
theorem no_go:Tryz.prog.funcs.any Func.goes=false:=by kernel_rfl
theorem goes_no (P:Program) (h:P.funcs.any Func.goes=false) (f:FuncId):P.goes f=false:=by
 unfold Program.goes
 rw [h,Bool.and_false,Bool.or_false]
 rw [Bool.eq_false_iff]
 intro h1
 obtain ⟨g,_,hg⟩:=List.any_eq_true.1 (by simpa using h1)
 cases hq:P.funcs[g]? with
 | none=>rw [hq] at hg;cases hg
 | some fn =>
  rw [hq] at hg
  obtain ⟨hlt,e⟩:=Array.getElem?_eq_some_iff.1 hq
  have h2:P.funcs.any Func.goes=true:=Array.any_eq_true.2 ⟨g,hlt,by rw [e];exact hg⟩
  rw [h] at h2
  cases h2
theorem goesAt_no (P:Program) (h:P.funcs.any Func.goes=false) (s:String):false=P.goesAt .entering s:=by
 unfold Program.goesAt Program.goesFrom
 cases P.funcNamed s <;> simp [goes_no P h]
theorem zij:false=Rows.centreRadioRow.goesBy Tryz.pinned.checked.prog:=goesAt_no Tryz.pinned.checked.prog no_go _
theorem zhr:true=Tryz.pinned.checked.prog.looks []:=by kernel_rfl
end Go.Proofs.YtoodbfkbbchjiaaGreatDoor
