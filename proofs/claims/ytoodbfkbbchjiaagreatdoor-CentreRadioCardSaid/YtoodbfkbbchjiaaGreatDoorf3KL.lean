import Derived.Test.YtoodbfkbbchjiaaGreatDoorf3KA
import Derived.Test.YtoodbfkbbchjiaaGreatDoorf3U4
import Derived.Test.YtoodbfkbbchjiaaGreatDoorf3J12
import Derived.Test.YtoodbfkbbchjiaaGreatDoorf3S8
import Derived.Test.YtoodbfkbbchjiaaGreatDoorf3S10
import Derived.Test.YtoodbfkbbchjiaaGreatDoorf3N3
import Derived.Test.YtoodbfkbbchjiaaGreatDoorf3J11
import Derived.Test.YtoodbfkbbchjiaaGreatDoorf3J9
import Derived.SevenTiedAt
set_option maxRecDepth 100000
set_option maxHeartbeats 16000000
namespace Go.Proofs.YtoodbfkbbchjiaaGreatDoor
open Go.ChangeShapes Go.WideShapes Go.ChangeAt Go.RowKit Go Go.Joins
theorem zg8 (os:Os) (started:os.Started) (H:Type) (enc:TypeId × Value→H) :
 ReturnsInHanded {} Tryz.checked os 3 .any (fun w args=>(Rows.centreRadioSpec.pre enc Tryz.prog Tryz.f3 [] false w args∧laidMetH Tryz.prog Rows.centreRadioRow.laid w)∧sizedMet enc Tryz.prog Tryz.f3 (OpenSpec.ofChange Rows.centreRadioSpec) false w args)
  (Rows.centreRadioSpec.post enc Tryz.prog Tryz.f3 false true false false):=by
 refine zhp (C:=Tryz.checked) (X:=fun w _=>laidMetH Tryz.prog Rows.centreRadioRow.laid w) (fun _ _ _ hh h=>h.of_heap hh) own started (by kernel_rfl) Tryz.func3
  (ChangeSpec.witness_shaped (enc:=enc) (C:=Tryz.checked) (os:=os) (X:=fun w _=>laidMetH Tryz.prog Rows.centreRadioRow.laid w) false (worldT os) #[.agg #[.slice none 0 0,.slice none 0 0,.slice none 0 0,.slice none 0 0,.slice none 0 0,.slice none 0 0,.slice none 0 0,.slice none 0 0,.int .i64 0,.int .i64 0,.int .i64 0,.int .i64 0,.int .i64 0,.int .i64 0,.int .i64 0,.bool false,.string ⟨#[]⟩,.slice none 0 0,.int .i64 0,.int .i64 0,.int .i64 0,.slice none 0 0,.slice none 0 0,.slice none 0 0,.slice none 0 0],.agg #[.int .i64 0,.int .i64 0,.slice none 0 0]] 8 (World.layVars_os _ _ _) (World.shaped_of_ZipB (by kernel_rfl) (by kernel_rfl)) (by kernel_rfl) (by kernel_rfl) (by kernel_rfl) (laidH_iff.2 (worldT_met os _))) ?_
 intro W base args ds gs before hval0 hW _ _ hL hsh _
 have hval:∀ (j:Nat) t v,Tryz.f3.params[j]?=some t→args[j]?=some v→Value.okWide Tryz.prog W .any base t v:=hval0
 have hW':=hW
 obtain ⟨p,q,hA0,hV,rfl,hfz,hnd⟩:=hW
 have hA:DataW.TrodAll enc Tryz.prog W 0 (fun _=>true) true Tryz.f3.params.toList args.toList ds p:=hA0
 rw [Tryz.params3] at hA hval
 obtain ⟨v0,v1,d0,d1,p0,p1,rfl,rfl,rfl,h0,h1⟩:=trodAll_two hA
 obtain ⟨rfl,rfl⟩:=trodVars_none hV
 obtain ⟨h,rfl,hh,hw⟩:=open_house (hval 0 45 v0 rfl rfl) h0
 obtain ⟨xt,xf,A,n,c,ways,rfl,hwl,hwr⟩:=open_way (hval 1 48 v1 rfl rfl) h1
 have ht:=ctC hL hsh
 refine (radio_law W W.heap.size h hh hw xt xf A n c ways hwl hwr (Nat.le_refl _) ht (fun W' hb=>awake_any W' (ht.below hb)) (fun W' a b c d=>HouseErr_any W' W.heap.size h a b c d)).mono fun e W' ⟨he,hb⟩=>⟨_,he,?_⟩
 exact law_end rfl hW' rfl (by kernel_rfl) (by rw [Tryz.params3];intro t ht;simp at ht;rcases ht with rfl | rfl <;> exact ⟨by kernel_rfl,of_decide_eq_true (by kernel_rfl)⟩) hb
end Go.Proofs.YtoodbfkbbchjiaaGreatDoor
