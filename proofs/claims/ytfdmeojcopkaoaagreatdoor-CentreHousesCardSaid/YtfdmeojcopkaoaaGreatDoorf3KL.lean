import Derived.Test.YtfdmeojcopkaoaaGreatDoorf3KA
import Derived.Test.YtfdmeojcopkaoaaGreatDoorf3KC
import Derived.Test.YtfdmeojcopkaoaaGreatDoorf3U2
import Derived.Test.YtfdmeojcopkaoaaGreatDoorf3U3
import Derived.Test.YtfdmeojcopkaoaaGreatDoorf3C11
import Derived.SevenTiedAt
set_option maxRecDepth 100000
set_option maxHeartbeats 16000000
namespace Go.Proofs.YtfdmeojcopkaoaaGreatDoor
open Go.ChangeShapes Go.WideShapes Go.ChangeAt Go.RowKit Go Go.Joins
theorem zf5 (os:Os) (started:os.Started) (H:Type) (enc:TypeId × Value→H) :
 ReturnsInHanded {} Tryz.checked os 3 .any (fun w args=>(Rows.centreHousesSpec.pre enc Tryz.prog Tryz.f3 [] false w args∧laidMetH Tryz.prog Rows.centreHousesRow.laid w)∧sizedMet enc Tryz.prog Tryz.f3 (OpenSpec.ofChange Rows.centreHousesSpec) false w args)
  (Rows.centreHousesSpec.post enc Tryz.prog Tryz.f3 false true false false):=by
 refine zg9 (C:=Tryz.checked) (X:=fun w _=>laidMetH Tryz.prog Rows.centreHousesRow.laid w) (fun _ _ _ hh h=>h.of_heap hh) own started (by kernel_rfl) Tryz.func3
  (ChangeSpec.witness_shaped (enc:=enc) (C:=Tryz.checked) (os:=os) (X:=fun w _=>laidMetH Tryz.prog Rows.centreHousesRow.laid w) false (worldT os) #[.agg #[.slice none 0 0,.slice none 0 0,.slice none 0 0,.slice none 0 0,.slice none 0 0,.slice none 0 0,.slice none 0 0,.slice none 0 0,.int .i64 0,.int .i64 0,.int .i64 0,.int .i64 0,.int .i64 0,.int .i64 0,.int .i64 0,.bool false,.string ⟨#[]⟩,.slice none 0 0,.int .i64 0,.int .i64 0,.int .i64 0,.slice none 0 0,.slice none 0 0,.slice none 0 0,.slice none 0 0]] 8 (World.layVars_os _ _ _) (World.shaped_of_ZipB (by kernel_rfl) (by kernel_rfl)) (by kernel_rfl) (by kernel_rfl) (by kernel_rfl) (laidH_iff.2 (worldT_met os _))) ?_
 intro W base args ds gs before hval0 hW _ _ hL hsh _
 have hval:∀ (j:Nat) t v,Tryz.f3.params[j]?=some t→args[j]?=some v→Value.okWide Tryz.prog W .any base t v:=hval0
 have hW':=hW
 obtain ⟨p,q,hA0,hV,rfl,hfz,hnd⟩:=hW
 have hA:DataW.TrodAll enc Tryz.prog W 0 (fun _=>true) true Tryz.f3.params.toList args.toList ds p:=hA0
 rw [Tryz.params3] at hA hval
 obtain ⟨v0,d0,rfl,rfl,h0⟩:=trodAll_one hA
 obtain ⟨rfl,rfl⟩:=trodVars_none hV
 obtain ⟨h,rfl,hh,hw⟩:=open_house (hval 0 45 v0 rfl rfl) h0
 have ht:=ctC hL hsh
 refine (houses_law W W.heap.size h hh hw (Nat.le_refl _) (fun W' hb=>awake_any W' (ht.below hb))).mono fun e W' ⟨he,hb⟩=>⟨_,he,?_⟩
 exact law_end rfl hW' rfl (by kernel_rfl) (by rw [Tryz.params3];intro t ht;simp at ht;rcases ht with rfl;exact ⟨by kernel_rfl,of_decide_eq_true (by kernel_rfl)⟩) hb
end Go.Proofs.YtfdmeojcopkaoaaGreatDoor
