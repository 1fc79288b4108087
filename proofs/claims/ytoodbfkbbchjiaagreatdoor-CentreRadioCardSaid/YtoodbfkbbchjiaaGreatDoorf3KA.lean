import Derived.Test.YtoodbfkbbchjiaaGreatDoorRows
import Derived.Test.YtoodbfkbbchjiaaGreatDoorf3A0
import Derived.ProofKit
import Derived.LaidMore
import Derived.Lay
import Derived.Stop.Joined
import Derived.Stop.LaidErr
import Derived.Lib.SmallJoins
import Derived.OpenShut
import Derived.Carry
import Derived.JoinedOf
import Derived.HandedShaped
import Derived.Maps.OwnOps
set_option maxRecDepth 100000
set_option maxHeartbeats 16000000
namespace Go.Proofs.YtoodbfkbbchjiaaGreatDoor
open Go.ChangeShapes Go.WideShapes Go.ChangeAt Go.RowKit Go
theorem own:ownKnob Tryz.prog.godebug=none:=by kernel_rfl
theorem laidOut:laidOutB Tryz.prog=true:=by kernel_rfl
theorem zgo {P:Program} (hlo:laidOutB P=true) {H:Type} {enc:TypeId × Value→H} {W W':World} (hb:Below W.heap.size W W'):∀ (ts:List TypeId) (vs:List Value) (ds:List (DataW H)) (ps:List MemPlace),
 (∀ t∈ts,P.readableRec t=true∧t<P.types.size)→DataW.TrodAll enc P W 0 (fun _=>true) true ts vs ds ps→(∀ x∈ps,x.block<W.heap.size) →
 DataW.TrodAll enc P W' 0 (fun b=>decide (b<W.heap.size)) true ts vs ds ps
 | [],[],[],_,_,h,_=>h
 | t :: ts,v :: vs,d :: ds,ps,ht,h,hlt=>by
  obtain ⟨p,q,h1,h2,rfl⟩:=h
  have ht0:=ht t (by simp)
  exact ⟨p,q,Below.trod hlo ht0.1 ht0.2 h1 hb (fun x hx=>hlt x (by simp [hx])),zgo hlo hb ts vs ds q (fun x hx=>ht x (by simp [hx])) h2 (fun x hx=>hlt x (by simp [hx])),rfl⟩
 | [],[],_ :: _,_,_,h,_=>h.elim
 | [],_ :: _,_,_,_,h,_=>h.elim
 | _ :: _,[],_,_,_,h,_=>h.elim
 | _ :: _,_ :: _,[],_,_,h,_=>h.elim
theorem law_end {H:Type} {enc:TypeId × Value→H} {f:Func} {s:ChangeSpec} {W W':World} {args:Array Value} {ds:List (DataW H)} {before:List MemPlace}
 (hvars:s.vars=[]) (hW:DataW.Whole enc Tryz.prog f.params.toList s.vars false W args.toList ds [] before) (hfn:s.fn H (ds++[])={ results:=[.lit (.bool true)],args:=ds })
 (hr:f.resultTypes=#[4]) (ht:∀ t∈f.params.toList,Tryz.prog.readableRec t=true∧t<Tryz.prog.types.size) (hb:Below W.heap.size W W') :
 s.post enc Tryz.prog f false true false false W args (.bool true) W':=by
 have hW':=hW
 obtain ⟨p,q,hA,hV,rfl,hfz,hnd⟩:=hW
 have hlt:∀ x∈p,x.block<W.heap.size:=fun x hx=>hW'.lt x (by simp [hx])
 refine ⟨ds,[],_,[],p,[],hW',?_,?_,?_,hb.frame _,fun h=>by cases h⟩
 · rw [hfn,hr]
   exact trodAll_mk1 (shut_bool Tryz.underlying4 _)
 · rw [hfn]
   exact zgo laidOut hb _ _ _ _ ht hA hlt
 · rw [hfn,hvars]
   rfl
theorem zhp {H:Type} {enc:TypeId × Value→H} {a:Assume} {C:Checked} {os:Os} {f:FuncId} {fn:Func} {s:ChangeSpec} {conds:List PathCond} {apart fresh handsOn again:Bool} {X:World→Array Value→Prop}
 (hX:∀ (w w':World) (args:Array Value),w.heap=w'.heap→X w args→X w' args)
 (own:ownKnob C.prog.godebug=none) (started:os.Started) (noInit:C.prog.inits.idxOf? f=none) (hfn:C.prog.funcs[f]?=some fn)
 (witness:∃ (w:World) (tape:Tape) (i:Input),w.os=os∧(w.forCall tape i).Shaped C.prog∧i.vars=[]∧Input.okWide C.prog (w.forCall tape i) .any w.heap.size f i ∧
   ((s.pre enc C.prog fn conds apart (w.forCall tape i).memory i.args∧X (w.forCall tape i).memory i.args)∧sizedMet enc C.prog fn (OpenSpec.ofChange s) apart (w.forCall tape i).memory i.args)∧a.holds C.prog (lone (Frame.enter C.prog f i.args .normal) [] (w.forCall tape i)))
 (contract:∀ (W:World) (base:Nat) (args:Array Value) (ds gs:List (DataW H)) (before:List MemPlace),
   (∀ (j:Nat) t v,fn.params[j]?=some t→args[j]?=some v→Value.okWide C.prog W .any base t v) →
   DataW.Whole enc C.prog fn.params.toList s.vars apart W args.toList ds gs before →
   conds.all (PathCond.test C.prog ⟨fn.params.toList,ds,s.plain.varTypes C.prog,gs⟩)=true →
   (DataW.weightsEach C.prog (fn.params.toList++s.plain.varTypes C.prog) (ds++gs)).all (·≤reachBytes)=true→X W args →
   W.ShapedOpen C.prog →
   a.holds C.prog (lone (Frame.enter C.prog f args .normal) [] W) →
   Calls C.prog f args W fun e W'=>∃ v,e=.returned v∧s.post enc C.prog fn apart fresh handsOn again W args v W') :
 ReturnsInHanded a C os f .any (fun w args=>(s.pre enc C.prog fn conds apart w args∧X w args)∧sizedMet enc C.prog fn (OpenSpec.ofChange s) apart w args) (s.post enc C.prog fn apart fresh handsOn again):=by
 refine returnsInHanded_of_calls own started noInit witness ?_
 intro w tape i _ hsh _ hok hpre hholds
 obtain ⟨_,_,_,fn',hfn',_,_,_,_,hval⟩:=hok
 have e:fn'=fn:=Option.some.inj (hfn'.symm.trans hfn)
 subst e
 obtain ⟨⟨⟨ds,gs,before,hw,hc⟩,hx⟩,hz⟩:=hpre
 have hw':=DataW.Whole.of_heap (w':=w.forCall tape i) (by rfl) hw
 refine (contract (w.forCall tape i) w.heap.size i.args ds gs before hval hw' hc (hz.weights hw) (hX _ _ _ (by rfl) hx) hsh hholds).mono fun e W' ⟨v,he,hp⟩=>?_
 subst he
 exact ChangeSpec.post_blind hp
theorem facts_of {P:Program} {f:FuncId} {fn:Func} {s:ChangeSpec} {c:OpenClaim} (h1:c.wf (OpenSpec.ofChange s)=true) (h2:laidOutB P=true) (h3:mapsRowed P=true)
 (h4:fn.params.all (P.readableRec ·)=true) (h5:namedTie P c.named s.vars=true) (h6:(c.stops == [])=true) (h7:(P.stops == [])=true) (h8:(c.knobs == [])=true) (h9:(P.stopKnobs == [])=true)
 (h10:(c.inPlace == P.inPlace f)=true) (h11:(c.unfollowed == P.unfollowed f)=true) (h12:(c.recurses == P.recurses f)=true) (h13:(c.named == P.varsNamed f)=true)
 (h14:((c.maps == (fn.params.toList++s.plain.varTypes P).any (P.mapsRec ·)) && (c.ifaces == (fn.params.toList++s.plain.varTypes P).any (P.ifacesRec ·)) && (c.mapsOut == P.mapsAmong fn.resultTypes.toList))=true)
 (h17:(c.loops == (fn.params.toList++s.plain.varTypes P).any (P.loopsFrom ·))=true) (h18:(c.wideKeys == (fn.params.toList++s.plain.varTypes P++fn.resultTypes.toList).any (P.wideKeysFrom ·))=true)
 (h19:(s.vars.all (P.varReadable ·) && fn.resultTypes.all (fun t=>P.readableRec t && decide (t<P.types.size)) && (c.ifacesOut == fn.resultTypes.toList.any (P.ifacesRec ·)) && (c.loopsOut == fn.resultTypes.toList.any (P.loopsFrom ·)))=true)
 (h23:(c.plainKeys == P.plainKeys)=true) (h24:c.shortTexts.isNone=true) (h25:P.stopsHeard=true) (h26:P.mayEnter=true) (h27:(c.lifted == P.liftsFinal)=true) (h28:(P.make == some c.make)=true)
 (h29:(c.kinds == (if c.domain.isEmpty then [] else fn.params.toList.map fun t=>match P.underlying t with | some (.int k)=>some k | _=>none))=true) (h30:(c.pinned == c.pinnedBy)=true)
 (h31:(c.veiled == (fn.params.toList++s.plain.varTypes P++fn.resultTypes.toList).any (P.veiledRec ·))=true) (h32:c.veiledFits P fn.params.toList (fn.params.toList++s.plain.varTypes P++fn.resultTypes.toList)=true) :
 joinedFacts P f fn s c=true:=by
 simp only [Bool.and_eq_true] at h14 h19
 obtain ⟨⟨m1,m2⟩,m3⟩:=h14
 obtain ⟨⟨⟨n1,n2⟩,n3⟩,n4⟩:=h19
 unfold joinedFacts
 simp only [Bool.and_eq_true]
 exact ⟨⟨⟨⟨⟨⟨⟨⟨⟨⟨⟨⟨⟨⟨⟨⟨⟨⟨⟨⟨⟨⟨⟨⟨⟨⟨⟨⟨⟨⟨⟨h1,h2⟩,h3⟩,h4⟩,h5⟩,h6⟩,h7⟩,h8⟩,h9⟩,h10⟩,h11⟩,h12⟩,h13⟩,m1⟩,m2⟩,m3⟩,h17⟩,h18⟩,n1⟩,n2⟩,n3⟩,n4⟩,h23⟩,h24⟩,h25⟩,h26⟩,h27⟩,h28⟩,h29⟩,h30⟩,h31⟩,h32⟩
theorem pf_maps:mapsRowed Tryz.prog=true:=by kernel_rfl
theorem pf_stops:(Tryz.prog.stops == [])=true:=by kernel_rfl
theorem pf_knobs:(Tryz.prog.stopKnobs == [])=true:=by kernel_rfl
theorem pf_heard:Tryz.prog.stopsHeard=true:=by kernel_rfl
theorem pf_enter:Tryz.prog.mayEnter=true:=by kernel_rfl
theorem laidMet_over {P:Program} {w0:World} {laid:List (String × DataW Unit)} (args:Array Value)
 (hf:w0.layFits P laid []=true)
 (hi:w0.layIfaces P laid (w0.layVars P laid)=true) :
 laidMet P laid ((w0.layVars P laid).forCall (fun _ _=>0) ⟨#[],args,[]⟩).memory:=by
 have e1:(laid.filter fun x=>(laid.map (·.1)).contains x.1)=laid:=List.filter_eq_self.2 fun x hx=>List.contains_iff_mem.2 (List.mem_map.2 ⟨x,hx,rfl⟩)
 have e2:(laid.filter fun x=>!(laid.map (·.1)).contains x.1)=[]:=List.filter_eq_nil_iff.2 fun x hx=>by rw [List.contains_iff_mem.2 (List.mem_map.2 ⟨x,hx,rfl⟩)];simp
 have h:laidMet P laid (w0.layVars P laid):=laidMet_layVars (w0:=w0) (laid.map (·.1)) [] (by rw [e1]) (by rw [e1];exact hf) (by rw [e1];exact hi) (by rw [e2];exact LaidIn.none)
 exact h.of_heap (by simp [World.memory,World.forCall,Input.heap])
noncomputable def worldT (os:Os):World:=(World.doorLaid Tryz.prog 600 os).layVars Tryz.prog Rows.centreRadioRow.laid
theorem worldT_met (os:Os) (args:Array Value):laidMet Tryz.prog Rows.centreRadioRow.laid ((worldT os).forCall (fun _ _=>0) ⟨#[],args,[]⟩).memory:=
 laidMet_over args (by kernel_rfl) (by kernel_rfl)
theorem noHandles:(Rows.centreRadioRow.laid.filter fun x=>x.2.handleName?.isSome)=[]:=by rfl
theorem laidH_iff {W:World}:laidMetH Tryz.prog Rows.centreRadioRow.laid W↔laidMet Tryz.prog Rows.centreRadioRow.laid W:=by
 unfold laidMetH
 rw [noHandles]
end Go.Proofs.YtoodbfkbbchjiaaGreatDoor
