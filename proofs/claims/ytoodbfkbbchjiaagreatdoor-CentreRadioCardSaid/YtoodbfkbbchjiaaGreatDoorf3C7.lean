import Derived.Test.YtoodbfkbbchjiaaGreatDoorf3C1
import Derived.RangeFuncNested
import Derived.RangeFuncBound
import Derived.RangeFuncCalls
import Derived.RangeFuncLeaves
import Derived.Shelf.Abstract
import Derived.Shelf.RegionOpen
import Derived.WalkKit
import Derived.OwnWalkIn
import Derived.TacticsInMore
import Derived.LoopNIn
import Derived.LoopIn
import Derived.Deep.MidRow
import Derived.Maps.AppendAt
set_option maxRecDepth 100000
set_option maxHeartbeats 16000000
namespace Go.Proofs.YtoodbfkbbchjiaaGreatDoor
open Go.RowKit
def zi1 (x:EnV):ByteArray:=x.1++⟨#[32]⟩++x.2
def zg2 (x:EnV):ByteArray:=zi1 x++⟨#[32]⟩++ba (Lib.itoa (sumE (zi1 x):Nat))++⟨#[10]⟩
def jrnl (l:List EnV):List UInt8:=l.flatMap fun x=>(zg2 x).data.toList
theorem jrnl_snoc (l:List EnV) (x:EnV):jrnl (l++[x])=jrnl l++(zg2 x).data.toList:=by simp [jrnl]
def EnSmall (l:List EnV):Prop:=l.length≤1000∧∀ x∈l,x.1.size≤400∧x.2.size≤400
theorem sumE_lt (s:ByteArray):sumE s<9973:=sumGo_lt _ 0 0 (by decide)
theorem zh7 (s:ByteArray):(ba (Lib.itoa (sumE s:Nat))).size≤21:=by
 rw [zcw]
 have:=sumE_lt s
 exact Lib.itoa_length_le _ (by omega) (by omega)
theorem zjf {x:EnV} (h:x.1.size≤400∧x.2.size≤400):(zg2 x).size≤900:=by
 have h0:=zh7 (zi1 x)
 unfold zg2
 rw [ByteArray.size_append,ByteArray.size_append,ByteArray.size_append]
 have h1:(zi1 x).size≤801:=by
  unfold zi1
  rw [ByteArray.size_append,ByteArray.size_append]
  have:(⟨#[32]⟩:ByteArray).size=1:=rfl
  omega
 have h2:(⟨#[32]⟩:ByteArray).size=1:=rfl
 have h3:(⟨#[10]⟩:ByteArray).size=1:=rfl
 omega
theorem jrnl_len:∀ l:List EnV,(∀ x∈l,x.1.size≤400∧x.2.size≤400)→(jrnl l).length≤l.length * 900
 | [],_=>Nat.zero_le _
 | x :: l,h=>by
  have h1:=jrnl_len l (fun y hy=>h y (List.mem_cons_of_mem _ hy))
  have h2:=zjf (h x List.mem_cons_self)
  have e:jrnl (x :: l)=(zg2 x).data.toList++jrnl l:=rfl
  rw [e,List.length_append,List.length_cons,← Lib.size_eq]
  omega
def JrRel (w0:World) (b n:Nat) (l:List EnV) (u:Value) (wr:World):Prop:=∃ k:Nat,k≤n∧u=.int .i64 k∧Lib.IsBuilder 151 5 b b (Lib.byteCells (jrnl (l.take k))) wr∧Below b w0 wr
theorem journal_any (w:World) (x b:Nat) (V:BookV) (h:BkAt w x b V) (hS:EnSmall V.log) (ht:TxtAt w):Calls Tryz.prog 35 #[.pointer (some ⟨b,0,none⟩)] w (zfw w (ba (jrnl V.log))):=by
 have hb0:=hB1 w (.cells #[.pointer none,.slice none 0 0] 151)
 have k1:=hA1 w (.cells #[.pointer none,.slice none 0 0] 151)
 have hs0:=hS1 w (.cells #[.pointer none,.slice none 0 0] 151)
 have HB:=Lib.hid hb0
 have hBk:=h.keep hb0
 have hRD:=(za7 h.log.2).below hb0
 have HT:=Lib.hid (show ∀ W,Below w.heap.size w W→TxtAt W from fun W h=>ht.below h)
 clear hb0 ht h
 go_enter Tryz.func35,Tryz.ntmps35
 go_upto_region 2 with (fail)
 generalize w.alloc (.cells #[.pointer none,.slice none 0 0] 151)=w0 at *
 generalize hbw:w.heap.size=bw at *
 have HBW:=Lib.hid hbw
 clear hbw
 have hib:Lib.IsBuilder 151 5 bw bw (Lib.byteCells (jrnl (V.log.take 0))) w0:=.inl ⟨Nat.le_refl _,.slice none 0 0,k1,⟨rfl,.inl ⟨rfl,rfl⟩⟩,by simp [Value.ownBlock]⟩
 obtain ⟨A,n,c,hv⟩:∃ A n c,V.lg=⟨A,n,c⟩:=⟨_,_,_,rfl⟩
 have d25:=hBk.cell (i:=25) (u:=V.lg.v) rfl
 rw [hv] at d25
 simp only [SlV.v] at d25
 have hln:=hBk.log.1
 rw [hv] at hRD hln
 simp only at hRD hln
 have hn9:n≤1000:=by rw [← hln];exact hS.1
 have HLN:=Lib.hid hln
 have HRD:=Lib.hid hRD
 have HSM:=Lib.hid hS.2
 clear hRD hln hS hBk k1
 go_wp2
 go_loopw [12] (fun u12 wr=>JrRel w0 bw n V.log u12 wr) (fun u12 _=>n - (intOf u12).toNat)
 case atStart=>exact ⟨0,Nat.zero_le _,rfl,hib,Below.refl _ _⟩
 case round =>
  clear hib d25
  obtain ⟨k,hk,rfl,hib,hb⟩:=hrel
  have HB1:=Lib.hid hb
  have HIB:=Lib.hid hib
  have HB2:=Lib.hid (HB.out.trans hb)
  have hsr:=Nat.le_trans hs0 hb.size
  by_cases hlt:k<n
  · have hkl:k<V.log.length:=by rw [HLN.out];exact hlt
    obtain ⟨y,hy⟩:∃ y,V.log[k]?=some y:=⟨_,List.getElem?_eq_getElem hkl⟩
    obtain ⟨hy1,hy2⟩:=HSM.out y (List.mem_of_getElem? hy)
    obtain ⟨bb,off,rfl,hbb,z0,z1⟩:=Rd.en (HRD.out.below hb) hy
    have hl0:(jrnl (V.log.take k)).length≤900000:=by
     refine Nat.le_trans (jrnl_len _ fun x hx=>HSM.out x (List.mem_of_mem_take hx)) ?_
     rw [List.length_take]
     omega
    have HTK:Hid (Lib.byteCells (jrnl (V.log.take (k+1)))=Lib.byteCells (jrnl (V.log.take k))++Lib.strCells (zg2 y)):=by
     rw [Hid,zcz,List.take_add_one,hy,ze5,← jrnl_snoc]
     rfl
    have hl1:=zjf ⟨hy1,hy2⟩
    have WS:=fun (W:World) (h:Lib.IsBuilder 151 5 bw bw (Lib.byteCells (jrnl (V.log.take k))) W) (hw:bw≤W.heap.size)=>zfv bw bw _ (zg2 y) W h (by rw [Lib.byteCells_length];omega) hw
    have hrs:(zi1 y).size≤1000:=by
     unfold zi1
     rw [ByteArray.size_append,ByteArray.size_append]
     have:(⟨#[32]⟩:ByteArray).size=1:=rfl
     omega
    have hits:=zh7 (zi1 y)
    have hlt9:=sumE_lt (zi1 y)
    have hadd1:=fun W=>run_string_add_sum (P:=Tryz.prog) W y.1 ⟨#[32]⟩ (by show y.1.size+1≤_;omega)
    have hadd2:∀ W,(Op.stringOp .add (y.1++⟨#[32]⟩) y.2).run Tryz.prog W=.ok (.string (zi1 y)) W:=fun W=>run_string_add_sum (P:=Tryz.prog) W (y.1++⟨#[32]⟩) y.2 (by rw [ByteArray.size_append];show y.1.size+1+y.2.size≤_;omega)
    generalize hrc:zi1 y=rc at *
    have SM:=fun W=>SumOf_any rc (by omega) W
    generalize hsm:sumE rc=sm at *
    have hadd3:=fun W=>run_string_add_sum (P:=Tryz.prog) W rc ⟨#[32]⟩ (by show rc.size+1≤_;omega)
    have hadd4:=fun W=>run_string_add_sum (P:=Tryz.prog) W (rc++⟨#[32]⟩) (ba (Lib.itoa (sm:Nat))) (by rw [ByteArray.size_append];show rc.size+1+_≤_;omega)
    have hadd5:∀ W,(Op.stringOp .add (rc++⟨#[32]⟩++ba (Lib.itoa (sm:Nat))) ⟨#[10]⟩).run Tryz.prog W=.ok (.string (zg2 y)) W:=fun W=>by
     have:=run_string_add_sum (P:=Tryz.prog) W (rc++⟨#[32]⟩++ba (Lib.itoa (sm:Nat))) ⟨#[10]⟩ (by rw [ByteArray.size_append,ByteArray.size_append];show rc.size+1+_+1≤_;omega)
     rw [this,zg2,hrc,hsm]
    have IT:=fun W (hW:TxtAt W)=>zb8 (sm:Nat) (by omega) (by omega) W hW
    have hba:=hB1 wr (.cells #[.string y.1,.string y.2] 58)
    obtain ⟨e0,e1⟩:_∧_:=zaz (W:=wr.alloc (.cells #[.string y.1,.string y.2] 58)) (r:=wr.heap.size) (t:=58) (by rw [zae,if_pos rfl])
    have HBA:=Lib.hid hba
    clear hkl hy hl0 hib hb hrc hsm hba hits hl1
    go_upto_region 5 with (fail)
    clear z0 z1
    generalize wr.alloc (.cells #[.string y.1,.string y.2] 58)=wa at *
    go_upto_region 6 with (fail)
    clear hadd1 hadd2 e0 e1
    go_wp2_with (first | (go_at_call 65;refine (SM _).mono ?_;rintro e w1 ⟨rfl,hb1⟩) | (go_at_call 57;refine stp ?_))
    unfold Stp
    have hb1a:=HBA.out.trans (hb1.mono HBA.out.size)
    have IT1:=IT w1 (HT.out w1 (HB2.out.trans (hb1a.mono (by omega))))
    clear IT SM
    refine IT1.mono ?_
    rintro e w2 ⟨rfl,hb2⟩
    have hb12:=hb1a.trans (hb2.mono hb1a.size)
    have WS1:=WS w2 (zci HIB.out hb12) (by have:=hb12.size;omega)
    have HBC:=Lib.hid (HB1.out.trans (hb12.mono (by omega)))
    clear WS IT1 hb1 hb1a hb2 hb12
    go_wp2_with (go_at_call 55;refine WS1.mono ?_;rintro e w3 ⟨rfl,hba,hb3⟩)
    have HB3:=Lib.hid (HBC.out.trans hb3)
    have HBB:=Lib.hid hba
    clear hba hb3 WS1 hadd3 hadd4 hadd5
    go_wp2
    go_roundw
    case rel=>exact ⟨k+1,hlt,by go_num,.inr (by rw [HTK.out];exact HBB.out),HB3.out⟩
    case measure=>simp [intOf];omega
  · obtain rfl:k=n:=by omega
    have e:V.log.take k=V.log:=List.take_of_length_le (by rw [HLN.out];exact Nat.le_refl _)
    rw [e] at hib
    have SP:=Tryz.Builder_String_any bw bw (jrnl V.log) wr hib (by omega)
    clear hib hb e
    go_wp2_with (go_at_call 64;refine SP.mono ?_;rintro e w3 ⟨rfl,hb3⟩)
    go_ret
    exact ⟨rfl,by rw [HBW.out];exact HB2.out.trans (hb3.mono (by omega))⟩
theorem Journal_K (w:World) (n:Nat) (A:Option Addr) (c:Nat) (hH:HouseAt w w.heap.size (hK n)) (hr:Rd w w.heap.size A (zbe (logK.take 1))) (hT:CtAt w):Calls Tryz.prog 18 #[.agg (zah (hK n)).toArray,.slice A 1 c] w fun e w'=>e=.returned (.tuple #[.string ⟨#[97,110,110,32,100,97,121,32,51,32,51,52,49,57,10]⟩,.int .i64 0])∧Below w.heap.size w w':=by
 have hb0:=hB1 w (.cells (zah (hK n)).toArray 45)
 have k0:=hA1 w (.cells (zah (hK n)).toArray 45)
 have OP:=open_K _ n 1 (by decide) A c ((hH.keep hb0).mono hb0.size) ((hr.keep hb0).mono hb0.size) (hT.below hb0)
 have HB:=Lib.hid hb0
 have HTF:=Lib.hid (show ∀ W,Below w.heap.size w W→CtAt W from fun W h=>hT.below h)
 have hs0:=hS1 w (.cells (zah (hK n)).toArray 45)
 clear hb0 hH hr hT
 go_enter Tryz.func18,Tryz.ntmps18
 go_upto_region 1 with (fail)
 generalize w.alloc (.cells (zah (hK n)).toArray 45)=w0 at *
 generalize hbw:w.heap.size=bw at *
 have HBW:=Lib.hid hbw
 clear hbw
 go_wp2_with (with_reducible refine zaw 45 ?_)
 unfold Stp
 refine wpList_load_row rfl 45 _ rfl bw rfl 45 _ (0,0) _ k0 Tryz.underlying45 rfl (by kernel_rfl) ?_
 go_upto_region 2 with (go_at_call 31;refine OP.mono ?_;rintro e w1 ⟨x,b,V,rfl,hx,hx1,ST,hBk,hb1⟩)
 have hb1x:=HB.out.trans (hb1.mono (by omega))
 have hlg:V.log=[(⟨#[97,110,110]⟩,⟨#[100,97,121,32,51]⟩)]:=ST.log
 have JR:=journal_any w1 x b V hBk (by rw [hlg];unfold EnSmall;decide) (HTF.out w1 hb1x).txt
 have ej:ba (jrnl V.log)=⟨#[97,110,110,32,100,97,121,32,51,32,51,52,49,57,10]⟩:=by rw [hlg];decide +kernel
 rw [ej] at JR
 have HB1:=Lib.hid hb1x
 have hs1:=hb1.size
 clear OP hb1 k0 hb1x hlg ej
 go_wp2_with (go_at_call 35;refine JR.mono ?_;rintro e w2 ⟨rfl,hb2⟩)
 go_ret2
 exact ⟨rfl,by rw [HBW.out];exact HB1.out.trans (hb2.mono (by omega))⟩
open Go Go.Shelf
def SeqAll {α:Type} (F:Fence) (n:Nat) (P:Program) (gf:Nat) (fb:Array Value) (encs:α→Array Value) (xs:List α) (Kp:World→World→Prop) (w:World):Prop:=
 ∀ (l:Nat) (J:Nat→World→Prop) (W:World),Below w.heap.size w W→(∀ k X Y,J k X→X.grownBy Y none→J k Y) →
  (∀ k x X,xs[k]?=some x→J k X→YieldAt F (n - 1) P l (encs x) X fun e Y=>e=.returned (.bool true)∧J (k+1) Y∧Kp X Y) →
  J 0 W→CallsIn F n P gf (fb++#[.func (.yield l) #[] #[]]) W fun e Y=>(∃ v,e=.returned v)∧J xs.length Y
theorem zei {α:Type} {F:Fence} {n:Nat} {P:Program} {g:Operand} {ps:Array Tmp} {assign body:Code} {Q:Exit→Go.Act→World→Prop} {a:Go.Act} {w:World}
 (hro:F.round=none) (h1:1≤n) {gf:Nat} {fb:Array Value} (hg:a.eval g=.func (.func gf) fb #[]) (hFg:F.fn gf) (eg:∀ args w,(callFunc gf args).run P w=.ok (.enter gf args) w)
 {encs:α→Array Value} {xs:List α} {Kp:World→World→Prop} {w0:World} (hseq:SeqAll F (n - 1) P gf fb encs xs Kp w0) (hb0:Below w0.heap.size w0 w) (hps:∀ x,(encs x).size=ps.size)
 (hKt:∀ {A B C:World},Kp A B→Kp B C→Kp A C) (hKb:∀ (W:World) (l:Nat) (o o':Obj),w.heap.size≤l→W.heap[l]?=some o→o.isCells=false→Kp W (W.putObj l o'))
 (I:Nat→World→Prop) (hI:OwnFrom w.heap.size I) (h0:I 0 w)
 (hround:∀ (l k:Nat) (x:α) (W:World),w.heap.size≤l→xs[k]?=some x→I k W→assign.wpIn (F.inRound l) (n - 1 - 1) P (Exit.then (fun a1 W1=>KeepsFrom w.heap.size W W1∧Kp W W1 ∧
  ∀ (o o':Obj),W1.heap[l]?=some o→o.isCells=false→body.wpIn (F.inRound l) (n - 1 - 1) P (fun e _ W3=>e=.normal∧KeepsFrom w.heap.size (W1.putObj l o') W3∧Kp (W1.putObj l o') W3∧I (k+1) W3) a1 (W1.putObj l o')) (fun _ _ _=>False))
  { tmps:=(ps.zip (encs x)).foldl (fun t (p,v)=>t.setIfInBounds p v) a.tmps,defers:=[] } W)
 (hdone:∀ (D:Nat) (W:World),w.heap.size≤D→I xs.length W→W.heap[D]?=some (.deferred (some []))→Q .normal { a with defers:={ target:=.collected D,args:=#[] } :: a.defers } W) :
 (Code.rangeFunc g ps assign body).wpIn F n P Q a w:=by
 refine wpIn_rangeFunc fun fn hfn=>?_
 rw [hro]
 obtain ⟨rc,hrc⟩:∃ rc:LoopState→Option Code→Loop,rc=fun st pe=>⟨st,pe,fn,a.tmps,ps,assign,body,w.heap.size⟩:=⟨_,rfl⟩
 obtain ⟨X,hX⟩:∃ X,(w.alloc (.deferred (some []))).alloc (.loop (rc .ready none))=X:=⟨_,rfl⟩
 have xl:X.heap[w.heap.size+1]?=some (.loop (rc .ready none)):=by rw [← hX,zae,if_pos (by simp)]
 have xd:X.heap[w.heap.size]?=some (.deferred (some [])):=by rw [← hX,zae,if_neg (by simp),zae,if_pos rfl]
 have hbX:Below w0.heap.size w0 X:=by rw [← hX];exact (hb0.alloc hb0.size _).alloc (Nat.le_trans hb0.size (by simp)) _
 have hIX:I 0 X:=by rw [← hX];exact hI.alloc _ (hI.alloc _ h0)
 refine ⟨w.heap.size+1,[{ target:=.collected w.heap.size,args:=#[] }],X,{ target:=.fn (.func gf) #[],args:=fb++#[.func (.yield (w.heap.size+1)) #[] #[]] },X,gf,fb++#[.func (.yield (w.heap.size+1)) #[] #[]],X,?_,?_,?_,?_,fun _=>h1,?_⟩
 · rw [← hX,hrc]
   exact run_enterLoop_outer fn a.tmps ps assign body
 · simp only [resolve,hg]
   simp [go_sem,Deferred.ofValue]
 · intro f' hf'
   simp [Target.leads] at hf'
   subst hf'
   exact hFg
 · simp [invoke,go_sem,eg]
 have one:∀ (k:Nat) (A B:World),(I k A∧A.heap[w.heap.size+1]?=some (.loop (rc .ready none))∧A.heap[w.heap.size]?=some (.deferred (some [])))→A.grownBy B none→(I k B∧B.heap[w.heap.size+1]?=some (.loop (rc .ready none))∧B.heap[w.heap.size]?=some (.deferred (some []))):=by
  rintro k A B ⟨i1,i2,i3⟩ hAB
  have same:∀ {j:Nat} {o:Obj},A.heap[j]?=some o→B.heap[j]?=some o:=fun hj=>(hAB.block _ (Array.getElem?_eq_some_iff.1 hj).1 (fun e=>by cases e)).trans hj
  exact ⟨hI k A B none i1 hAB (fun r e=>by cases e),same i2,same i3⟩
 refine (hseq (w.heap.size+1) (fun k A=>I k A∧A.heap[w.heap.size+1]?=some (.loop (rc .ready none))∧A.heap[w.heap.size]?=some (.deferred (some []))) X hbX one ?_ ⟨hIX,xl,xd⟩).mono ?_
 · rintro k x A hx ⟨i1,i2,i3⟩
   have hy:=run_yield (P:=P) (args:=encs x) i2 (by rw [hrc];exact hps x)
   rw [hrc] at hy
   refine ⟨fn,_,assign,body,hy,roundIn_of_wpIn hfn (wpIn_mono (hround (w.heap.size+1) k x A (by omega) hx i1) ?_)⟩
   intro e a1 A1 he
   cases e with
   | normal =>
    obtain ⟨p1,p2,p3⟩:=he
    have j2:=p1.same _ _ (by omega) i2 rfl
    have j3:=p1.same _ _ (Nat.le_refl _) i3 rfl
    refine ⟨_,run_beginRound j2 (by rw [hrc]),wpIn_mono (p3 _ _ j2 rfl) ?_⟩
    rintro e2 a2 A2 ⟨rfl,q1,q2,q3⟩
    have lt2:=(Array.getElem?_eq_some_iff.1 j2).1
    have m2:=q1.same _ _ (by omega) (World.putObj_heap_same lt2) rfl
    have m3:=q1.same _ _ (Nat.le_refl _) ((World.putObj_heap_other (by omega)).trans j3) rfl
    have hr:=run_endRound (P:=P) none m2
    refine ⟨_,_,hr,rfl,⟨hI.putObj _ q3 (by omega) m2 rfl,?_,(World.putObj_heap_other (by omega)).trans m3⟩,hKt p2 (hKt (hKb _ _ _ _ (by omega) j2 rfl) (hKt q2 (hKb _ _ _ _ (by omega) m2 rfl)))⟩
    rw [World.putObj_heap_same (Array.getElem?_eq_some_iff.1 m2).1,hrc]
    rfl
   | _=>exact he.elim
 · rintro e A ⟨⟨v,rfl⟩,i1,i2,i3⟩
   refine ⟨none,_,by have:=run_endLoop (P:=P) i2 (by rw [hrc];simp);rw [hrc] at this;exact this,hdone _ _ (Nat.le_refl _) (hI.putObj _ i1 (by omega) i2 rfl) ((World.putObj_heap_other (by omega)).trans i3)⟩
def zex (o:Oper):Bool:=match o.op with
 | .defer _=>false
 | _=>true
theorem rows_round {P:Program} {row:String} {args:Array Value} {w:World} {R:Value→World→Prop} (r n:Nat) (h:Rows P row args w R):RowsIn (Fence.wide.inRound r) n P row args w R:=fun c cs _=>by
 obtain ⟨v,w',h1,h2⟩:=h c cs
 exact ⟨v,w',h1,stepsIn_wide.2 h2⟩
theorem zkn {P:Program} {o:Oper} {a:Go.Act} {w:World} {K:Go.Act→World→Prop} {Q:Exit→Go.Act→World→Prop} (r n:Nat) (hd:zex o=true) (h:o.wp P a w K Q):o.wpIn (Fence.wide.inRound r) n P a w K Q:=by
 refine ⟨fun _ _=>trivial,?_⟩
 rw [Oper.semAt_eq _ _ _ (fun c hc=>by simp [zex,hc] at hd)]
 unfold Oper.wp at h
 generalize (execOp a.eval o).run P w=q at h ⊢
 cases q with
 | ok x w' =>
  cases x with
  | enter f args=>exact ⟨(fun hh=>by cases hh),CallsIn.inRound r (callsIn_wide.2 h)⟩
  | row s args=>exact ⟨(fun hh=>by cases hh),rows_round r _ h⟩
  | value v=>exact h
  | skip=>exact h
  | defer d=>exact h
  | _=>exact absurd h (by simp [Oper.upon])
 | halt x w' =>
  cases x with
  | panic v=>exact h
  | _=>exact absurd h (by simp [Oper.upon])
section
variable {P:Program} {ops:Array Oper} {md:Region.Mode} {S C:World→Prop} {ts:List Nat} {Q:Exit→Go.Act→World→Prop}
theorem op_round (r n:Nat) (hd:ops.all zex=true) {i:Nat} {K K':Go.Act→World→Prop} {a:Go.Act} {w:World} (hK:∀ a w,K a w→K' a w) (h:wpOp P ops (zav Q) i K a w):wpOpIn (Fence.wide.inRound r) n P ops (zav Q) i K' a w:=by
 unfold wpOp at h
 unfold wpOpIn
 cases ho:ops[i]? with
 | none =>
  rw [ho] at h
  exact hK _ _ h
 | some o =>
  rw [ho] at h
  have hdo:zex o=true:=by
   obtain ⟨hi,e⟩:=Array.getElem?_eq_some_iff.1 ho
   rw [← e]
   exact (Array.all_eq_true.1 hd) i hi
  simp only at h ⊢
  split at h
  · rename_i hw
    rw [if_pos hw]
    rcases h with h | ⟨_,⟨_,_,h⟩⟩
    · exact zkn r n hdo (Oper.wp_mono hK h)
    · exact h.elim
  · rename_i hw
    rw [if_neg hw]
    exact ⟨fun _ _=>trivial,hK _ _ h⟩
theorem any_round (r n:Nat) (hd:ops.all zex=true):∀ (fuel:Nat) (listed:Array Bool) (a:Go.Act) (w:World),wpAny P md ops (zav Q) fuel listed a w→wpAnyIn (Fence.wide.inRound r) n P md ops (zav Q) fuel listed a w
 | 0,_,_,_,h=>h
 | fuel+1,_,_,_,h=>⟨h.1,fun i hi=>op_round r n hd (fun a' w' h'=>any_round r n hd fuel _ a' w' h') (h.2 i hi)⟩
theorem region_round {id:Nat} {a:Go.Act} {w:World} {l:List Oper} (r n:Nat) (hm:P.follows .mixedOrders=true) (hd:l.toArray.all zex=true)
 (h:wpAny P .any l.toArray (zav Q) l.toArray.size (Array.replicate l.toArray.size false) a { w with drawn:=w.drawn+1 }):(Code.region id l.toArray true).wpIn (Fence.wide.inRound r) n P Q a w:=by
 refine wpIn_mono (wpIn_region_any hm (any_round r n hd _ _ _ _ h)) ?_
 intro e a' w' he
 cases e with
 | normal=>exact he
 | _=>exact he.elim
theorem zhf {id:Nat} {a:Go.Act} {w:World} {l:List Oper} (ts:List Nat) (S:World→Prop) {r n:Nat} (hm:P.follows .mixedOrders=true) (hd:l.toArray.all zex=true) (hS:S { w with drawn:=w.drawn+1 })
 (h:wpE P .any l.toArray Q S ts l.toArray.size (Array.replicate l.toArray.size false) a { w with drawn:=w.drawn+1 }):(Code.region id l.toArray true).wpIn (Fence.wide.inRound r) n P Q a w:=
 region_round r n hm hd (zhh _ _ _ _ (h (zdk _ rfl) hS))
end
theorem zhm {P:Program} {ops:Array Oper} {Q:Exit→Go.Act→World→Prop} (r n:Nat):∀ (l:List Oper) (a:Go.Act) (w:World),l.all zex=true→wpList P ops (zav Q) l a w→wpListIn (Fence.wide.inRound r) n P ops (zav Q) l a w
 | [],_,_,_,h=>h
 | o :: rest,a,w,hd,h=>by
  rw [List.all_cons,Bool.and_eq_true] at hd
  unfold wpList at h
  unfold wpListIn
  split at h
  · rename_i hw
    rw [if_pos hw]
    rcases h with h | ⟨_,⟨_,_,h⟩⟩
    · exact zkn r n hd.1 (Oper.wp_mono (fun a' w' h'=>zhm r n rest a' w' hd.2 h') h)
    · exact h.elim
  · rename_i hw
    rw [if_neg hw]
    exact ⟨fun _ _=>trivial,zhm r n rest _ _ hd.2 h⟩
theorem zcl {P:Program} {id:Nat} {a:Go.Act} {w:World} {l:List Oper} {Q:Exit→Go.Act→World→Prop} {r n:Nat} (hd:l.all zex=true) (h:wpList P l.toArray (zav Q) l a w):(Code.region id l.toArray false).wpIn (Fence.wide.inRound r) n P Q a w:=by
 refine wpIn_mono (wpIn_region_lit (zhm r n l a w hd h)) ?_
 intro e a' w' he
 cases e with
 | normal=>exact he
 | _=>exact he.elim
theorem zk6 {P:Program} {c:Code} {Q:Exit→Go.Act→World→Prop} {a:Go.Act} {w:World} (h:c.wpIn Fence.wide 3 P Q a w):c.wp P Q a w:=wpIn_wide.1 h
attribute [local go_sem] Oper.semAt_some
def trNum:Nat→List ByteArray→List (Nat × ByteArray)
 | _,[]=>[]
 | i,x :: l=>(i,x) :: trNum (i+1) l
theorem trNum_len:∀ (l:List ByteArray) (i:Nat),(trNum i l).length=l.length
 | [],_=>rfl
 | _ :: l,i=>congrArg (·+1) (trNum_len l (i+1))
theorem trNum_get:∀ (l:List ByteArray) (i k:Nat),(trNum i l)[k]?=l[k]?.map fun x=>(i+k,x)
 | [],_,_=>rfl
 | _ :: _,i,0=>rfl
 | _ :: l,i,k+1=>by
  rw [trNum,zX3,trNum_get l (i+1) k,zX3,show i+1+k=i+(k+1) by omega]
def trEnc (s:Nat × ByteArray):Array Value:=#[.int .i64 (s.1:Nat),.string s.2]
def TnRel (B n:Nat) (J:Nat→World→Prop) (w:World) (u:Value) (wr:World):Prop:=∃ k:Nat,k≤n∧u=.int .i64 k∧J k wr∧Below B w wr
theorem trains_gives (m:Nat) (hm:1≤m) (w:World) (B b:Nat) (A:Option Addr) (n c:Nat) (xs:List ByteArray) (hB:B≤w.heap.size) (hb:b<B) (c0:w.cell? ⟨b,1,none⟩=some (.slice A n c)) (hr:Rd w B A (strCells xs)) (hl:xs.length=n) (hn:n≤1000) :
 SeqAll Fence.wide m Tryz.prog 60 #[.pointer (some ⟨b,0,none⟩)] trEnc (trNum 0 xs) (Below B) w:=by
 intro l J W hW hJ hY hJ0
 have hWB:=hW.mono hB
 have d0:=keptB hWB hb c0
 have HRD:=Lib.hid (hr.below hWB)
 have HLL:=Lib.hid hl
 have hro:Fence.wide.round=none:=rfl
 clear hr c0 hl hB
 refine callsIn_of_wp Tryz.func60 rfl trivial ?_ hro
 simp only [Tryz.ntmps60,List.size_toArray,List.length_cons,List.length_nil,Nat.reduceAdd,Nat.reduceSub,Array.replicate_succ,Array.replicate_zero,List.push_toArray,List.append_toArray,List.nil_append,List.cons_append]
 gi_wp2
 gi_loopw [13] (fun u13 wr=>TnRel B n J W u13 wr) (fun u13 _=>n - (intOf u13).toNat)
 case atStart=>exact ⟨0,Nat.zero_le _,rfl,hJ0,Below.refl _ _⟩
 case round =>
  clear hJ0 d0
  obtain ⟨k,hk,rfl,hJk,hbr⟩:=hrel
  have HBR:=Lib.hid hbr
  by_cases hlt:k<n
  · have hkl:k<xs.length:=by rw [HLL.out];exact hlt
    obtain ⟨x,hx⟩:∃ x,xs[k]?=some x:=⟨_,List.getElem?_eq_getElem hkl⟩
    obtain ⟨bb,off,rfl,hbb,z0⟩:=(HRD.out.below hbr).at_ (k:=k) (u:=.string x) (by simp only [strCells,List.getElem?_map,hx,Option.map_some])
    have hnx:(trNum 0 xs)[k]?=some (k,x):=by rw [trNum_get,hx,Option.map_some,Nat.zero_add]
    obtain ⟨fn,tmps,assign,body,hy,hR⟩:=hY k (k,x) wr hnx hJk
    simp only [trEnc] at hy
    clear hkl hx hnx hbr hJk hY
    gi_wp2
    refine hR.mono ?_
    rintro e W3 ⟨rfl,hJ3,hk3⟩
    have HJ3:=Lib.hid hJ3
    have HB3:=Lib.hid (HBR.out.trans hk3)
    clear hR hJ3 hk3 hy
    gi_wp2
    go_roundw
    case rel =>
     have HREL:Hid (TnRel B n J W (.int .i64 ((k:Int)+1)) W3):=⟨k+1,by omega,by simp,HJ3.out,HB3.out⟩
     first
      | exact HREL.out
      | (repeat apply Exists.intro
         exact ⟨HREL.out,rfl⟩)
    case measure=>simp [intOf];omega
  · obtain rfl:k=n:=by omega
    have HJ:=Lib.hid hJk
    clear hJk hY
    gi_wp2
    go_end0
    exact ⟨⟨_,rfl⟩,by rw [trNum_len,HLL.out];exact HJ.out⟩
end Go.Proofs.YtoodbfkbbchjiaaGreatDoor
namespace Go.Proofs.YtoodbfkbbchjiaaGreatDoor
open Go.RowKit
def FrB (b:Nat) (W W':World):Prop:=∀ (k:Nat) (o:Obj),W.heap[k]?=some o→k≠b→(∀ cs,o≠.cells cs 5 (0,0))→W'.heap[k]?=some o
theorem FrB.refl (b:Nat) (W:World):FrB b W W:=fun _ _ h _ _=>h
theorem FrB.trans {b:Nat} {X Y Z:World} (h:FrB b X Y) (k:FrB b Y Z):FrB b X Z:=fun i o h1 h2 h3=>k i o (h i o h1 h2 h3) h2 h3
theorem FrB.below {b:Nat} {W W':World} (h:Below W.heap.size W W'):FrB b W W':=fun _ _ h1 _ _=>zes h h1
theorem FrB.set (W:World) (b i:Nat) (v:Value):FrB b W (W.setCell ⟨b,i,none⟩ v):=fun k o h1 h2 _=>by
 rw [heap_setCell_other W ⟨b,i,none⟩ k v h2]
 exact h1
theorem FrB.grown {b B n:Nat} {W W':World} {v:Value} {bs:List Value} (hg:W.grownBy W' v.ownBlock) (ho:W.ownsRow B 5 1 v n bs):FrB b W W':=fun k o h1 _ h3 =>
 (hg.block k (Array.getElem?_eq_some_iff.1 h1).1 (fun e=>by
  obtain ⟨_,_,cur,hc⟩:=zbi ho e.symm
  rw [h1] at hc
  exact h3 cur (Option.some.inj hc))).trans h1
theorem copyCheck_fr (B b:Nat) (bs:List Value) (w:World) (h:Lib.IsBuilder 151 5 B b bs w) :
 Calls Tryz.prog 95 #[.pointer (some ⟨b,0,none⟩)] w fun e w'=>e=.returned (.tuple #[])∧(Lib.BuilderAt 151 5 B b (.pointer (some ⟨b,0,none⟩)) bs w'∧Below B w w'∧FrB b w w'):=by
 obtain ⟨j,hj,hjs⟩:=Option.map_eq_some_iff.1 bdSize
 rcases h with h | h
 · have c0:=h.cell0
   have f0:=h.frozen0
   have hsh:=h.shape
   have HH:=Lib.hid h
   clear h
   go_enter Tryz.func95,Tryz.ntmps95
   go_wp2
   rw [Lib.run_to_unsafe w ⟨b,0,none⟩ Tryz.underlying148 Tryz.underlying263 hj (by rw [hjs];decide) hsh (Nat.zero_lt_succ 1)]
   simp only [Result.andThen]
   rw [Oper.upon_value]
   go_wp2
   rw [run_callFunc_extern Tryz.func170 (by kernel_rfl) (by kernel_rfl) (by kernel_rfl) (e:=Extern.AbiNoEscape.same) (by kernel_rfl)]
   rw [Lib.run_noEscape]
   simp only [Result.andThen]
   rw [Oper.upon_value]
   go_wp2
   rw [Lib.run_from_unsafe w ⟨b,0,none⟩ Tryz.underlying263 Tryz.underlying148 hj hsh (by kernel_rfl)]
   simp only [Result.andThen]
   rw [Oper.upon_value]
   go_wp2
   go_end0
   exact ⟨rfl,HH.out.used _,(Below.refl B w).setCell (p:=⟨b,0,none⟩) HH.out.1 _,FrB.set w b 0 _⟩
 · have c0:=h.cell0
   have HH:=Lib.hid h
   clear h
   go_enter Tryz.func95,Tryz.ntmps95
   go_wp2
   rw [Lib.run_neq_ptr_same w _ Tryz.underlying148 hj]
   go_wp2
   go_end0
   exact ⟨rfl,HH.out,Below.refl B _,FrB.refl b _⟩
theorem zka (B b:Nat) (bs:List Value) (s:ByteArray) (w:World) (h:Lib.IsBuilder 151 5 B b bs w) (hlen:bs.length+s.size≤1000000) (hBw:B≤w.heap.size) :
 Calls Tryz.prog 55 #[.pointer (some ⟨b,0,none⟩),.string s] w fun e w'=>e=.returned (.tuple #[.int .i64 s.size,.nilIface])∧(Lib.BuilderAt 151 5 B b (.pointer (some ⟨b,0,none⟩)) (bs++Lib.strCells s) w'∧Below B w w'∧FrB b w w'):=by
 obtain ⟨i0,hi,hz0,hz1,hz2⟩:=info_parts info5s
 have CC:=copyCheck_fr B b bs w h
 clear h
 go_enter Tryz.func55,Tryz.ntmps55
 go_wp2_with (go_at_call 95;refine CC.mono ?_;rintro e w1 ⟨rfl,⟨hB,v,hbk,hown,hne⟩,hb1,hf1⟩;refine stp ?_)
 unfold Stp
 have c1:=(cell_of_row w1 b 1 _ _ _ hbk).trans (by rfl:_=some v)
 have hs1:=hb1.size
 go_wp2_with (at_builtin;refine stp ?_)
 unfold Stp
 refine Lib.wpList_append_own_string _ rfl _ _ 149 9 rfl B 5 i0 Tryz.underlying149 Tryz.underlying9 hi hz0 hz1 hz2 _ _ _ rfl hown s rfl (by unfold maxLen;omega) (by omega) (by omega) ?_
 intro v' w2 hown' hgrow _
 have hb2:=(hgrow.block b (lt_of_block hbk) (fun e=>hne e.symm)).trans hbk
 have hb3:=hb1.grown hgrow (by omega) (fun k hk=>(zbi hown hk).1)
 obtain ⟨ao,cap,rfl⟩:=zcn hown'
 have d1:=(cell_of_row w2 b 1 _ _ _ hb2).trans (by rfl:_=some v)
 have f1:=frozen_of_row w2 b 1 _ _ hb2
 have HO:=Lib.hid hown'
 have HB:=Lib.hid hb3
 have HF:=Lib.hid ((hf1.trans (FrB.grown hgrow hown)).trans (FrB.set w2 b 1 (.slice ao (bs.length+s.size) cap)))
 clear hown hown' hgrow hb1 hf1 c1 hbk hb3 CC
 go_wp2
 go_ret2
 exact ⟨rfl,Lib.BuilderAt.put (T:=151) (e:=5) hB hb2 (bs':=bs++Lib.strCells s) (by have h9:=HO.out;simpa [Lib.strCells_length] using h9) (by decide),HB.out.setCell (p:=⟨b,1,none⟩) hB _,HF.out⟩
theorem line_any (w:World) (A:Option Addr) (c:Nat) (xs:List ByteArray) (B X p:Nat) (bs:List UInt8) (hr:Rd w B A (strCells xs)) (hB:B≤w.heap.size) (hc:xs.length≤c) (hN:xs.length≤1000) (hib:Lib.IsBuilder 151 5 X p (Lib.byteCells bs) w) (hX:X≤w.heap.size)
 (hlen:bs.length+(Lib.join (xs.map (·.data.toList)) [32]).length+1≤1000000):Calls Tryz.prog 54 #[.slice A xs.length c,.pointer (some ⟨p,0,none⟩)] w fun e w'=>e=.returned (.tuple #[])∧Lib.IsBuilder 151 5 X p (Lib.byteCells (bs++(Lib.join (xs.map (·.data.toList)) [32]++[10]))) w'∧Below X w w'∧FrB p w w':=by
 have JN:=zf6 xs ⟨#[32]⟩ A c B w hc hB hr (by omega) (by show (Lib.join _ [32]).length≤_;omega)
 have eq1:(⟨#[32]⟩:ByteArray).data.toList=[32]:=rfl
 rw [eq1] at JN
 generalize hj:Lib.join (xs.map (·.data.toList)) [32]=js at *
 have hbj:(ba js).size=js.length:=zcw _
 have hadd:=fun W=>run_string_add_sum (P:=Tryz.prog) W (ba js) ⟨#[10]⟩ (by show (ba js).size+1≤_;omega)
 have e10:Lib.strCells (ba js++⟨#[10]⟩)=Lib.byteCells (js++[10]):=by
  rw [zcz,ByteArray.data_append,Array.toList_append]
  rfl
 have hs10:(ba js++⟨#[10]⟩).size=js.length+1:=by rw [ByteArray.size_append,hbj];rfl
 have WS:=fun (W:World) (h:Lib.IsBuilder 151 5 X p (Lib.byteCells bs) W) (hw:X≤W.heap.size)=>zka X p _ (ba js++⟨#[10]⟩) W h (by rw [Lib.byteCells_length,hs10];omega) hw
 rw [e10,ze5] at WS
 have HIB:=Lib.hid hib
 clear hr hj eq1 e10 hib
 generalize hxl:xs.length=n at *
 go_enter Tryz.func54,Tryz.ntmps54
 go_wp2_with (go_at_call 56;refine JN.mono ?_;rintro e w1 ⟨rfl,hb1⟩;refine stp ?_)
 unfold Stp
 have WS1:=WS w1 (zci HIB.out hb1) (Nat.le_trans hX hb1.size)
 clear WS JN
 go_wp2_with (go_at_call 55;refine WS1.mono ?_;rintro e w2 ⟨rfl,hba,hb2,hf2⟩)
 go_end0
 exact ⟨rfl,.inr hba,(hb1.mono hX).trans hb2,(FrB.below hb1).trans hf2⟩
theorem zero170 (w:World):(zeroValue 170).run Tryz.prog w=.ok (.agg #[.int .i64 0,.int .i64 0]) w:=by kernel_rfl
theorem zero138 (w:World):(zeroValue 138).run Tryz.prog w=.ok (.agg #[.chan none,.chan none]) w:=by kernel_rfl
theorem masts_K (w:World) (x b:Nat) (V:BookV) (h:BkAt w x b V) (hS:HouseS V.h) (s:ByteArray) (i:Int) (hi:zh9 V.h.plant.trains s=i) (h0:0≤i) (hse:Instr.findNow (.int .i64) (.int .i64 i) V.se.es.toList 0=some none):Calls Tryz.prog 24 #[.pointer (some ⟨b,0,none⟩),.string s] w fun e w'=>e=.returned (.tuple #[.slice none 0 0,.int .i64 12])∧Below w.heap.size w w':=by
 have TR:=zc3 w x b V h hS s
 rw [hi] at TR
 have d34:=h.cell (i:=34) (u:=.map (some V.se.m)) rfl
 have hlk:=zin (t:=108) (e:=138) Tryz.underlying108 h.r.se i (zero138 w) hse
 clear hi h hS hse
 go_enter Tryz.func24,Tryz.ntmps24
 go_upto_region 2 with (go_at_call 46;refine TR.mono ?_;rintro e w' ⟨rfl,rfl⟩)
 go_wp2_with (with_reducible refine zas 138 ?_)
 have hba:=hB1 w (.cells #[.chan none,.chan none] 138)
 have k3:=hA1 w (.cells #[.chan none,.chan none] 138)
 unfold Stp
 refine wpList_store_row rfl 138 _ _ rfl w.heap.size #[.chan none,.chan none] rfl rfl 138 _ k3 (by kernel_rfl) rfl (by kernel_rfl) ?_
 have hb4:Below w.heap.size w ((w.alloc (.cells #[.chan none,.chan none] 138)).setRow w.heap.size #[.chan none,.chan none]):=below_setRow hba (Nat.le_refl _) _
 clear k3 hba TR hlk d34
 go_upto_region 3 with (fail)
 generalize (w.alloc (.cells #[.chan none,.chan none] 138)).setRow w.heap.size #[.chan none,.chan none]=w1 at *
 have U0:=fun W=>zbk true 6 0 rfl W
 have U1:=fun W=>zbk false 12 12 rfl W
 generalize hbw:w.heap.size=bw at *
 have HBW:=Lib.hid hbw
 clear hbw
 have hb5:=hb4.size
 rw [HBW.out] at hb5
 have HB5:=Lib.hid hb5
 clear hb5
 go_wp2_with (first | (go_at_call 48;refine (U0 _).mono ?_;rintro e w' ⟨rfl,rfl⟩) | (go_at_call 48;refine (U1 _).mono ?_;rintro e w' ⟨rfl,rfl⟩) | (go_at_call 47;refine (zde _ 0 12).mono ?_;rintro e w' ⟨rfl,rfl⟩))
 go_ret2
 exact ⟨rfl,by rw [HBW.out];exact hb4.alloc HB5.out _⟩
end Go.Proofs.YtoodbfkbbchjiaaGreatDoor
