import Derived.Test.YtfdmeojcopkaoaaGreatDoorf3C7
import Derived.BigFrameIn
import Derived.BigGuardIn
import Derived.BigGuardPartIn
import Derived.BigRegionIn
set_option maxRecDepth 100000
set_option maxHeartbeats 16000000
namespace Go.Proofs.YtfdmeojcopkaoaaGreatDoor
open Go Go.RowKit Go.Shelf
def fnV (bw:Nat):Value:=.func (.func 100) #[] #[.pointer (some ⟨bw+1,0,none⟩)]
structure RpSt (w:World) (b bw:Nat) (Ds:List Nat) (bs:List UInt8) (W:World):Prop where
 below:Below bw w W
 box:W.heap[bw]?=some (.cells #[.pointer (some ⟨b,0,none⟩)] 118 (0,0))
 bld:Lib.IsBuilder 174 5 (bw+1) (bw+1) (Lib.byteCells bs) W
 fn:W.heap[bw+1+1]?=some (.cells #[fnV bw] 180 (0,0))
 ds:∀ D∈Ds,W.heap[D]?=some (.deferred (some []))
theorem RpSt.size {w:World} {b bw:Nat} {Ds:List Nat} {bs:List UInt8} {W:World} (h:RpSt w b bw Ds bs W):bw+3≤W.heap.size:=lt_of_block h.fn
theorem RpSt.keep {w:World} {b bw:Nat} {Ds:List Nat} {bs:List UInt8} {W W':World} (h:RpSt w b bw Ds bs W) (hb:Below W.heap.size W W'):RpSt w b bw Ds bs W':=
 ⟨h.below.trans (hb.mono (by have:=h.size;omega)),zcd hb h.box,zcj h.bld hb,zcd hb h.fn,fun D hD=>zcd hb (h.ds D hD)⟩
theorem RpSt.line {w:World} {b bw:Nat} {Ds:List Nat} {bs bs':List UInt8} {W W':World} (h:RpSt w b bw Ds bs W) (hb:Below (bw+1) W W') (hf:FrB (bw+1) W W') (hi:Lib.IsBuilder 174 5 (bw+1) (bw+1) (Lib.byteCells bs') W'):RpSt w b bw Ds bs' W':=
 ⟨h.below.trans (hb.mono (by omega)),hf _ _ h.box (by omega) (fun cs e=>by simp at e),hi,hf _ _ h.fn (by omega) (fun cs e=>by simp at e),fun D hD=>hf _ _ (h.ds D hD) (fun e=>by
  have h1:=h.ds D hD
  rcases h.bld with ⟨_,v,h2,_⟩ | ⟨_,v,h2,_⟩ <;> (rw [e,h2] at h1;cases h1)) (fun cs e=>by simp at e)⟩
theorem RpSt.grown {w:World} {b bw:Nat} {Ds:List Nat} {bs:List UInt8} {W W':World} {row:Option Nat} (h:RpSt w b bw Ds bs W) (hg:W.grownBy W' row) (hr:∀ r,row=some r→bw≤r∧(∀ D∈Ds,D<r)∧∃ o:Obj,W.heap[r]?=some o∧o.isCells=false):RpSt w b bw Ds bs W':=by
 have kc:∀ (k:Nat) (cur:Array Value) (t:TypeId),W.heap[k]?=some (.cells cur t (0,0))→W'.heap[k]?=some (.cells cur t (0,0)):=fun k cur t hb=>(hg.block k (Array.getElem?_eq_some_iff.1 hb).1 (fun e=>by
  obtain ⟨_,_,o,ho,hc⟩:=hr k e.symm
  rw [hb] at ho
  cases ho
  simp [Obj.isCells] at hc)).trans hb
 refine ⟨h.below.grown hg (by have:=h.size;omega) (fun k e=>(hr k e).1),kc _ _ _ h.box,?_,kc _ _ _ h.fn,fun D hD=>(hg.block D (lt_of_block (h.ds D hD)) (fun e=>by have:=(hr D e.symm).2.1 D hD;omega)).trans (h.ds D hD)⟩
 rcases h.bld with ⟨h1,v,h2,h3,h4⟩ | ⟨h1,v,h2,h3,h4⟩
 · exact .inl ⟨h1,v,kc _ _ _ h2,zbj h3 (fun k cur hk=>(kc _ _ _ hk).trans hk.symm),h4⟩
 · exact .inr ⟨h1,v,kc _ _ _ h2,zbj h3 (fun k cur hk=>(kc _ _ _ hk).trans hk.symm),h4⟩
theorem RpSt.call {w:World} {b bw:Nat} {Ds:List Nat} {bs:List UInt8} {W W9:World} (h:RpSt w b bw Ds bs W) (hb:Below W.heap.size W W9) (xs:List ByteArray) {g:Nat} (n:Nat) (hr:Rd W9 W9.heap.size (some ⟨g,0,none⟩) (strCells xs)) (hn:xs.length=n) (h9:n≤1000) (bs':List UInt8)
 (e:bs++(Lib.join (xs.map (·.data.toList)) [32]++[10])=bs') (hs:bs'.length≤1000000):Calls Tryz.prog 100 #[.slice (some ⟨g,0,none⟩) n n,.pointer (some ⟨bw+1,0,none⟩)] W9 fun e w'=>e=.returned (.tuple #[])∧RpSt w b bw Ds bs' w'∧Below (bw+1) W9 w'∧FrB (bw+1) W9 w':=by
 have h1:=h.keep hb
 have hl:bs.length+(Lib.join (xs.map (·.data.toList)) [32]).length+1≤1000000:=by
  have:=congrArg List.length e
  rw [List.length_append,List.length_append] at this
  simp only [List.length_singleton] at this
  omega
 have LN:=line_any W9 (some ⟨g,0,none⟩) n xs W9.heap.size (bw+1) (bw+1) bs hr (Nat.le_refl _) (by omega) (by omega) h1.bld (by have:=h1.size;omega) hl
 rw [hn,e] at LN
 exact LN.mono fun _ _ ⟨he,hi,hb',hf⟩=>⟨he,h1.line hb' hf hi,hb',hf⟩
theorem keepsFrom_fr {b B:Nat} {W W':World} (hf:FrB b W W') (hs:W.heap.size≤W'.heap.size) (hB:b<B):KeepsFrom B W W':=⟨hs,fun k o hk ho hc=>hf k o ho (by omega) (fun cs e=>by subst e;simp [Obj.isCells] at hc)⟩
theorem zc5 {B:Nat} {W W':World} (h:Below W.heap.size W W'):KeepsFrom B W W':=⟨h.size,fun k o _ ho _=>zcd h ho⟩
theorem RpSt.mark {w:World} {b bw D:Nat} {Ds:List Nat} {bs:List UInt8} {W:World} (h:RpSt w b bw Ds bs W) (hK:W.heap[D]?=some (.deferred (some []))):RpSt w b bw (D :: Ds) bs W:=⟨h.below,h.box,h.bld,h.fn,fun E hE=>by
 rcases List.mem_cons.1 hE with rfl | hE
 · exact hK
 · exact h.ds E hE⟩
def tx1:List UInt8:=[100,97,121,32,51,10]
def tx2:List UInt8:=[100,97,121,32,51,10,108,111,99,107,32,48,32,48,32,49,58,48,32,45,10]
def tx3:List UInt8:=[100,97,121,32,51,10,108,111,99,107,32,48,32,48,32,49,58,48,32,45,10,112,108,97,99,101,32,116,32,49,49,48,48,32,49,49,57,57,32,51,10]
def tx4:List UInt8:=[100,97,121,32,51,10,108,111,99,107,32,48,32,48,32,49,58,48,32,45,10,112,108,97,99,101,32,116,32,49,49,48,48,32,49,49,57,57,32,51,10,119,111,114,107,115,32,98,10]
theorem itoa_K:ba (Lib.itoa 3)=⟨#[51]⟩∧ba (Lib.itoa 1100)=⟨#[49,49,48,48]⟩∧ba (Lib.itoa 1199)=⟨#[49,49,57,57]⟩:=by decide +kernel
theorem stTx_K {q:LsV} (h:StQ 4 q):stTx q=⟨#[48,32,48,32,49,58,48,32,45]⟩:=by
 obtain ⟨h1,h2,h3⟩:=h
 obtain ⟨t0,t1,ht,e0,e1⟩:=zke (q:=q) (a:=([0],1)) (b:=([],0)) h3
 have a0:t0.chain=[0]:=congrArg Prod.fst e0
 have a1:t0.under=1:=congrArg Prod.snd e0
 have b0:t1.chain=[]:=congrArg Prod.fst e1
 have b1:t1.under=0:=congrArg Prod.snd e1
 have c0:zjb t0=⟨#[49,58,48]⟩:=by rw [zjb,a0,a1];decide +kernel
 have c1:zjb t1=⟨#[45]⟩:=by rw [zjb,b0,b1];rfl
 have e3:q.trs.map zjb=[⟨#[49,58,48]⟩,⟨#[45]⟩]:=by
  rw [ht]
  show [zjb t0,zjb t1]=_
  rw [c0,c1]
 rw [stTx,stTs,h1,h2,e3]
 decide +kernel
theorem st_ranges {q:LsV} (h:StQ 4 q):(-9223372036854775808≤q.ctr∧q.ctr≤9223372036854775807)∧∀ t∈q.trs,(-9223372036854775808≤t.under∧t.under≤9223372036854775807)∧∀ x∈t.chain,-9223372036854775808≤x∧x≤9223372036854775807:=by
 obtain ⟨h1,h2,h3⟩:=h
 obtain ⟨t0,t1,ht,e0,e1⟩:=zke (q:=q) (a:=([0],1)) (b:=([],0)) h3
 have a0:t0.chain=[0]:=congrArg Prod.fst e0
 have a1:t0.under=1:=congrArg Prod.snd e0
 have b0:t1.chain=[]:=congrArg Prod.fst e1
 have b1:t1.under=0:=congrArg Prod.snd e1
 rw [h2,ht]
 refine ⟨by decide,fun t hm=>?_⟩
 rcases List.mem_cons.1 hm with rfl | hm
 · rw [a0,a1];decide
 · obtain rfl:=List.mem_singleton.1 hm
   rw [b0,b1];decide
end Go.Proofs.YtfdmeojcopkaoaaGreatDoor
namespace Go.Proofs.YtfdmeojcopkaoaaGreatDoor
open Go.RowKit
theorem frB_freeze {b g:Nat} {W W':World} {cur:Array Value} (hf:FrB b W W') (hg:W'.heap[g]?=some (.cells cur 5 (0,0))) (n:Nat) (hgw:∃ c0,W.heap[g]?=some (.cells c0 5 (0,0))):FrB b W (W'.freeze ⟨g,0,none⟩ n):=fun k o h1 h2 h3=>by
 have h4:=hf k o h1 h2 h3
 have hne:k≠g:=fun e=>by
  subst e
  obtain ⟨c0,h5⟩:=hgw
  rw [h1] at h5
  exact h3 c0 (Option.some.inj h5)
 unfold World.freeze
 split
 · exact h4
 · simp only [Array.getElem?_modify]
   rw [if_neg (fun e=>hne e.symm)]
   exact h4
theorem String_fr (B b:Nat) (l:List UInt8) (w:World) (h:Lib.IsBuilder 174 5 B b (Lib.byteCells l) w) (h0:l≠[]):Calls Tryz.prog 111 #[.pointer (some ⟨b,0,none⟩)] w fun e w'=>e=.returned (.string ⟨l.toArray⟩)∧Below B w w'∧FrB b w w':=by
 obtain ⟨p,hB,v,hbk,hown,hne⟩:∃ p,Lib.BuilderAt 174 5 B b p (Lib.byteCells l) w:=by
  rcases h with h | h
  · exact ⟨_,h⟩
  · exact ⟨_,h⟩
 have hl0:l.length≠0:=by simpa using h0
 rw [Lib.byteCells_length] at hown
 obtain ⟨g,cap,cur,rfl,hbg,hg,hnc,hcm,hcs,htake⟩:∃ g cap cur,v=.slice (some ⟨g,0,none⟩) l.length cap∧B≤g∧w.heap[g]?=some (.cells cur 5 (0,0))∧l.length≤cap∧cap≤maxLen∧cur.size=cap * 1∧cur.toList.take (l.length * 1)=Lib.byteCells l:=by
  rcases hown.2 with ⟨_,hz⟩ | ⟨g,cap,cur,hv,r⟩
  · exact absurd hz hl0
  · exact ⟨g,cap,cur,hv,r⟩
 have hSD:(Builtin.unsafeSliceData_ #[172] 230 #[.slice (some ⟨g,0,none⟩) l.length cap]).run Tryz.prog w.drew=.ok (.pointer (some ⟨g,0,none⟩)) w.drew:=
  Lib.run_unsafeSliceData_row _ _ _ _ _ _ (by omega)
 have hUS:(Builtin.unsafeString_ #[230,3] 9 #[.pointer (some ⟨g,0,none⟩),.int .i64 l.length]).run Tryz.prog w.drew=.ok (.string ⟨l.toArray⟩) (w.drew.freeze ⟨g,0,none⟩ l.length):=by
  refine Lib.run_unsafeString_row w.drew 230 3 9 5 Tryz.underlying230 (by kernel_rfl) g cur.size (by have hg':w.drew.heap[g]?=some (.cells cur 5 (0,0)):=hg;simp [World.shape?,hg']) l h0 (by omega) (by unfold maxLen at hcm;omega) ?_
  intro j x hx
  have:=hown.cells (g:=g) rfl j (.int .u8 x.toNat) (by simp [Lib.byteCells,hx])
  exact this
 have c1:=(cell_of_row w.drew b 1 _ _ _ hbk).trans (by rfl:_=some (.slice (some ⟨g,0,none⟩) l.length cap))
 have mixed:Tryz.prog.follows .mixedOrders=true:=by kernel_rfl
 have hd:Below B w w.drew:=(Below.refl _ _).drew
 have HF:=Lib.hid (frB_freeze (b:=b) (W:=w) (W':=w.drew) (g:=g) (fun _ _ h _ _=>h) hg l.length ⟨_,hg⟩)
 have HBL:=Lib.hid (Lib.below_freeze hd (p:=⟨g,0,none⟩) hbg l.length)
 clear hg hown hcs htake hbk hd
 go_enter Tryz.func111,Tryz.ntmps111
 go_upto_region 1 with (fail)
 go_wp2
 go_region_o
 all_goals (go_wp2;go_ret;exact ⟨rfl,HBL.out,HF.out⟩)
end Go.Proofs.YtfdmeojcopkaoaaGreatDoor
namespace Go.Proofs.YtfdmeojcopkaoaaGreatDoor
open Go Go.RowKit Go.Shelf
attribute [local go_sem] Oper.semAt_some
theorem report_K (w:World) (x b n:Nat) (V:BookV) (hV:Stage n 4 V) (h:BkAt w x b V) (ht:TxtAt w):Calls Tryz.prog 45 #[.pointer (some ⟨b,0,none⟩)] w fun e w'=>e=.returned (.tuple #[.string (ba tx4),.int .i64 0])∧Below w.heap.size w w':=by
 have hb0:Below w.heap.size w (((w.alloc (.cells #[.pointer (some ⟨b,0,none⟩)] 118)).alloc (.cells #[.pointer none,.slice none 0 0] 174)).alloc (.cells #[.func (.func 100) #[] #[.pointer (some ⟨w.heap.size+1,0,none⟩)]] 180)):=(((Below.refl _ _).alloc (Nat.le_refl _) _).alloc (by simp) _).alloc (by simp;omega) _
 have k2:(((w.alloc (.cells #[.pointer (some ⟨b,0,none⟩)] 118)).alloc (.cells #[.pointer none,.slice none 0 0] 174)).alloc (.cells #[.nilFunc] 180)).heap[w.heap.size+1+1]?=some (.cells #[.nilFunc] 180 (0,0)):=by rw [zae,if_pos (by simp)]
 have k0:(((w.alloc (.cells #[.pointer (some ⟨b,0,none⟩)] 118)).alloc (.cells #[.pointer none,.slice none 0 0] 174)).alloc (.cells #[.func (.func 100) #[] #[.pointer (some ⟨w.heap.size+1,0,none⟩)]] 180)).heap[w.heap.size]?=some (.cells #[.pointer (some ⟨b,0,none⟩)] 118 (0,0)):=by rw [zae,if_neg (by simp;omega),zae,if_neg (by simp),zae,if_pos rfl]
 have k1:(((w.alloc (.cells #[.pointer (some ⟨b,0,none⟩)] 118)).alloc (.cells #[.pointer none,.slice none 0 0] 174)).alloc (.cells #[.func (.func 100) #[] #[.pointer (some ⟨w.heap.size+1,0,none⟩)]] 180)).heap[w.heap.size+1]?=some (.cells #[.pointer none,.slice none 0 0] 174 (0,0)):=by rw [zae,if_neg (by simp),zae,if_pos (by simp)]
 have k3:(((w.alloc (.cells #[.pointer (some ⟨b,0,none⟩)] 118)).alloc (.cells #[.pointer none,.slice none 0 0] 174)).alloc (.cells #[.func (.func 100) #[] #[.pointer (some ⟨w.heap.size+1,0,none⟩)]] 180)).heap[w.heap.size+1+1]?=some (.cells #[.func (.func 100) #[] #[.pointer (some ⟨w.heap.size+1,0,none⟩)]] 180 (0,0)):=by rw [zae,if_pos (by simp)]
 have R0:RpSt w b w.heap.size [] [] (((w.alloc (.cells #[.pointer (some ⟨b,0,none⟩)] 118)).alloc (.cells #[.pointer none,.slice none 0 0] 174)).alloc (.cells #[.func (.func 100) #[] #[.pointer (some ⟨w.heap.size+1,0,none⟩)]] 180)):=⟨hb0,k0,.inl ⟨Nat.le_refl _,.slice none 0 0,k1,⟨rfl,.inl ⟨rfl,rfl⟩⟩,by simp [Value.ownBlock]⟩,k3,fun D hD=>by cases hD⟩
 have hsf:(store (⟨w.heap.size+1+1,0,none⟩:Addr) (.func (.func 100) #[] #[.pointer (some ⟨w.heap.size+1,0,none⟩)])).run Tryz.prog (((w.alloc (.cells #[.pointer (some ⟨b,0,none⟩)] 118)).alloc (.cells #[.pointer none,.slice none 0 0] 174)).alloc (.cells #[.nilFunc] 180))=.ok () ((((w.alloc (.cells #[.pointer (some ⟨b,0,none⟩)] 118)).alloc (.cells #[.pointer none,.slice none 0 0] 174)).alloc (.cells #[.nilFunc] 180)).setCell ⟨w.heap.size+1+1,0,none⟩ (.func (.func 100) #[] #[.pointer (some ⟨w.heap.size+1,0,none⟩)])):=by
  rw [run_store _ _ _ _ _ rfl,cell_of_row _ _ 0 _ _ _ k2,frozen_of_row _ _ 0 _ _ k2]
  rfl
 have HK:=Lib.hid (show ∀ W,Below w.heap.size w W→BkAt W x b V from fun W hW=>h.keep hW)
 have HT:=Lib.hid (show ∀ W,Below w.heap.size w W→TxtAt W from fun W hW=>ht.below hW)
 have hltb:=h.lt
 have HV:=Lib.hid hV
 have hS:HouseS V.h:=by rw [hV.h];exact zbg n
 clear hb0 k0 k1 k2 k3 ht h hV
 refine (callsIn_wide (n:=3)).1 ?_
 refine callsIn_of_wp_marks Tryz.func45 rfl trivial ?_ rfl
 refine wpIn_wide.2 ?_
 simp only [Tryz.ntmps45,List.size_toArray,List.length_cons,List.length_nil,Nat.reduceAdd,Nat.reduceSub,Array.replicate_succ,Array.replicate_zero,List.push_toArray,List.append_toArray,List.nil_append,List.cons_append]
 go_upto_region 3 with (fail)
 clear hsf
 generalize ((w.alloc (.cells #[.pointer (some ⟨b,0,none⟩)] 118)).alloc (.cells #[.pointer none,.slice none 0 0] 174)).alloc (.cells #[.func (.func 100) #[] #[.pointer (some ⟨w.heap.size+1,0,none⟩)]] 180)=w0 at *
 generalize hbw:w.heap.size=bw at *
 have HBW:=Lib.hid hbw
 clear hbw
 have hk0:=HK.out w0 R0.below
 have q0:=(cell_of_row w0 bw 0 _ _ _ R0.box).trans (by rfl:_=some (.pointer (some ⟨b,0,none⟩)))
 have q2:=(cell_of_row w0 (bw+1+1) 0 _ _ _ R0.fn).trans (by rfl:_=some (.func (.func 100) #[] #[.pointer (some ⟨bw+1,0,none⟩)]))
 have q26:=(hk0.cell (i:=26) (u:=.int .i64 V.day) rfl).trans (congrArg some (congrArg (Value.int .i64) (show V.day=3 from HV.out.day)))
 clear hk0
 have IT:=fun W (hW:Below w0.heap.size w0 W)=>zb9 3 (by decide) (by decide) W (HT.out W (R0.keep hW).below)
 rw [itoa_K.1] at IT
 have xq0:=fun y:Xt w0=>y.cell q0
 have xq2:=fun y:Xt w0=>y.cell q2
 have xq26:=fun y:Xt w0=>y.cell q26
 refine zaj [7] (fun w'=>∃ y:Xt w0,w'=y.1) (by kernel_rfl) ⟨⟨w0.drew,(Below.refl _ _).drew⟩,rfl⟩ ?_
 refine zao [0,1,2,3,4] 3 rfl (by kernel_rfl) ?_
 simp only [zad,zac,zaa,zX1,zX2,zX3]
 repeat (go_big_quiet_step (fail))
 refine wpQuiet_nil ?_
 have hbd:Below w0.heap.size w0 w0.drew:=(Below.refl _ _).drew
 show wpE _ _ _ _ _ _ _ _ _ w0.drew
 generalize w0.drew=wd at *
 clear xq0 xq2 xq26 q0 q2 q26
 refine zak (i:=5) rfl (by kernel_rfl) rfl ?_
 unfold zap
 simp only [zad,zac,zaa,zX1,zX2,zX3]
 go_wp2_with (go_at_call 103;refine (IT _ hbd).mono ?_;rintro e we ⟨rfl,hbe0⟩)
 have hbe:=hbd.trans (hbe0.mono hbd.size)
 refine zab ⟨⟨⟨_,hbe⟩,rfl⟩,?_⟩
 refine zak (i:=6) rfl (by kernel_rfl) rfl ?_
 unfold zap
 simp only [zad,zac,zaa,zX1,zX2,zX3]
 go_wp2
 have hbn:=hB1 we (.cells #[.string ⟨#[100,97,121]⟩,.string ⟨#[51]⟩] 9)
 have kq:=hA1 we (.cells #[.string ⟨#[100,97,121]⟩,.string ⟨#[51]⟩] 9)
 have hbf:=hbe.trans (hbn.mono hbe.size)
 refine zab ⟨⟨⟨_,hbf⟩,rfl⟩,?_⟩
 have LN:=R0.call hbf [⟨#[100,97,121]⟩,⟨#[51]⟩] 2 (zby (cs:=#[.string ⟨#[100,97,121]⟩,.string ⟨#[51]⟩]) kq) rfl (by decide) tx1 (by decide +kernel) (by decide)
 clear hbn kq
 refine zau rfl (by kernel_rfl) ?_
 simp only [zad,zac,zaa,zX1,zX2,zX3]
 go_wp2_with (go_at_call 100;refine LN.mono ?_;rintro e w1 ⟨rfl,R1,hbL,hfL⟩)
 refine zab ?_
 clear R0 hbe hbe0 hbf hbd LN IT hbL hfL
 go_upto_region 4 with (fail)
 have hk0:=HK.out w1 R1.below
 have q0:=(cell_of_row w1 bw 0 _ _ _ R1.box).trans (by rfl:_=some (.pointer (some ⟨b,0,none⟩)))
 have q2:=(cell_of_row w1 (bw+1+1) 0 _ _ _ R1.fn).trans (by rfl:_=some (.func (.func 100) #[] #[.pointer (some ⟨bw+1,0,none⟩)]))
 have q27:=hk0.cell (i:=27) (u:=V.q.sw.v) rfl
 have q28:=hk0.cell (i:=28) (u:=V.q.tr.v) rfl
 have q29:=hk0.cell (i:=29) (u:=.int .i64 V.q.ctr) rfl
 clear hk0
 have FS:∀ W,Below w1.heap.size w1 W→Calls Tryz.prog 104 #[.agg #[V.q.sw.v,V.q.tr.v,.int .i64 V.q.ctr]] W (zfg W (stTx V.q)):=fun W hW=>zi5 W W.heap.size V.q (HK.out W (R1.keep hW).below).r.lk.at (Nat.le_refl _) (lsS_K HV.out.q) (st_ranges HV.out.q) (by rw [HV.out.q.1];decide) (HT.out W (R1.keep hW).below)
 rw [stTx_K HV.out.q] at FS
 have xq0:=fun y:Xt w1=>y.cell q0
 have xq2:=fun y:Xt w1=>y.cell q2
 have xq27:=fun y:Xt w1=>y.cell q27
 have xq28:=fun y:Xt w1=>y.cell q28
 have xq29:=fun y:Xt w1=>y.cell q29
 refine zaj [7] (fun w'=>∃ y:Xt w1,w'=y.1) (by kernel_rfl) ⟨⟨w1.drew,(Below.refl _ _).drew⟩,rfl⟩ ?_
 refine zao [0,1,2,3,4] 3 rfl (by kernel_rfl) ?_
 simp only [zad,zac,zaa,zX1,zX2,zX3]
 repeat (go_big_quiet_step (fail))
 refine wpQuiet_nil ?_
 have hbd:Below w1.heap.size w1 w1.drew:=(Below.refl _ _).drew
 show wpE _ _ _ _ _ _ _ _ _ w1.drew
 generalize w1.drew=wd at *
 clear xq0 xq2 xq27 xq28 xq29 q0 q2 q27 q28 q29
 refine zak (i:=5) rfl (by kernel_rfl) rfl ?_
 unfold zap
 simp only [zad,zac,zaa,zX1,zX2,zX3]
 go_wp2_with (go_at_call 104;refine (FS _ hbd).mono ?_;rintro e we ⟨rfl,hbe0⟩)
 have hbe:=hbd.trans (hbe0.mono hbd.size)
 refine zab ⟨⟨⟨_,hbe⟩,rfl⟩,?_⟩
 refine zak (i:=6) rfl (by kernel_rfl) rfl ?_
 unfold zap
 simp only [zad,zac,zaa,zX1,zX2,zX3]
 go_wp2
 have hbn:=hB1 we (.cells #[.string ⟨#[108,111,99,107]⟩,.string ⟨#[48,32,48,32,49,58,48,32,45]⟩] 9)
 have kq:=hA1 we (.cells #[.string ⟨#[108,111,99,107]⟩,.string ⟨#[48,32,48,32,49,58,48,32,45]⟩] 9)
 have hbf:=hbe.trans (hbn.mono hbe.size)
 refine zab ⟨⟨⟨_,hbf⟩,rfl⟩,?_⟩
 have LN:=R1.call hbf [⟨#[108,111,99,107]⟩,⟨#[48,32,48,32,49,58,48,32,45]⟩] 2 (zby (cs:=#[.string ⟨#[108,111,99,107]⟩,.string ⟨#[48,32,48,32,49,58,48,32,45]⟩]) kq) rfl (by decide) tx2 (by decide +kernel) (by decide)
 clear hbn kq
 refine zau rfl (by kernel_rfl) ?_
 simp only [zad,zac,zaa,zX1,zX2,zX3]
 go_wp2_with (go_at_call 100;refine LN.mono ?_;rintro e w2 ⟨rfl,R2,hbL,hfL⟩)
 refine zab ?_
 clear R1 hbe hbe0 hbf hbd LN FS hbL hfL
 have hk0:=HK.out w2 R2.below
 have q0:=(cell_of_row w2 bw 0 _ _ _ R2.box).trans (by rfl:_=some (.pointer (some ⟨b,0,none⟩)))
 have q2:=(cell_of_row w2 (bw+1+1) 0 _ _ _ R2.fn).trans (by rfl:_=some (.func (.func 100) #[] #[.pointer (some ⟨bw+1,0,none⟩)]))
 have q30:=hk0.cell (i:=30) (u:=.slice none 0 0) rfl
 clear hk0
 go_wp2
 clear q0 q2 q30
 go_loopw [48] (fun u48 wr=>u48=.int .i64 0∧wr=w2) (fun _ _=>0)
 case atStart=>exact ⟨rfl,rfl⟩
 case round =>
  obtain ⟨rfl,rfl⟩:=hrel
  have q0:=(cell_of_row wr bw 0 _ _ _ R2.box).trans (by rfl:_=some (.pointer (some ⟨b,0,none⟩)))
  go_wp2
  clear q0
  have htr:V.h.plant.trains=[⟨#[116]⟩,⟨#[117]⟩]:=by rw [HV.out.h];rfl
  have HTR:=Lib.hid htr
  have TG:∀ W,Below bw w W→SeqAll Fence.wide 2 Tryz.prog 106 #[.pointer (some ⟨b,0,none⟩)] trEnc (trNum 0 [⟨#[116]⟩,⟨#[117]⟩]) (Below bw) W:=fun W hW=>by
   have hk0:=HK.out W hW
   have hsz:=hW.size
   rw [HBW.out] at hsz
   have hxb:=hk0.xb
   have TG0:=trains_gives 2 (by decide) W bw b V.h.plant.ts.A V.h.plant.ts.n V.h.plant.ts.c V.h.plant.trains hsz hltb (hk0.house 1 (u:=V.h.plant.ts.v) rfl) (hk0.r.house.plant.trains.2.mono (by omega)) hk0.r.house.plant.trains.1 (by have:=hk0.r.house.plant.trains.1;have:=hS.plant.trains.1;omega)
   rw [HTR.out] at TG0
   exact TG0
  have HTG:=Lib.hid TG
  clear TG htr
  refine zj9 ?_
  refine zea (F:=Fence.wide) rfl (by omega) (gf:=106) (fb:=#[.pointer (some ⟨b,0,none⟩)]) rfl trivial (enters_of Tryz.func106 (by kernel_rfl) rfl)
   (HTG.out wr R2.below) (Below.refl _ _) (fun _=>rfl) (fun h1 h2=>Below.trans h1 h2)
   (fun W q o o' hq ho hc=>(Below.refl bw W).grown (grownBy_putObj' W q o') (by have:=(Array.getElem?_eq_some_iff.1 ho).1;have:=R2.size;omega) (fun k e=>by cases e;have:=R2.size;omega))
   (fun k W=>RpSt w b bw [] (if k=0 then tx2 else tx3) W)
   (fun k W W' row hs hg hr=>hs.grown hg (fun r e=>⟨by have:=(hr r e).1;have:=R2.size;omega,(fun D hD=>nomatch hD),(hr r e).2⟩))
   R2 ?round ?done
  case round =>
   rintro q k y W hq hy hI
   have hszr:=R2.size
   clear R2
   rcases k with _ | _ | k
   · obtain rfl:=Option.some.inj hy
     clear hy
     simp only [trEnc]
     gi_wp2
     refine ⟨KeepsFrom.refl _ _,Below.refl _ _,?_⟩
     intro o o' ho hc
     have R3:RpSt w b bw [] tx2 (W.putObj q o'):=hI.grown (grownBy_putObj' W q o') (fun r e=>by cases e;exact ⟨by omega,(fun D hD=>nomatch hD),o,ho,hc⟩)
     generalize W.putObj q o'=W2 at *
     clear hI ho hc
     have hk2:=HK.out W2 R3.below
     have d31:=hk2.cell (i:=31) (u:=.map (some V.mp)) rfl
     have hm:=hk2.r.pl
     rw [HV.out.pl] at hm
     have hlk:=run_look1 (t:=135) Tryz.underlying135 hm 0 (j:=0) (v:=.agg #[.int .i64 0,.int .i64 3,.int .i64 1100,.int .i64 1199]) rfl
     have q0:=(cell_of_row W2 bw 0 _ _ _ R3.box).trans (by rfl:_=some (.pointer (some ⟨b,0,none⟩)))
     clear hk2 hm
     refine wpIn_block ?_
     refine wpIn_seq ?_
     refine zcm (by kernel_rfl) ?_
     go_wp2_with (with_reducible refine zat 190 ?_)
     have hba:=hB1 W2 (.cells #[.int .i64 0,.int .i64 0,.int .i64 0,.int .i64 0] 190)
     have k3:=hA1 W2 (.cells #[.int .i64 0,.int .i64 0,.int .i64 0,.int .i64 0] 190)
     unfold Stp
     refine wpList_store_row rfl 190 _ _ rfl W2.heap.size #[.int .i64 0,.int .i64 3,.int .i64 1100,.int .i64 1199] rfl rfl 190 _ k3 (by kernel_rfl) rfl (by kernel_rfl) ?_
     have k4:=setRow_heap _ W2.heap.size _ #[.int .i64 0,.int .i64 3,.int .i64 1100,.int .i64 1199] 190 (0,0) k3
     have hb4:Below W2.heap.size W2 ((W2.alloc (.cells #[.int .i64 0,.int .i64 0,.int .i64 0,.int .i64 0] 190)).setRow W2.heap.size #[.int .i64 0,.int .i64 3,.int .i64 1100,.int .i64 1199]):=below_setRow hba (Nat.le_refl _) _
     clear k3 hba hlk d31 q0
     go_wp2
     refine zab ?_
     generalize (W2.alloc (.cells #[.int .i64 0,.int .i64 0,.int .i64 0,.int .i64 0] 190)).setRow W2.heap.size #[.int .i64 0,.int .i64 3,.int .i64 1100,.int .i64 1199]=W3 at *
     have R4:=R3.keep hb4
     have HB4:=Lib.hid hb4
     clear hb4
     obtain ⟨_,c1,c2,c3⟩:_∧_∧_∧_:=za9 k4
     have q2:=(cell_of_row W3 (bw+1+1) 0 _ _ _ R4.fn).trans (by rfl:_=some (.func (.func 100) #[] #[.pointer (some ⟨bw+1,0,none⟩)]))
     clear k4
     gi_wp2
     have ITa:=fun W (hW:Below W3.heap.size W3 W)=>zb9 1100 (by decide) (by decide) W (HT.out W (R4.keep hW).below)
     have ITb:=fun W (hW:Below W3.heap.size W3 W)=>zb9 1199 (by decide) (by decide) W (HT.out W (R4.keep hW).below)
     have ITc:=fun W (hW:Below W3.heap.size W3 W)=>zb9 3 (by decide) (by decide) W (HT.out W (R4.keep hW).below)
     rw [itoa_K.2.1] at ITa
     rw [itoa_K.2.2] at ITb
     rw [itoa_K.1] at ITc
     have xq2:=fun y:Xt W3=>y.cell q2
     have xc1:=fun y:Xt W3=>y.cell c1
     have xc2:=fun y:Xt W3=>y.cell c2
     have xc3:=fun y:Xt W3=>y.cell c3
     refine zg1 [14] (fun w'=>∃ y:Xt W3,w'=y.1) (by kernel_rfl) (by kernel_rfl) ⟨⟨W3.drew,(Below.refl _ _).drew⟩,rfl⟩ ?_
     refine zao [0,1,2,3,4,6,7,8,10,11] 5 rfl (by kernel_rfl) ?_
     simp only [zad,zac,zaa,zX1,zX2,zX3]
     repeat (go_big_quiet_step (fail))
     refine wpQuiet_nil ?_
     have hbd:Below W3.heap.size W3 W3.drew:=(Below.refl _ _).drew
     show wpE _ _ _ _ _ _ _ _ _ W3.drew
     generalize W3.drew=wd at *
     clear xq2 xc1 xc2 xc3 q2 c1 c2 c3
     refine zak (i:=5) rfl (by kernel_rfl) rfl ?_
     unfold zap
     simp only [zad,zac,zaa,zX1,zX2,zX3]
     go_wp2_with (go_at_call 103;refine (ITa _ hbd).mono ?_;rintro e we1 ⟨rfl,hbe1⟩)
     have hb5:=hbd.trans (hbe1.mono hbd.size)
     refine zab ⟨⟨⟨_,hb5⟩,rfl⟩,?_⟩
     refine zak (i:=9) rfl (by kernel_rfl) rfl ?_
     unfold zap
     simp only [zad,zac,zaa,zX1,zX2,zX3]
     go_wp2_with (go_at_call 103;refine (ITb _ hb5).mono ?_;rintro e we2 ⟨rfl,hbe2⟩)
     have hb9:=hb5.trans (hbe2.mono hb5.size)
     refine zab ⟨⟨⟨_,hb9⟩,rfl⟩,?_⟩
     refine zak (i:=12) rfl (by kernel_rfl) rfl ?_
     unfold zap
     simp only [zad,zac,zaa,zX1,zX2,zX3]
     go_wp2_with (go_at_call 103;refine (ITc _ hb9).mono ?_;rintro e we ⟨rfl,hbe3⟩)
     have hb12:=hb9.trans (hbe3.mono hb9.size)
     refine zab ⟨⟨⟨_,hb12⟩,rfl⟩,?_⟩
     refine zak (i:=13) rfl (by kernel_rfl) rfl ?_
     unfold zap
     simp only [zad,zac,zaa,zX1,zX2,zX3]
     go_wp2
     have hbn:=hB1 we (.cells #[.string ⟨#[112,108,97,99,101]⟩,.string ⟨#[116]⟩,.string ⟨#[49,49,48,48]⟩,.string ⟨#[49,49,57,57]⟩,.string ⟨#[51]⟩] 9)
     have kq:=hA1 we (.cells #[.string ⟨#[112,108,97,99,101]⟩,.string ⟨#[116]⟩,.string ⟨#[49,49,48,48]⟩,.string ⟨#[49,49,57,57]⟩,.string ⟨#[51]⟩] 9)
     have hbf:=hb12.trans (hbn.mono hb12.size)
     refine zab ⟨⟨⟨_,hbf⟩,rfl⟩,?_⟩
     have HBF:=Lib.hid hbf
     have LN:=R4.call hbf [⟨#[112,108,97,99,101]⟩,⟨#[116]⟩,⟨#[49,49,48,48]⟩,⟨#[49,49,57,57]⟩,⟨#[51]⟩] 5 (zby (cs:=#[.string ⟨#[112,108,97,99,101]⟩,.string ⟨#[116]⟩,.string ⟨#[49,49,48,48]⟩,.string ⟨#[49,49,57,57]⟩,.string ⟨#[51]⟩]) kq) rfl (by decide) tx3 (by decide +kernel) (by decide)
     clear hbn kq
     refine zau rfl (by kernel_rfl) ?_
     simp only [zad,zac,zaa,zX1,zX2,zX3]
     go_wp2_with (go_at_call 100;refine LN.mono ?_;rintro e w9 ⟨rfl,R9,hbL,hfL⟩)
     refine zab ?_
     gi_wp2
     have hb2f:=HB4.out.trans (HBF.out.mono HB4.out.size)
     refine ⟨(by first | rfl | trivial),(zc5 hb2f).trans (keepsFrom_fr hfL hbL.size (by omega)),(hb2f.mono (by have:=R3.size;omega)).trans (hbL.mono (by omega)),R9⟩
   · obtain rfl:=Option.some.inj hy
     clear hy
     simp only [trEnc]
     gi_wp2
     refine ⟨KeepsFrom.refl _ _,Below.refl _ _,?_⟩
     intro o o' ho hc
     have R3:RpSt w b bw [] tx3 (W.putObj q o'):=hI.grown (grownBy_putObj' W q o') (fun r e=>by cases e;exact ⟨by omega,(fun D hD=>nomatch hD),o,ho,hc⟩)
     generalize W.putObj q o'=W2 at *
     clear hI ho hc
     have hk2:=HK.out W2 R3.below
     have d31:=hk2.cell (i:=31) (u:=.map (some V.mp)) rfl
     have hm:=hk2.r.pl
     rw [HV.out.pl] at hm
     have hlk:=zkm (t:=135) (e:=190) Tryz.underlying135 hm 1 (zero190 W2) rfl
     have q0:=(cell_of_row W2 bw 0 _ _ _ R3.box).trans (by rfl:_=some (.pointer (some ⟨b,0,none⟩)))
     clear hk2 hm
     refine wpIn_block ?_
     refine wpIn_seq ?_
     refine zcm (by kernel_rfl) ?_
     go_wp2_with (with_reducible refine zat 190 ?_)
     have hba:=hB1 W2 (.cells #[.int .i64 0,.int .i64 0,.int .i64 0,.int .i64 0] 190)
     have k3:=hA1 W2 (.cells #[.int .i64 0,.int .i64 0,.int .i64 0,.int .i64 0] 190)
     unfold Stp
     refine wpList_store_row rfl 190 _ _ rfl W2.heap.size #[.int .i64 0,.int .i64 0,.int .i64 0,.int .i64 0] rfl rfl 190 _ k3 (by kernel_rfl) rfl (by kernel_rfl) ?_
     have hb4:Below W2.heap.size W2 ((W2.alloc (.cells #[.int .i64 0,.int .i64 0,.int .i64 0,.int .i64 0] 190)).setRow W2.heap.size #[.int .i64 0,.int .i64 0,.int .i64 0,.int .i64 0]):=below_setRow hba (Nat.le_refl _) _
     clear k3 hba hlk d31 q0
     go_wp2
     refine zab ?_
     generalize (W2.alloc (.cells #[.int .i64 0,.int .i64 0,.int .i64 0,.int .i64 0] 190)).setRow W2.heap.size #[.int .i64 0,.int .i64 0,.int .i64 0,.int .i64 0]=W3 at *
     have R4:=R3.keep hb4
     gi_wp2
     exact ⟨(by first | rfl | trivial),zc5 hb4,hb4.mono (by have:=R3.size;omega),R4⟩
   · cases hy
  case done =>
   rintro D1 W hD hI hK
   have R3:RpSt w b bw [D1] tx3 W:=RpSt.mark hI hK
   have hbD:bw≤D1:=by have:=R2.size;omega
   clear hI hK R2
   have q0:=(cell_of_row W bw 0 _ _ _ R3.box).trans (by rfl:_=some (.pointer (some ⟨b,0,none⟩)))
   have hdl:∀ D∈[D1],D<W.heap.size:=fun D hD=>lt_of_block (R3.ds D hD)
   go_wp2
   clear q0
   refine zj9 ?_
   refine zea (F:=Fence.wide) rfl (by omega) (gf:=106) (fb:=#[.pointer (some ⟨b,0,none⟩)]) rfl trivial (enters_of Tryz.func106 (by kernel_rfl) rfl)
    (HTG.out W R3.below) (Below.refl _ _) (fun _=>rfl) (fun h1 h2=>Below.trans h1 h2)
    (fun W q o o' hq ho hc=>(Below.refl bw W).grown (grownBy_putObj' W q o') (by have:=(Array.getElem?_eq_some_iff.1 ho).1;have:=R3.size;omega) (fun k e=>by cases e;have:=R3.size;omega))
    (fun k W=>RpSt w b bw [D1] tx3 W)
    (fun k W W' row hs hg hr=>hs.grown hg (fun r e=>⟨by have:=(hr r e).1;have:=R3.size;omega,fun D hD=>Nat.lt_of_lt_of_le (hdl D hD) (hr r e).1,(hr r e).2⟩))
    R3 ?round ?done
   case round =>
    rintro q k ⟨i,s⟩ W hq hy hI
    have hszr:=R3.size
    clear R3
    simp only [trEnc]
    gi_wp2
    refine ⟨KeepsFrom.refl _ _,Below.refl _ _,?_⟩
    intro o o' ho hc
    have R3:RpSt w b bw [D1] tx3 (W.putObj q o'):=hI.grown (grownBy_putObj' W q o') (fun r e=>by cases e;exact ⟨by omega,fun D hD=>Nat.lt_of_lt_of_le (hdl D hD) hq,o,ho,hc⟩)
    generalize W.putObj q o'=W2 at *
    clear hI ho hc
    have hk2:=HK.out W2 R3.below
    have d32:=hk2.cell (i:=32) (u:=.map (some V.mr)) rfl
    have hlk:=zkm (t:=136) (e:=193) Tryz.underlying136 hk2.r.rn (i:Nat) (zero193 W2) rfl
    have q0:=(cell_of_row W2 bw 0 _ _ _ R3.box).trans (by rfl:_=some (.pointer (some ⟨b,0,none⟩)))
    clear hk2
    refine wpIn_block ?_
    refine wpIn_seq ?_
    refine zcm (by kernel_rfl) ?_
    go_wp2_with (with_reducible refine zat 193 ?_)
    have hba:=hB1 W2 (.cells #[.int .i64 0,.int .i64 0] 193)
    have k3:=hA1 W2 (.cells #[.int .i64 0,.int .i64 0] 193)
    unfold Stp
    refine wpList_store_row rfl 193 _ _ rfl W2.heap.size #[.int .i64 0,.int .i64 0] rfl rfl 193 _ k3 (by kernel_rfl) rfl (by kernel_rfl) ?_
    have hb4:Below W2.heap.size W2 ((W2.alloc (.cells #[.int .i64 0,.int .i64 0] 193)).setRow W2.heap.size #[.int .i64 0,.int .i64 0]):=below_setRow hba (Nat.le_refl _) _
    clear k3 hba hlk d32 q0
    go_wp2
    refine zab ?_
    generalize (W2.alloc (.cells #[.int .i64 0,.int .i64 0] 193)).setRow W2.heap.size #[.int .i64 0,.int .i64 0]=W3 at *
    have R4:=R3.keep hb4
    gi_wp2
    exact ⟨(by first | rfl | trivial),zc5 hb4,hb4.mono (by have:=R3.size;omega),R4⟩
   case done =>
    rintro D2 Wb hD hI hK
    have hltD2:D1<D2:=Nat.lt_of_lt_of_le (hdl _ List.mem_cons_self) hD
    have R5:RpSt w b bw (D2 :: [D1]) tx3 Wb:=RpSt.mark hI hK
    clear hI hK R3 hdl
    have q0:=(cell_of_row Wb bw 0 _ _ _ R5.box).trans (by rfl:_=some (.pointer (some ⟨b,0,none⟩)))
    have hdl:∀ D∈[D2,D1],D<Wb.heap.size:=fun D hD=>lt_of_block (R5.ds D hD)
    go_wp2
    clear q0
    refine zj9 ?_
    refine zea (F:=Fence.wide) rfl (by omega) (gf:=106) (fb:=#[.pointer (some ⟨b,0,none⟩)]) rfl trivial (enters_of Tryz.func106 (by kernel_rfl) rfl)
     (HTG.out Wb R5.below) (Below.refl _ _) (fun _=>rfl) (fun h1 h2=>Below.trans h1 h2)
     (fun W q o o' hq ho hc=>(Below.refl bw W).grown (grownBy_putObj' W q o') (by have:=(Array.getElem?_eq_some_iff.1 ho).1;have:=R5.size;omega) (fun k e=>by cases e;have:=R5.size;omega))
     (fun k W=>RpSt w b bw [D2,D1] tx3 W)
     (fun k W W' row hs hg hr=>hs.grown hg (fun r e=>⟨by have:=(hr r e).1;have:=R5.size;omega,fun D hD=>Nat.lt_of_lt_of_le (hdl D hD) (hr r e).1,(hr r e).2⟩))
     R5 ?round ?done
    case round =>
     rintro q k ⟨i,s⟩ W hq hy hI
     have hszr:=R5.size
     clear R5
     simp only [trEnc]
     gi_wp2
     refine ⟨KeepsFrom.refl _ _,Below.refl _ _,?_⟩
     intro o o' ho hc
     have R3:RpSt w b bw [D2,D1] tx3 (W.putObj q o'):=hI.grown (grownBy_putObj' W q o') (fun r e=>by cases e;exact ⟨by omega,fun D hD=>Nat.lt_of_lt_of_le (hdl D hD) hq,o,ho,hc⟩)
     generalize W.putObj q o'=W2 at *
     clear hI ho hc
     obtain ⟨z,hz0,hz⟩:∃ z:Int,0≤z∧idxT V.h.plant.trains s=z:=by
      rw [HTR.out]
      rcases k with _ | _ | k
      · obtain ⟨_,rfl⟩:=Prod.mk.inj (Option.some.inj hy)
        exact ⟨0,by decide,by kernel_rfl⟩
      · obtain ⟨_,rfl⟩:=Prod.mk.inj (Option.some.inj hy)
        exact ⟨1,by decide,by kernel_rfl⟩
      · cases hy
     have MK:=masts_K W2 x b V (HK.out W2 R3.below) hS s z hz hz0
     have q0:=(cell_of_row W2 bw 0 _ _ _ R3.box).trans (by rfl:_=some (.pointer (some ⟨b,0,none⟩)))
     clear hz hy
     refine wpIn_block ?_
     refine wpIn_seq ?_
     refine zcm (by kernel_rfl) ?_
     go_wp2_with (go_at_call 108;refine MK.mono ?_;rintro e W3 ⟨rfl,hb4⟩)
     refine zab ?_
     have R4:=R3.keep hb4
     clear MK q0
     gi_wp2
     exact ⟨(by first | rfl | trivial),zc5 hb4,hb4.mono (by have:=R3.size;omega),R4⟩
    case done =>
     rintro D3 Wc hD hI hK
     have hltD3:D2<D3:=Nat.lt_of_lt_of_le (hdl _ List.mem_cons_self) hD
     have R6:RpSt w b bw (D3 :: [D2,D1]) tx3 Wc:=RpSt.mark hI hK
     clear hI hK R5 hdl
     have hkw:=HK.out Wc R6.below
     have hbb:=hkw.r.wk
     rw [show V.works=[1] from HV.out.works] at hbb
     obtain ⟨Aw,nw,cw,hvw⟩:∃ A n c,V.wk=⟨A,n,c⟩:=⟨_,_,_,rfl⟩
     rw [hvw] at hbb
     obtain ⟨hn1,hown⟩:=hbb
     replace hn1:1=nw:=hn1
     subst hn1
     obtain ⟨g,off,rfl,hg,z0⟩:=((zbe (show Wc.ownsRow x 3 1 (.slice Aw 1 cw) 1 (zah [1]) from hown)).at_ (k:=0) (u:=.int .i64 1) rfl)
     have q35:Wc.cell? ⟨b,35,none⟩=some (.slice (some ⟨g,off,none⟩) 1 cw):=(hkw.cell (i:=35) (u:=V.wk.v) rfl).trans (by rw [hvw];rfl)
     have q0:=(cell_of_row Wc bw 0 _ _ _ R6.box).trans (by rfl:_=some (.pointer (some ⟨b,0,none⟩)))
     clear hkw hown hvw
     rw [Nat.add_zero] at z0
     go_wp2
     clear q0 q35
     go_loopw [131] (fun u wr=>(u=.int .i64 0∧wr=Wc)∨(u=.int .i64 1∧RpSt w b bw [D3,D2,D1] tx4 wr)) (fun u _=>1 - (intOf u).toNat)
     case atStart=>exact .inl ⟨rfl,rfl⟩
     case round =>
      rcases hrel with ⟨rfl,rfl⟩ | ⟨rfl,R9⟩
      · go_upto_region 30 with (fail)
        clear z0
        have hk0:=HK.out wr R6.below
        have hss:V.h.plant.ss=⟨some ⟨n+1,0,none⟩,3,3⟩:=by rw [HV.out.h];rfl
        have hsn:V.h.plant.secs=[⟨#[97]⟩,⟨#[98]⟩,⟨#[99]⟩]:=by rw [HV.out.h];rfl
        have qs:wr.cell? ⟨b,0,none⟩=some (.slice (some ⟨n+1,0,none⟩) 3 3):=(hk0.house 0 (u:=V.h.plant.ss.v) rfl).trans (by rw [hss];rfl)
        have hsr:=hk0.r.house.plant.secs.2
        rw [hss,hsn] at hsr
        obtain ⟨bq,oq,eq9,_,z1⟩:=hsr.at_ (k:=1) (u:=.string ⟨#[98]⟩) rfl
        cases eq9
        have q0:=(cell_of_row wr bw 0 _ _ _ R6.box).trans (by rfl:_=some (.pointer (some ⟨b,0,none⟩)))
        have q2:=(cell_of_row wr (bw+1+1) 0 _ _ _ R6.fn).trans (by rfl:_=some (.func (.func 100) #[] #[.pointer (some ⟨bw+1,0,none⟩)]))
        clear hk0 hss hsn hsr
        have xq0:=fun y:Xt wr=>y.cell q0
        have xq2:=fun y:Xt wr=>y.cell q2
        have xqs:=fun y:Xt wr=>y.cell qs
        have xz1:=fun y:Xt wr=>y.cell z1
        refine zaj [11] (fun w'=>∃ y:Xt wr,w'=y.1) (by kernel_rfl) ⟨⟨wr.drew,(Below.refl _ _).drew⟩,rfl⟩ ?_
        refine zao [0,1,2,3,4,5,6,7,8,9] 2 rfl (by kernel_rfl) ?_
        simp only [zad,zac,zaa,zX1,zX2,zX3]
        repeat (go_big_quiet_step (fail))
        refine wpQuiet_nil ?_
        have hbd:Below wr.heap.size wr wr.drew:=(Below.refl _ _).drew
        show wpE _ _ _ _ _ _ _ _ _ wr.drew
        generalize wr.drew=wd at *
        clear xq0 xq2 xqs xz1 q0 q2 qs z1
        refine zak (i:=10) rfl (by kernel_rfl) rfl ?_
        unfold zap
        simp only [zad,zac,zaa,zX1,zX2,zX3]
        go_wp2
        have hbn:=hB1 wd (.cells #[.string ⟨#[119,111,114,107,115]⟩,.string ⟨#[98]⟩] 9)
        have kq:=hA1 wd (.cells #[.string ⟨#[119,111,114,107,115]⟩,.string ⟨#[98]⟩] 9)
        have hbf:=hbd.trans (hbn.mono hbd.size)
        refine zab ⟨⟨⟨_,hbf⟩,rfl⟩,?_⟩
        have LN:=R6.call hbf [⟨#[119,111,114,107,115]⟩,⟨#[98]⟩] 2 (zby (cs:=#[.string ⟨#[119,111,114,107,115]⟩,.string ⟨#[98]⟩]) kq) rfl (by decide) tx4 (by decide +kernel) (by decide)
        clear hbn kq
        refine zau rfl (by kernel_rfl) ?_
        simp only [zad,zac,zaa,zX1,zX2,zX3]
        go_wp2_with (go_at_call 100;refine LN.mono ?_;rintro e w9 ⟨rfl,R9,hbL,hfL⟩)
        refine zab ?_
        go_wp2
        go_roundw
        case rel=>exact .inr ⟨rfl,R9⟩
        case measure=>simp [intOf]
      · clear z0 R6
        have hk0:=HK.out wr R9.below
        have q0:=(cell_of_row wr bw 0 _ _ _ R9.box).trans (by rfl:_=some (.pointer (some ⟨b,0,none⟩)))
        have q2:=(cell_of_row wr (bw+1+1) 0 _ _ _ R9.fn).trans (by rfl:_=some (.func (.func 100) #[] #[.pointer (some ⟨bw+1,0,none⟩)]))
        have q36:=hk0.cell (i:=36) (u:=.slice none 0 0) rfl
        clear hk0
        go_wp2
        clear q0 q2 q36
        go_loopw [153] (fun u wz=>u=.int .i64 0∧wz=wr) (fun _ _=>0)
        case atStart=>exact ⟨rfl,rfl⟩
        case round =>
         obtain ⟨rfl,rfl⟩:=hrel
         have hk0:=HK.out wr R9.below
         have q0:=(cell_of_row wr bw 0 _ _ _ R9.box).trans (by rfl:_=some (.pointer (some ⟨b,0,none⟩)))
         have q2:=(cell_of_row wr (bw+1+1) 0 _ _ _ R9.fn).trans (by rfl:_=some (.func (.func 100) #[] #[.pointer (some ⟨bw+1,0,none⟩)]))
         have q37:=hk0.cell (i:=37) (u:=.slice none 0 0) rfl
         clear hk0
         go_wp2
         clear q0 q2 q37
         go_loopw [168] (fun u wz=>u=.int .i64 0∧wz=wr) (fun _ _=>0)
         case atStart=>exact ⟨rfl,rfl⟩
         case round =>
          obtain ⟨rfl,rfl⟩:=hrel
          have SP:=String_fr (bw+1) (bw+1) tx4 wr R9.bld (by decide)
          rw [show (⟨tx4.toArray⟩:ByteArray)=ba tx4 from rfl] at SP
          go_wp2_with (go_at_call 111;refine SP.mono ?_;rintro e W9 ⟨rfl,hb9,hf9⟩)
          have RB:=R9.below.trans (hb9.mono (by omega))
          have hne:∀ D∈[D3,D2,D1],W9.heap[D]?=some (.deferred (some [])):=fun D hD=>hf9 _ _ (R9.ds D hD) (fun e=>by
           have h1:=R9.ds D hD
           rcases R9.bld with ⟨_,v,h2,_⟩ | ⟨_,v,h2,_⟩ <;> (rw [e,h2] at h1;cases h1)) (fun cs e=>by simp at e)
          have m1:=hne D1 (by simp)
          have m2:=hne D2 (by simp)
          have m3:=hne D3 (by simp)
          have hz:=Nat.le_trans R9.size hb9.size
          have z1:Below bw W9 (W9.putObj D3 (.deferred none)):=Below.grown (Below.refl bw W9) (grownBy_putObj' W9 D3 (.deferred none)) (by omega) (fun k e=>by cases e;omega)
          have z2:Below bw (W9.putObj D3 (.deferred none)) ((W9.putObj D3 (.deferred none)).putObj D2 (.deferred none)):=Below.grown (Below.refl bw _) (grownBy_putObj' _ D2 (.deferred none)) (by have:=z1.size;omega) (fun k e=>by cases e;omega)
          have z3:Below bw ((W9.putObj D3 (.deferred none)).putObj D2 (.deferred none)) (((W9.putObj D3 (.deferred none)).putObj D2 (.deferred none)).putObj D1 (.deferred none)):=Below.grown (Below.refl bw _) (grownBy_putObj' _ D1 (.deferred none)) (by have:=z1.size;have:=z2.size;omega) (fun k e=>by cases e;omega)
          have ZZ:=Lib.hid (RB.trans ((z1.trans z2).trans z3))
          clear z1 z2 z3 RB hz hb9 hf9 R9
          go_wp2
          refine ⟨by simp,.inl ⟨_,_,rfl,run_takeDeferred m3,?_⟩⟩
          refine ⟨by simp,.inl ⟨_,_,rfl,run_takeDeferred ((World.putObj_heap_other (by omega)).trans m2),?_⟩⟩
          refine ⟨by simp,.inl ⟨_,_,rfl,run_takeDeferred ((World.putObj_heap_other (by omega)).trans ((World.putObj_heap_other (by omega)).trans m1)),?_⟩⟩
          refine ⟨_,by simp [results,Tryz.results45,go_sem],rfl,?_⟩
          rw [HBW.out]
          exact ZZ.out
end Go.Proofs.YtfdmeojcopkaoaaGreatDoor
namespace Go.Proofs.YtfdmeojcopkaoaaGreatDoor
open Go.RowKit
theorem Report_K (w:World) (n:Nat) (A:Option Addr) (c:Nat) (hH:HouseAt w w.heap.size (hK n)) (hr:Rd w w.heap.size A (zb7 logK)) (hT:CtAt w):Calls Tryz.prog 9 #[.agg (zaq (hK n)).toArray,.slice A 4 c] w fun e w'=>e=.returned (.tuple #[.string (ba tx4),.int .i64 0])∧Below w.heap.size w w':=by
 have hb0:=hB1 w (.cells (zaq (hK n)).toArray 45)
 have k0:=hA1 w (.cells (zaq (hK n)).toArray 45)
 have AS:=asked45 _ n A c ((hH.keep hb0).mono hb0.size) ((hr.keep hb0).mono hb0.size) (hT.below hb0) (ba tx4) (fun W x b V hW hV hB hC=>report_K W x b n V hV hB hC.txt)
 have HB:=Lib.hid hb0
 have hs0:=hS1 w (.cells (zaq (hK n)).toArray 45)
 clear hb0 hH hr hT
 go_enter Tryz.func9,Tryz.ntmps9
 go_upto_region 1 with (fail)
 generalize w.alloc (.cells (zaq (hK n)).toArray 45)=w0 at *
 generalize hbw:w.heap.size=bw at *
 have HBW:=Lib.hid hbw
 clear hbw
 go_wp2_with (with_reducible refine zaz 45 ?_)
 unfold Stp
 refine wpList_load_row rfl 45 _ rfl bw rfl 45 _ (0,0) _ k0 Tryz.underlying45 rfl (by kernel_rfl) ?_
 go_wp2_with (go_at_call 44;refine AS.mono ?_;rintro e w1 ⟨rfl,hb1⟩)
 go_ret2
 exact ⟨rfl,by rw [HBW.out];exact HB.out.trans (hb1.mono (by omega))⟩
end Go.Proofs.YtfdmeojcopkaoaaGreatDoor
