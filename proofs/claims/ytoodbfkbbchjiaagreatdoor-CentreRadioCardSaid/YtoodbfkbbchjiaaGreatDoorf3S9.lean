import Derived.Test.YtoodbfkbbchjiaaGreatDoorf3C7
import Derived.Test.YtoodbfkbbchjiaaGreatDoorf3Y1
set_option maxRecDepth 100000
set_option maxHeartbeats 16000000
namespace Go.Proofs.YtoodbfkbbchjiaaGreatDoor
open Go Go.RowKit Go.Shelf
def fnV (bw:Nat):Value:=.func (.func 54) #[] #[.pointer (some ⟨bw+1,0,none⟩)]
structure RpSt (w:World) (b bw:Nat) (Ds:List Nat) (bs:List UInt8) (W:World):Prop where
 below:Below bw w W
 box:W.heap[bw]?=some (.cells #[.pointer (some ⟨b,0,none⟩)] 89 (0,0))
 bld:Lib.IsBuilder 151 5 (bw+1) (bw+1) (Lib.byteCells bs) W
 fn:W.heap[bw+1+1]?=some (.cells #[fnV bw] 157 (0,0))
 ds:∀ D∈Ds,W.heap[D]?=some (.deferred (some []))
theorem RpSt.size {w:World} {b bw:Nat} {Ds:List Nat} {bs:List UInt8} {W:World} (h:RpSt w b bw Ds bs W):bw+3≤W.heap.size:=lt_of_block h.fn
theorem RpSt.keep {w:World} {b bw:Nat} {Ds:List Nat} {bs:List UInt8} {W W':World} (h:RpSt w b bw Ds bs W) (hb:Below W.heap.size W W'):RpSt w b bw Ds bs W':=
 ⟨h.below.trans (hb.mono (by have:=h.size;omega)),zes hb h.box,zci h.bld hb,zes hb h.fn,fun D hD=>zes hb (h.ds D hD)⟩
theorem RpSt.line {w:World} {b bw:Nat} {Ds:List Nat} {bs bs':List UInt8} {W W':World} (h:RpSt w b bw Ds bs W) (hb:Below (bw+1) W W') (hf:FrB (bw+1) W W') (hi:Lib.IsBuilder 151 5 (bw+1) (bw+1) (Lib.byteCells bs') W'):RpSt w b bw Ds bs' W':=
 ⟨h.below.trans (hb.mono (by omega)),hf _ _ h.box (by omega) (fun cs e=>by simp at e),hi,hf _ _ h.fn (by omega) (fun cs e=>by simp at e),fun D hD=>hf _ _ (h.ds D hD) (fun e=>by
  have h1:=h.ds D hD
  rcases h.bld with ⟨_,v,h2,_⟩ | ⟨_,v,h2,_⟩ <;> (rw [e,h2] at h1;cases h1)) (fun cs e=>by simp at e)⟩
theorem RpSt.grown {w:World} {b bw:Nat} {Ds:List Nat} {bs:List UInt8} {W W':World} {row:Option Nat} (h:RpSt w b bw Ds bs W) (hg:W.grownBy W' row) (hr:∀ r,row=some r→bw≤r∧(∀ D∈Ds,D<r)∧∃ o:Obj,W.heap[r]?=some o∧o.isCells=false):RpSt w b bw Ds bs W':=by
 have kc:∀ (k:Nat) (cur:Array Value) (t:TypeId),W.heap[k]?=some (.cells cur t (0,0))→W'.heap[k]?=some (.cells cur t (0,0)):=fun k cur t hb=>(hg.block k (Array.getElem?_eq_some_iff.1 hb).1 (fun e=>by
  obtain ⟨_,_,o,ho,hc⟩:=hr k e.symm
  rw [hb] at ho
  cases ho
  simp [Obj.isCells] at hc)).trans hb
 refine ⟨h.below.grown hg (by have:=h.size;omega) (fun k e=>(hr k e).1),kc _ _ _ h.box,?_,kc _ _ _ h.fn,fun D hD=>(hg.block D (lt_of_block (h.ds D hD)) (fun e=>by have:=(hr D e.symm).2.1 D hD;omega)).trans (h.ds D hD)⟩
 rcases h.bld with ⟨h1,v,h2,h3,h4⟩ | ⟨h1,v,h2,h3,h4⟩
 · exact .inl ⟨h1,v,kc _ _ _ h2,zbc h3 (fun k cur hk=>(kc _ _ _ hk).trans hk.symm),h4⟩
 · exact .inr ⟨h1,v,kc _ _ _ h2,zbc h3 (fun k cur hk=>(kc _ _ _ hk).trans hk.symm),h4⟩
theorem RpSt.call {w:World} {b bw:Nat} {Ds:List Nat} {bs:List UInt8} {W W9:World} (h:RpSt w b bw Ds bs W) (hb:Below W.heap.size W W9) (xs:List ByteArray) {g:Nat} (n:Nat) (hr:Rd W9 W9.heap.size (some ⟨g,0,none⟩) (strCells xs)) (hn:xs.length=n) (h9:n≤1000) (bs':List UInt8)
 (e:bs++(Lib.join (xs.map (·.data.toList)) [32]++[10])=bs') (hs:bs'.length≤1000000):Calls Tryz.prog 54 #[.slice (some ⟨g,0,none⟩) n n,.pointer (some ⟨bw+1,0,none⟩)] W9 fun e w'=>e=.returned (.tuple #[])∧RpSt w b bw Ds bs' w'∧Below (bw+1) W9 w'∧FrB (bw+1) W9 w':=by
 have h1:=h.keep hb
 have hl:bs.length+(Lib.join (xs.map (·.data.toList)) [32]).length+1≤1000000:=by
  have:=congrArg List.length e
  rw [List.length_append,List.length_append] at this
  simp only [List.length_singleton] at this
  omega
 have LN:=line_any W9 (some ⟨g,0,none⟩) n xs W9.heap.size (bw+1) (bw+1) bs hr (Nat.le_refl _) (by omega) (by omega) h1.bld (by have:=h1.size;omega) hl
 rw [hn,e] at LN
 exact LN.mono fun _ _ ⟨he,hi,hb',hf⟩=>⟨he,h1.line hb' hf hi,hb',hf⟩
theorem keepsFrom_fr {b B:Nat} {W W':World} (hf:FrB b W W') (hs:W.heap.size≤W'.heap.size) (hB:b<B):KeepsFrom B W W':=⟨hs,fun k o hk ho hc=>hf k o ho (by omega) (fun cs e=>by subst e;simp [Obj.isCells] at hc)⟩
theorem zc8 {B:Nat} {W W':World} (h:Below W.heap.size W W'):KeepsFrom B W W':=⟨h.size,fun _ _ _ ho _=>zes h ho⟩
theorem RpSt.mark {w:World} {b bw D:Nat} {Ds:List Nat} {bs:List UInt8} {W:World} (h:RpSt w b bw Ds bs W) (hK:W.heap[D]?=some (.deferred (some []))):RpSt w b bw (D :: Ds) bs W:=⟨h.below,h.box,h.bld,h.fn,fun E hE=>by
 rcases List.mem_cons.1 hE with rfl | hE
 · exact hK
 · exact h.ds E hE⟩
def tx1:List UInt8:=[100,97,121,32,51,10]
def cT2:List UInt8:=[100,97,121,32,51,10,108,111,99,107,32,48,32,48,32,49,58,48,32,45,10]
def cT3:List UInt8:=[100,97,121,32,51,10,108,111,99,107,32,48,32,48,32,49,58,48,32,45,10,112,108,97,99,101,32,116,32,49,49,48,48,32,49,49,57,57,32,51,10]
def tx4:List UInt8:=[100,97,121,32,51,10,108,111,99,107,32,48,32,48,32,49,58,48,32,45,10,112,108,97,99,101,32,116,32,49,49,48,48,32,49,49,57,57,32,51,10,119,111,114,107,115,32,98,10]
theorem itoa_K:ba (Lib.itoa 3)=⟨#[51]⟩∧ba (Lib.itoa 1100)=⟨#[49,49,48,48]⟩∧ba (Lib.itoa 1199)=⟨#[49,49,57,57]⟩:=by decide +kernel
theorem stTx_K {q:LsV} (h:StQ 4 q):stTx q=⟨#[48,32,48,32,49,58,48,32,45]⟩:=by
 obtain ⟨h1,h2,h3⟩:=h
 obtain ⟨t0,t1,ht,e0,e1⟩:=zlc (q:=q) (a:=([0],1)) (b:=([],0)) h3
 have a0:t0.chain=[0]:=congrArg Prod.fst e0
 have a1:t0.under=1:=congrArg Prod.snd e0
 have b0:t1.chain=[]:=congrArg Prod.fst e1
 have b1:t1.under=0:=congrArg Prod.snd e1
 have c0:zj3 t0=⟨#[49,58,48]⟩:=by rw [zj3,a0,a1];decide +kernel
 have c1:zj3 t1=⟨#[45]⟩:=by rw [zj3,b0,b1];rfl
 have e3:q.trs.map zj3=[⟨#[49,58,48]⟩,⟨#[45]⟩]:=by
  rw [ht]
  show [zj3 t0,zj3 t1]=_
  rw [c0,c1]
 rw [stTx,stTs,h1,h2,e3]
 decide +kernel
theorem st_ranges {q:LsV} (h:StQ 4 q):(-9223372036854775808≤q.ctr∧q.ctr≤9223372036854775807)∧∀ t∈q.trs,(-9223372036854775808≤t.under∧t.under≤9223372036854775807)∧∀ x∈t.chain,-9223372036854775808≤x∧x≤9223372036854775807:=by
 obtain ⟨h1,h2,h3⟩:=h
 obtain ⟨t0,t1,ht,e0,e1⟩:=zlc (q:=q) (a:=([0],1)) (b:=([],0)) h3
 have a0:t0.chain=[0]:=congrArg Prod.fst e0
 have a1:t0.under=1:=congrArg Prod.snd e0
 have b0:t1.chain=[]:=congrArg Prod.fst e1
 have b1:t1.under=0:=congrArg Prod.snd e1
 rw [h2,ht]
 refine ⟨by decide,fun t hm=>?_⟩
 rcases List.mem_cons.1 hm with rfl | hm
 · rw [a0,a1];decide
 · obtain rfl:=List.mem_singleton.1 hm
   rw [b0,b1];decide
end Go.Proofs.YtoodbfkbbchjiaaGreatDoor
namespace Go.Proofs.YtoodbfkbbchjiaaGreatDoor
open Go.RowKit
theorem frB_freeze {b g:Nat} {W W':World} {cur:Array Value} (hf:FrB b W W') (hg:W'.heap[g]?=some (.cells cur 5 (0,0))) (n:Nat) (hgw:∃ c0,W.heap[g]?=some (.cells c0 5 (0,0))):FrB b W (W'.freeze ⟨g,0,none⟩ n):=fun k o h1 h2 h3=>by
 have h4:=hf k o h1 h2 h3
 have hne:k≠g:=fun e=>by
  subst e
  obtain ⟨c0,h5⟩:=hgw
  rw [h1] at h5
  exact h3 c0 (Option.some.inj h5)
 unfold World.freeze
 split
 · exact h4
 · simp only [Array.getElem?_modify]
   rw [if_neg (fun e=>hne e.symm)]
   exact h4
theorem String_fr (B b:Nat) (l:List UInt8) (w:World) (h:Lib.IsBuilder 151 5 B b (Lib.byteCells l) w) (h0:l≠[]):Calls Tryz.prog 64 #[.pointer (some ⟨b,0,none⟩)] w fun e w'=>e=.returned (.string ⟨l.toArray⟩)∧Below B w w'∧FrB b w w':=by
 obtain ⟨p,hB,v,hbk,hown,hne⟩:∃ p,Lib.BuilderAt 151 5 B b p (Lib.byteCells l) w:=by
  rcases h with h | h
  · exact ⟨_,h⟩
  · exact ⟨_,h⟩
 have hl0:l.length≠0:=by simpa using h0
 rw [Lib.byteCells_length] at hown
 obtain ⟨g,cap,cur,rfl,hbg,hg,hnc,hcm,hcs,htake⟩:∃ g cap cur,v=.slice (some ⟨g,0,none⟩) l.length cap∧B≤g∧w.heap[g]?=some (.cells cur 5 (0,0))∧l.length≤cap∧cap≤maxLen∧cur.size=cap * 1∧cur.toList.take (l.length * 1)=Lib.byteCells l:=by
  rcases hown.2 with ⟨_,hz⟩ | ⟨g,cap,cur,hv,r⟩
  · exact absurd hz hl0
  · exact ⟨g,cap,cur,hv,r⟩
 have hSD:(Builtin.unsafeSliceData_ #[149] 228 #[.slice (some ⟨g,0,none⟩) l.length cap]).run Tryz.prog w.drew=.ok (.pointer (some ⟨g,0,none⟩)) w.drew:=
  Lib.run_unsafeSliceData_row _ _ _ _ _ _ (by omega)
 have hUS:(Builtin.unsafeString_ #[228,3] 9 #[.pointer (some ⟨g,0,none⟩),.int .i64 l.length]).run Tryz.prog w.drew=.ok (.string ⟨l.toArray⟩) (w.drew.freeze ⟨g,0,none⟩ l.length):=by
  refine Lib.run_unsafeString_row w.drew 228 3 9 5 Tryz.underlying228 (by kernel_rfl) g cur.size (by have hg':w.drew.heap[g]?=some (.cells cur 5 (0,0)):=hg;simp [World.shape?,hg']) l h0 (by omega) (by unfold maxLen at hcm;omega) ?_
  intro j x hx
  have:=hown.cells (g:=g) rfl j (.int .u8 x.toNat) (by simp [Lib.byteCells,hx])
  exact this
 have c1:=(cell_of_row w.drew b 1 _ _ _ hbk).trans (by rfl:_=some (.slice (some ⟨g,0,none⟩) l.length cap))
 have mixed:Tryz.prog.follows .mixedOrders=true:=by kernel_rfl
 have hd:Below B w w.drew:=(Below.refl _ _).drew
 have HF:=Lib.hid (frB_freeze (b:=b) (W:=w) (W':=w.drew) (g:=g) (fun _ _ h _ _=>h) hg l.length ⟨_,hg⟩)
 have HBL:=Lib.hid (Lib.below_freeze hd (p:=⟨g,0,none⟩) hbg l.length)
 clear hg hown hcs htake hbk hd
 go_enter Tryz.func64,Tryz.ntmps64
 go_upto_region 1 with (fail)
 go_wp2
 go_region_o
 all_goals (go_wp2;go_ret;exact ⟨rfl,HBL.out,HF.out⟩)
end Go.Proofs.YtoodbfkbbchjiaaGreatDoor
namespace Go.Proofs.YtoodbfkbbchjiaaGreatDoor
theorem zjq {α β:Type} (k:α→β) (f:List α→α→Int) (g:List β→β→Int) (hf:∀ pre x,f pre x=g (pre.map k) (k x)):∀ (l pre:List α),za2 f pre l=za2 g (pre.map k) (l.map k)
 | [],_=>rfl
 | x :: l,pre=>by
  rw [za2,List.map_cons,za2,hf,zjq k f g hf l,List.map_append]
  rfl
theorem zk0 {α β:Type} (k:α→β) (f:List α→α→Int) (g:List β→β→Int) (hf:∀ pre x,f pre x=g (pre.map k) (k x)) {l l':List α} (h:l'.map k=l.map k):za2 f [] l'=za2 f [] l:=by
 rw [zjq k f g hf,zjq k f g hf,h]
def rtK (m:Nat) (sws:List Sw) (pre:List (ByteArray × List Int × List Int)) (r:ByteArray × List Int × List Int):Int:=zam [zag (za3 r.1) 4,zag (!zcu (pre.map (·.1)) r.1) 5,rtE1 m sws ⟨r.1,⟨none,0,0⟩,r.2.1,⟨none,0,0⟩,r.2.2⟩]
theorem rtE_key (m:Nat) (sws:List Sw) (pre:List RtV) (r:RtV):rtE m sws pre r=rtK m sws (pre.map RtV.key) (RtV.key r):=by
 unfold rtE rtK
 rw [List.map_map]
 rfl
def tnK (m:Nat) (pre:List (ByteArray × Int × Int × List (Int × Int))) (r:ByteArray × Int × Int × List (Int × Int)):Int:=zam [zag (za3 r.1) 4,zag (!zcu (pre.map (·.1)) r.1) 5,trE m ⟨r.1,r.2.1,r.2.2.1,⟨none,0,0⟩,r.2.2.2⟩]
theorem tnE_key (m:Nat) (pre:List TnV) (r:TnV):tnE m pre r=tnK m (pre.map TnV.key) (TnV.key r):=by
 unfold tnE tnK
 rw [List.map_map]
 rfl
theorem zf0 {α β:Type} {k:α→β} {l l':List α} (h:l'.map k=l.map k):l'.length=l.length:=by
 have:=congrArg List.length h
 simpa using this
theorem zji {h q:HouseV} (e:h.like q):zcg q=zcg h:=by
 obtain ⟨e1,e2,e3,e4,e5,e6,e7,e8,e9,e10,e11,e12,e13,e14,e15⟩:=e
 have p:zb7 q.plant=zb7 h.plant:=by
  unfold zb7
  rw [e1,e2,e3,zf0 e4,zk0 RtV.key _ (rtK h.plant.secs.length h.plant.sws) (rtE_key _ _) e4]
 have f:zfp q.net=zfp h.net:=by
  unfold zfp
  rw [e5,e6,zf0 e7,zk0 TnV.key _ (tnK h.net.fss.length) (tnE_key _) e7]
 have v:zj2 q.vanes=zj2 h.vanes:=by
  rw [← e8]
  rfl
 unfold zcg
 rw [p,f,v,e9,e10,e11,e12,e13,e14,e15]
theorem mem_like {α β:Type} {k:α→β} {l l':List α} (h:l'.map k=l.map k) {P:β→Prop} (hp:∀ x∈l,P (k x)):∀ x∈l',P (k x):=by
 intro x hx
 have h1:k x∈l.map k:=by rw [← h];exact List.mem_map_of_mem hx
 obtain ⟨y,hy,he⟩:=List.mem_map.1 h1
 rw [← he]
 exact hp y hy
theorem zjx {h q:HouseV} (e:h.like q) (s:HouseS h):HouseS q:=by
 obtain ⟨e1,e2,e3,e4,e5,e6,e7,e8,e9,e10,e11,e12,e13,e14,e15⟩:=e
 refine ⟨⟨by rw [e1];exact s.plant.secs,by rw [e2];exact s.plant.trains,by rw [e3];exact s.plant.sws,by rw [zf0 e4];exact s.plant.rts.1,?_⟩,⟨by rw [e5];exact s.net.sts,by rw [e6];exact s.net.fss,by rw [zf0 e7];exact s.net.tns.1,?_⟩,?_,by rw [e9];exact s.tn,by rw [e10];exact s.pcs,by rw [e12];exact s.evs,by rw [e13];exact s.acts,by rw [e14];exact s.masts,by rw [e15];exact s.people⟩
 · exact mem_like (P:=fun x=>x.1.size≤1000∧x.2.1.length≤1000∧x.2.2.length≤1000) e4 s.plant.rts.2
 · exact mem_like (P:=fun x=>x.1.size≤1000∧x.2.2.2.length≤1000) e7 s.net.tns.2
 · have h1:q.vanes.vanes=h.vanes.vanes:=by rw [← e8]
   rw [h1]
   exact s.vanes
end Go.Proofs.YtoodbfkbbchjiaaGreatDoor
