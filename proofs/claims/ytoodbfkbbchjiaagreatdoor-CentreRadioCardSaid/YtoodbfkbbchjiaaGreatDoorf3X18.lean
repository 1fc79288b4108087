import Derived.Test.YtoodbfkbbchjiaaGreatDoorf3X15
set_option maxRecDepth 100000
set_option maxHeartbeats 16000000
namespace Go.Proofs.YtoodbfkbbchjiaaGreatDoor
open Go.RowKit
def ApPost (w:World) (p:PlantV) (q:LsV) (ch:List Int) (un:Int) (e:Ending) (w':World):Prop:=
 ∃ b A c sl,e=.returned (.tuple #[.pointer (some ⟨b,0,none⟩),.int .i64 0])∧w.heap.size≤b∧LnAt w' w'.heap.size b p (zfj q A c ⟨sl,ch,un⟩)∧Below w.heap.size w w'
theorem apply0_ok (w:World) (B b:Nat) (p:PlantV) (q:LsV) (t:LtV) (s:Int) (h:LnAt w B b p q) (hS:LsS q) (hi:q.trs[0]?=some t) (hc:t.chain=[]) (htk:zgp q [s]=false) (hB:B≤w.heap.size) :
 Calls Tryz.prog 266 #[.pointer (some ⟨b,0,none⟩),.agg #[.int .i64 0,.int .i64 0,.int .i64 s]] w (ApPost w p q [s] 1):=by
 have hb0:=hB1 w (.cells #[.int .i64 0,.int .i64 0,.int .i64 s] 295)
 have k0:=hA1 w (.cells #[.int .i64 0,.int .i64 0,.int .i64 s] 295)
 have hs:=hS1 w (.cells #[.int .i64 0,.int .i64 0,.int .i64 s] 295)
 have hlt:0<q.tr.n:=by rw [← h.st.trs.1];exact (List.getElem?_eq_some_iff.1 hi).1
 have htn:q.tr.n≤1000:=by rw [← h.st.trs.1];exact hS.1
 obtain ⟨bb,off,hA,hbB,z0,z1⟩:=Rd.lt (h.keep hb0).st.trs.2 hi
 have hsn:=(h.st.t t (List.mem_of_getElem? hi)).1
 rw [hc] at hsn
 obtain ⟨⟨tA,tn,tc⟩,ch,un⟩:=t
 simp only at hsn hc z0 z1
 obtain rfl:0=tn:=by simpa using hsn
 rw [Nat.zero_mul,Nat.add_zero] at z0 z1
 have HH:=Lib.hid (h.keep hb0)
 have HB:=Lib.hid hb0
 clear hb0 h hi hc hsn
 go_enter Tryz.func266,Tryz.ntmps266
 go_upto_region 1 with (fail)
 generalize w.alloc (.cells #[.int .i64 0,.int .i64 0,.int .i64 s] 295)=w0 at *
 generalize hbw:w.heap.size=bw at *
 have HBW:=Lib.hid hbw
 clear hbw
 obtain ⟨e0,e1,e2⟩:_∧_∧_:=zba k0
 obtain ⟨_,_,_,_,_,d5,_⟩:_∧_∧_∧_∧_∧_∧_:=zdc HH.out.blk
 simp only [SlV.v,hA] at d5
 go_upto_region 8 with (fail)
 have x0:=fun y:Xt w0=>y.cell e1
 have x1:=fun y:Xt w0=>y.cell d5
 have x2:=fun y:Xt w0=>y.cell z0
 have x3:=fun y:Xt w0=>y.cell z1
 refine zak [10] (fun w'=>∃ y:Xt w0,w'=y.1) (by kernel_rfl) ⟨⟨w0.drew,(Below.refl _ _).drew⟩,rfl⟩ ?_
 refine zao [0,1,2,3,4,5,6,7,8] 2 rfl (by kernel_rfl) ?_
 simp only [zad,zac,zaa,zX1,zX2,zX3]
 repeat (go_big_quiet_step (fail))
 refine wpQuiet_nil ?_
 have hbd:Below w0.heap.size w0 w0.drew:=(Below.refl _ _).drew
 show wpE _ _ _ _ _ _ _ _ _ w0.drew
 generalize w0.drew=wd at *
 clear x0 x1 x2 x3 d5 z0 z1 e0 e1 e2
 refine zan (i:=9) rfl (by kernel_rfl) rfl ?_
 unfold zar
 simp only [zad,zac,zaa,zX1,zX2,zX3]
 go_wp2
 have hbn:=hB1 wd (.cells #[.slice none 0 0,.int .i64 0] 224)
 have k3:=hA1 wd (.cells #[.slice none 0 0,.int .i64 0] 224)
 have hsd:=hbd.size
 have hbe:=hbd.trans (hbn.mono hsd)
 refine zab ⟨⟨⟨_,hbe⟩,rfl⟩,?_⟩
 generalize wd.alloc (.cells #[.slice none 0 0,.int .i64 0] 224)=w2 at *
 generalize wd.heap.size=y at *
 refine zau rfl (by kernel_rfl) ?_
 simp only [zad,zac,zaa,zX1,zX2,zX3]
 refine wpList_store_row rfl 224 _ _ rfl y #[.slice tA 0 tc,.int .i64 un] rfl rfl 224 _ k3 (by kernel_rfl) rfl (by kernel_rfl) ?_
 go_wp2
 refine zab ?_
 have k4:=setRow_heap w2 y _ #[.slice tA 0 tc,.int .i64 un] 224 (0,0) k3
 have hb4:Below w0.heap.size w0 (w2.setRow y #[.slice tA 0 tc,.int .i64 un]):=below_setRow hbe hsd _
 clear hbn k3 hbe hbd
 change Exit.then _ _ Exit.normal _ (w2.setRow y #[.slice tA 0 tc,.int .i64 un])
 generalize w2.setRow y #[.slice tA 0 tc,.int .i64 un]=w4 at *
 obtain ⟨f0,f1⟩:_∧_:=zaz k4
 obtain ⟨e0,e1,e2⟩:_∧_∧_:=zba (blk hb4 k0)
 have HLN:=Lib.hid (HH.out.keep hb4)
 have HB4:=Lib.hid (HB.out.trans (hb4.mono (by omega)))
 have hs4:=Nat.le_trans hs hb4.size
 clear hb4 k0 HH hA
 go_upto_region 11 with (fail)
 have x2:=fun y:Xt w4=>y.cell e2
 refine zak [12] (fun w'=>∃ y:Xt w4,w'=y.1) (by kernel_rfl) ⟨⟨w4.drew,(Below.refl _ _).drew⟩,rfl⟩ ?_
 refine zao [0,1,3,4,5] 8 rfl (by kernel_rfl) ?_
 simp only [zad,zac,zaa,zX1,zX2,zX3]
 repeat (go_big_quiet_step (fail))
 refine wpQuiet_nil ?_
 have hb5:Below w4.heap.size w4 w4.drew:=(Below.refl _ _).drew
 show wpE _ _ _ _ _ _ _ _ _ w4.drew
 generalize w4.drew=w5 at *
 clear x2
 have hbn:=hB1 w5 (.cells #[.int .i64 s] 3)
 have hb6:=hb5.trans (hbn.mono hb5.size)
 have k6:=hA1 w5 (.cells #[.int .i64 s] 3)
 have TK:=taken_any (w5.alloc (.cells #[.int .i64 s] 3)) B b p q (some ⟨w5.heap.size,0,none⟩) 1 1 [s] (HLN.out.keep hb6) hS (by have:=hb6.size;omega) rfl (by decide) (zbq (cs:=#[.int .i64 s]) k6)
 rw [htk] at TK
 have U0:=fun e W=>zbt true e 0 rfl W
 clear htk hbn k6
 refine zk7 (i:=2) (k:=6) rfl (by kernel_rfl) rfl rfl ?_ ?_
 all_goals unfold zar
 all_goals simp only [zad,zac,zaa,zX1,zX2,zX3]
 · go_wp2_with (go_at_call 115;refine (U0 _ _).mono ?_;rintro e w' ⟨rfl,rfl⟩)
   refine zab ⟨⟨⟨_,hb5⟩,rfl⟩,?_⟩
   refine zan (i:=6) rfl (by kernel_rfl) rfl ?_
   unfold zar
   simp only [zad,zac,zaa,zX1,zX2,zX3]
   go_wp2
   refine zab ⟨⟨⟨_,hb6⟩,rfl⟩,?_⟩
   generalize w5.alloc (.cells #[.int .i64 s] 3)=w6 at *
   refine zan (i:=7) rfl (by kernel_rfl) rfl ?_
   unfold zar
   simp only [zad,zac,zaa,zX1,zX2,zX3]
   go_wp2_with (go_at_call 326;refine TK.mono ?_;rintro e w7 ⟨rfl,hb7⟩)
   have hb8:=hb6.trans (hb7.mono hb6.size)
   refine zab ⟨⟨⟨_,hb8⟩,rfl⟩,?_⟩
   refine zan (i:=8) rfl (by kernel_rfl) rfl ?_
   unfold zar
   simp only [zad,zac,zaa,zX1,zX2,zX3]
   go_wp2
   refine zab ⟨⟨⟨_,hb8⟩,rfl⟩,?_⟩
   refine zan (i:=9) rfl (by kernel_rfl) rfl ?_
   unfold zar
   simp only [zad,zac,zaa,zX1,zX2,zX3]
   go_wp2_with (go_at_call 115;refine (U0 _ _).mono ?_;rintro e w' ⟨rfl,rfl⟩)
   refine zab ⟨⟨⟨_,hb8⟩,rfl⟩,?_⟩
   refine zan (i:=10) rfl (by kernel_rfl) rfl ?_
   unfold zar
   simp only [zad,zac,zaa,zX1,zX2,zX3]
   go_wp2
   have hbm:=hB1 w7 (.cells #[.int .i64 0,.int .i64 0] 60)
   have hb9:=hb8.trans (hbm.mono hb8.size)
   refine zab ⟨⟨⟨_,hb9⟩,rfl⟩,?_⟩
   refine zan (i:=11) rfl (by kernel_rfl) rfl ?_
   unfold zar
   simp only [zad,zac,zaa,zX1,zX2,zX3]
   go_wp2_with (go_at_call 114;refine (zg1 _).mono ?_;rintro e w' ⟨rfl,rfl⟩)
   refine zab ⟨⟨⟨_,hb9⟩,rfl⟩,?_⟩
   refine zau rfl (by kernel_rfl) ?_
   simp only [zad,zac,zaa,zX1,zX2,zX3]
   clear hb8 hbm hb7 TK hb5 hb6
   replace e0:=zat hb9 e0
   replace e1:=zat hb9 e1
   replace e2:=zat hb9 e2
   replace HLN:=Lib.hid (HLN.out.keep hb9)
   replace HB4:=Lib.hid (HB4.out.trans (hb9.mono (by omega)))
   replace hs4:=Nat.le_trans hs4 hb9.size
   clear hb9
   generalize w7.alloc (.cells #[.int .i64 0,.int .i64 0] 60)=w9 at *
   go_wp2
   refine zab ?_
   have hbq:=hB1 w9 (.cells #[.int .i64 s] 3)
   have kq:=hA1 w9 (.cells #[.int .i64 s] 3)
   have NX:=next_ok (w9.alloc (.cells #[.int .i64 s] 3)) B b p q ⟨⟨some ⟨w9.heap.size,0,none⟩,1,1⟩,[s],1⟩ (HLN.out.keep hbq) hlt htn ⟨rfl,zbq (cs:=#[.int .i64 s]) kq⟩ (Nat.le_refl 1) (by have:=hbq.size;omega)
   have HBQ:=Lib.hid (HB4.out.trans (hbq.mono (by omega)))
   have hsq:=hbq.size
   clear hbq kq U0
   go_wp2_with (go_at_call 327;refine NX.mono ?_;rintro e wz ⟨bz,Az,cz,rfl,hgz,hLz,hbz⟩)
   go_ret2
   exact ⟨bz,Az,cz,_,rfl,by rw [HBW.out];omega,hLz,by rw [HBW.out];exact HBQ.out.trans (hbz.mono (by omega))⟩
 · go_wp2
   refine zab ⟨⟨⟨_,hb6⟩,rfl⟩,?_⟩
   refine zan (i:=2) rfl (by kernel_rfl) rfl ?_
   unfold zar
   simp only [zad,zac,zaa,zX1,zX2,zX3]
   go_wp2_with (go_at_call 115;refine (U0 _ _).mono ?_;rintro e w' ⟨rfl,rfl⟩)
   refine zab ⟨⟨⟨_,hb6⟩,rfl⟩,?_⟩
   generalize w5.alloc (.cells #[.int .i64 s] 3)=w6 at *
   refine zan (i:=7) rfl (by kernel_rfl) rfl ?_
   unfold zar
   simp only [zad,zac,zaa,zX1,zX2,zX3]
   go_wp2_with (go_at_call 326;refine TK.mono ?_;rintro e w7 ⟨rfl,hb7⟩)
   have hb8:=hb6.trans (hb7.mono hb6.size)
   refine zab ⟨⟨⟨_,hb8⟩,rfl⟩,?_⟩
   refine zan (i:=8) rfl (by kernel_rfl) rfl ?_
   unfold zar
   simp only [zad,zac,zaa,zX1,zX2,zX3]
   go_wp2
   refine zab ⟨⟨⟨_,hb8⟩,rfl⟩,?_⟩
   refine zan (i:=9) rfl (by kernel_rfl) rfl ?_
   unfold zar
   simp only [zad,zac,zaa,zX1,zX2,zX3]
   go_wp2_with (go_at_call 115;refine (U0 _ _).mono ?_;rintro e w' ⟨rfl,rfl⟩)
   refine zab ⟨⟨⟨_,hb8⟩,rfl⟩,?_⟩
   refine zan (i:=10) rfl (by kernel_rfl) rfl ?_
   unfold zar
   simp only [zad,zac,zaa,zX1,zX2,zX3]
   go_wp2
   have hbm:=hB1 w7 (.cells #[.int .i64 0,.int .i64 0] 60)
   have hb9:=hb8.trans (hbm.mono hb8.size)
   refine zab ⟨⟨⟨_,hb9⟩,rfl⟩,?_⟩
   refine zan (i:=11) rfl (by kernel_rfl) rfl ?_
   unfold zar
   simp only [zad,zac,zaa,zX1,zX2,zX3]
   go_wp2_with (go_at_call 114;refine (zg1 _).mono ?_;rintro e w' ⟨rfl,rfl⟩)
   refine zab ⟨⟨⟨_,hb9⟩,rfl⟩,?_⟩
   refine zau rfl (by kernel_rfl) ?_
   simp only [zad,zac,zaa,zX1,zX2,zX3]
   clear hb8 hbm hb7 TK hb5 hb6
   replace e0:=zat hb9 e0
   replace e1:=zat hb9 e1
   replace e2:=zat hb9 e2
   replace HLN:=Lib.hid (HLN.out.keep hb9)
   replace HB4:=Lib.hid (HB4.out.trans (hb9.mono (by omega)))
   replace hs4:=Nat.le_trans hs4 hb9.size
   clear hb9
   generalize w7.alloc (.cells #[.int .i64 0,.int .i64 0] 60)=w9 at *
   go_wp2
   refine zab ?_
   have hbq:=hB1 w9 (.cells #[.int .i64 s] 3)
   have kq:=hA1 w9 (.cells #[.int .i64 s] 3)
   have NX:=next_ok (w9.alloc (.cells #[.int .i64 s] 3)) B b p q ⟨⟨some ⟨w9.heap.size,0,none⟩,1,1⟩,[s],1⟩ (HLN.out.keep hbq) hlt htn ⟨rfl,zbq (cs:=#[.int .i64 s]) kq⟩ (Nat.le_refl 1) (by have:=hbq.size;omega)
   have HBQ:=Lib.hid (HB4.out.trans (hbq.mono (by omega)))
   have hsq:=hbq.size
   clear hbq kq U0
   go_wp2_with (go_at_call 327;refine NX.mono ?_;rintro e wz ⟨bz,Az,cz,rfl,hgz,hLz,hbz⟩)
   go_ret2
   exact ⟨bz,Az,cz,_,rfl,by rw [HBW.out];omega,hLz,by rw [HBW.out];exact HBQ.out.trans (hbz.mono (by omega))⟩
theorem apply1_ok (w:World) (B b:Nat) (p:PlantV) (q:LsV) (t:LtV) (s:Int) (r:RtV) (rest:List Int) (h:LnAt w B b p q) (hS:LsS q) (hi:q.trs[0]?=some t) (hc:t.chain=[s]) (hu:t.under=1) (hr:p.rts[0]?=some r) (hsec:r.secs=s :: rest) (hrl:rest.length≤900) (hr1:0<rest.length)
 (htk:zgp q rest=false) (hli:LiesOk p q r r.secs) (hp:p.ws.n≤1000) (hB:B≤w.heap.size) :
 Calls Tryz.prog 266 #[.pointer (some ⟨b,0,none⟩),.agg #[.int .i64 1,.int .i64 0,.int .i64 0]] w (ApPost w p q (s :: rest) 1):=by
 have hb0:=hB1 w (.cells #[.int .i64 1,.int .i64 0,.int .i64 0] 295)
 have k0:=hA1 w (.cells #[.int .i64 1,.int .i64 0,.int .i64 0] 295)
 have hs:=hS1 w (.cells #[.int .i64 1,.int .i64 0,.int .i64 0] 295)
 have hlt:0<q.tr.n:=by rw [← h.st.trs.1];exact (List.getElem?_eq_some_iff.1 hi).1
 have htn:q.tr.n≤1000:=by rw [← h.st.trs.1];exact hS.1
 obtain ⟨bb,off,hA,hbB,z0,z1⟩:=Rd.lt (h.keep hb0).st.trs.2 hi
 have hsn:=(h.st.t t (List.mem_of_getElem? hi)).1
 have hcr:=(h.st.t t (List.mem_of_getElem? hi)).2
 have htc:=h.st.cap.2.2 t (List.mem_of_getElem? hi)
 rw [hc] at hsn hcr
 obtain ⟨⟨tA,tn,tc⟩,ch,un⟩:=t
 simp only at hsn hc z0 z1 hu hcr htc
 subst hu
 obtain rfl:1=tn:=by simpa using hsn
 obtain ⟨cb,co,rfl,hcb,c0⟩:=hcr.at_ (k:=0) (u:=.int .i64 s) rfl
 rw [Nat.add_zero] at c0
 have HCR:=Lib.hid (hcr.keep hb0)
 replace c0:=zat hb0 c0
 rw [Nat.zero_mul,Nat.add_zero] at z0 z1
 have HH:=Lib.hid (h.keep hb0)
 have HB:=Lib.hid hb0
 clear hb0 h hi hc hsn
 go_enter Tryz.func266,Tryz.ntmps266
 go_upto_region 1 with (fail)
 generalize w.alloc (.cells #[.int .i64 1,.int .i64 0,.int .i64 0] 295)=w0 at *
 generalize hbw:w.heap.size=bw at *
 have HBW:=Lib.hid hbw
 clear hbw
 obtain ⟨e0,e1,e2⟩:_∧_∧_:=zba k0
 obtain ⟨_,_,_,_,_,d5,_⟩:_∧_∧_∧_∧_∧_∧_:=zdc HH.out.blk
 simp only [SlV.v,hA] at d5
 go_upto_region 8 with (fail)
 have x0:=fun y:Xt w0=>y.cell e1
 have x1:=fun y:Xt w0=>y.cell d5
 have x2:=fun y:Xt w0=>y.cell z0
 have x3:=fun y:Xt w0=>y.cell z1
 refine zak [10] (fun w'=>∃ y:Xt w0,w'=y.1) (by kernel_rfl) ⟨⟨w0.drew,(Below.refl _ _).drew⟩,rfl⟩ ?_
 refine zao [0,1,2,3,4,5,6,7,8] 2 rfl (by kernel_rfl) ?_
 simp only [zad,zac,zaa,zX1,zX2,zX3]
 repeat (go_big_quiet_step (fail))
 refine wpQuiet_nil ?_
 have hbd:Below w0.heap.size w0 w0.drew:=(Below.refl _ _).drew
 show wpE _ _ _ _ _ _ _ _ _ w0.drew
 generalize w0.drew=wd at *
 clear x0 x1 x2 x3 d5 z0 z1 e0 e1 e2
 refine zan (i:=9) rfl (by kernel_rfl) rfl ?_
 unfold zar
 simp only [zad,zac,zaa,zX1,zX2,zX3]
 go_wp2
 have hbn:=hB1 wd (.cells #[.slice none 0 0,.int .i64 0] 224)
 have k3:=hA1 wd (.cells #[.slice none 0 0,.int .i64 0] 224)
 have hsd:=hbd.size
 have hbe:=hbd.trans (hbn.mono hsd)
 refine zab ⟨⟨⟨_,hbe⟩,rfl⟩,?_⟩
 generalize wd.alloc (.cells #[.slice none 0 0,.int .i64 0] 224)=w2 at *
 generalize wd.heap.size=y at *
 refine zau rfl (by kernel_rfl) ?_
 simp only [zad,zac,zaa,zX1,zX2,zX3]
 refine wpList_store_row rfl 224 _ _ rfl y #[.slice (some ⟨cb,co,none⟩) 1 tc,.int .i64 1] rfl rfl 224 _ k3 (by kernel_rfl) rfl (by kernel_rfl) ?_
 go_wp2
 refine zab ?_
 have k4:=setRow_heap w2 y _ #[.slice (some ⟨cb,co,none⟩) 1 tc,.int .i64 1] 224 (0,0) k3
 have hb4:Below w0.heap.size w0 (w2.setRow y #[.slice (some ⟨cb,co,none⟩) 1 tc,.int .i64 1]):=below_setRow hbe hsd _
 clear hbn k3 hbe hbd
 change Exit.then _ _ Exit.normal _ (w2.setRow y #[.slice (some ⟨cb,co,none⟩) 1 tc,.int .i64 1])
 generalize w2.setRow y #[.slice (some ⟨cb,co,none⟩) 1 tc,.int .i64 1]=w4 at *
 obtain ⟨f0,f1⟩:_∧_:=zaz k4
 obtain ⟨e0,e1,e2⟩:_∧_∧_:=zba (blk hb4 k0)
 have HLN:=Lib.hid (HH.out.keep hb4)
 have HB4:=Lib.hid (HB.out.trans (hb4.mono (by omega)))
 have hs4:=Nat.le_trans hs hb4.size
 have HBX:=Lib.hid hb4
 clear hb4 k0 HH hA
 have U1:=fun W=>zbt false 12 12 rfl W
 replace c0:=zat HBX.out c0
 replace HCR:=Lib.hid (HCR.out.keep HBX.out)
 go_upto_region 20 with (go_at_call 115;refine (U1 _).mono ?_;rintro e w' ⟨rfl,rfl⟩)
 obtain ⟨rb,ro,hrA,hrb,g0,g1,g2⟩:=Rd.rt HLN.out.plant.rts.2 hr
 have hrlen:0<p.rs.n:=by rw [← HLN.out.plant.rts.1];exact (List.getElem?_eq_some_iff.1 hr).1
 obtain ⟨hrs1,hrs2⟩:=HLN.out.plant.rt r (List.mem_of_getElem? hr)
 have hrc:=HLN.out.plant.cap.2.2.2.2 r (List.mem_of_getElem? hr)
 rw [Nat.zero_mul,Nat.add_zero] at g0 g1 g2
 obtain ⟨_,_,_,d3,_,_,_⟩:_∧_∧_∧_∧_∧_∧_:=zdc HLN.out.blk
 simp only [SlV.v,hrA] at d3
 have x0:=fun y:Xt w4=>y.cell e2
 have x1:=fun y:Xt w4=>y.cell d3
 have x2:=fun y:Xt w4=>y.cell g0
 have x3:=fun y:Xt w4=>y.cell g1
 have x4:=fun y:Xt w4=>y.cell g2
 refine zak [10] (fun w'=>∃ y:Xt w4,w'=y.1) (by kernel_rfl) ⟨⟨w4.drew,(Below.refl _ _).drew⟩,rfl⟩ ?_
 refine zao [0,1,2,3,4,5,6,7,8] 2 rfl (by kernel_rfl) ?_
 simp only [zad,zac,zaa,zX1,zX2,zX3]
 repeat (go_big_quiet_step (fail))
 refine wpQuiet_nil ?_
 have hbd:Below w4.heap.size w4 w4.drew:=(Below.refl _ _).drew
 show wpE _ _ _ _ _ _ _ _ _ w4.drew
 generalize w4.drew=wd at *
 clear x0 x1 x2 x3 x4 d3 g0 g1 g2
 refine zan (i:=9) rfl (by kernel_rfl) rfl ?_
 unfold zar
 simp only [zad,zac,zaa,zX1,zX2,zX3]
 go_wp2
 have hbn:=hB1 wd (.cells #[.string ⟨#[]⟩,.slice none 0 0,.slice none 0 0] 78)
 have k5:=hA1 wd (.cells #[.string ⟨#[]⟩,.slice none 0 0,.slice none 0 0] 78)
 have hsd5:=hbd.size
 have hbe:=hbd.trans (hbn.mono hsd5)
 refine zab ⟨⟨⟨_,hbe⟩,rfl⟩,?_⟩
 generalize wd.alloc (.cells #[.string ⟨#[]⟩,.slice none 0 0,.slice none 0 0] 78)=w5 at *
 generalize wd.heap.size=y5 at *
 refine zau rfl (by kernel_rfl) ?_
 simp only [zad,zac,zaa,zX1,zX2,zX3]
 refine wpList_store_row rfl 78 _ _ rfl y5 #[.string r.nm,.slice r.s.A r.s.n r.s.c,.slice r.d.A r.d.n r.d.c] rfl rfl 78 _ k5 (by kernel_rfl) rfl (by kernel_rfl) ?_
 go_wp2
 refine zab ?_
 have k6:=setRow_heap w5 y5 _ #[.string r.nm,.slice r.s.A r.s.n r.s.c,.slice r.d.A r.d.n r.d.c] 78 (0,0) k5
 have hb6:Below w4.heap.size w4 (w5.setRow y5 #[.string r.nm,.slice r.s.A r.s.n r.s.c,.slice r.d.A r.d.n r.d.c]):=below_setRow hbe hsd5 _
 clear hbn k5 hbe hbd
 change Exit.then _ _ Exit.normal _ (w5.setRow y5 #[.string r.nm,.slice r.s.A r.s.n r.s.c,.slice r.d.A r.d.n r.d.c])
 generalize w5.setRow y5 #[.string r.nm,.slice r.s.A r.s.n r.s.c,.slice r.d.A r.d.n r.d.c]=w6 at *
 rw [hsec] at hrs1
 obtain ⟨hrn,hrr⟩:=hrs1
 obtain ⟨sb,so,hsA,hsb,s0⟩:=(hrr.keep hb6).at_ (k:=0) (u:=.int .i64 s) rfl
 rw [Nat.add_zero] at s0
 replace c0:=zat hb6 c0
 replace HCR:=Lib.hid (HCR.out.keep hb6)
 obtain ⟨m,hm⟩:∃ m,rest.length=m:=⟨_,rfl⟩
 have hrn2:r.s.n=m+1:=by rw [← hrn,← hm];rfl
 replace HLN:=Lib.hid (HLN.out.keep hb6)
 replace HB4:=Lib.hid (HB4.out.trans (hb6.mono (by omega)))
 replace hs4:=Nat.le_trans hs4 hb6.size
 obtain ⟨f0,f1⟩:_∧_:=zaz (blk hb6 k4)
 obtain ⟨e0,e1,e2⟩:_∧_∧_:=⟨zat hb6 e0,zat hb6 e1,zat hb6 e2⟩
 obtain ⟨g0,g1,g2⟩:_∧_∧_:=zba k6
 rw [hsA,hrn2] at g1
 have hc2:1≤r.s.c:=by omega
 have HB6X:=Lib.hid hb6
 clear hb6
 have hc9:¬ r.s.c=1:=by omega
 go_upto_region 22 with (fail)
 have x0:=fun y:Xt w6=>y.cell g0
 have x1:=fun y:Xt w6=>y.cell g1
 have x2:=fun y:Xt w6=>y.cell g2
 have x3:=fun y:Xt w6=>y.cell s0
 have x4:=fun y:Xt w6=>y.cell f0
 have x5:=fun y:Xt w6=>y.cell c0
 refine zak [25] (fun w'=>∃ y:Xt w6,w'=y.1) (by kernel_rfl) ⟨⟨w6.drew,(Below.refl _ _).drew⟩,rfl⟩ ?_
 refine zao [0,1,2,3,4,5,6,7,8,9,10,12,13,17,18,19,20] 9 rfl (by kernel_rfl) ?_
 simp only [zad,zac,zaa,zX1,zX2,zX3]
 repeat (go_big_quiet_step (fail))
 refine wpQuiet_nil ?_
 have hb7:Below w6.heap.size w6 w6.drew:=(Below.refl _ _).drew
 show wpE _ _ _ _ _ _ _ _ _ w6.drew
 generalize w6.drew=w7 at *
 clear x0 x1 x2 x3 x4 x5
 have hrr7:Rd w7 B (some ⟨sb,so,none⟩) (zai (s :: rest)):=by
  have h9:=((hrr.keep HB6X.out).keep hb7)
  rwa [hsA] at h9
 have U0:=fun e W=>zbt true e 0 rfl W
 have TK:=taken_any w7 B b p q (some ⟨sb,so+1,none⟩) m (r.s.c - 1) rest (HLN.out.keep hb7) hS (by have:=hb7.size;omega) hm (by omega) ((zma hrr7).mono (by have:=hb7.size;omega))
 rw [htk] at TK
 have HRT:Hid (Rd w6 B (some ⟨sb,so+1,none⟩) (zai rest)):=zma (by have h9:=hrr.keep HB6X.out;rwa [hsA] at h9)
 have HRN2:=Lib.hid hrn2
 have HC9:=Lib.hid hc9
 clear hrn2 hc9
 refine zan (i:=11) rfl (by kernel_rfl) rfl ?_
 unfold zar
 simp only [zad,zac,zaa,zX1,zX2,zX3]
 go_wp2_with (go_at_call 115;refine (U0 _ _).mono ?_;rintro e w' ⟨rfl,rfl⟩)
 refine zab ⟨⟨⟨_,hb7⟩,rfl⟩,?_⟩
 refine zan (i:=14) rfl (by kernel_rfl) rfl ?_
 unfold zar
 simp only [zad,zac,zaa,zX1,zX2,zX3]
 go_wp2_with (go_at_call 326;refine TK.mono ?_;rintro e w8 ⟨rfl,hb8⟩)
 have hb9:=hb7.trans (hb8.mono hb7.size)
 refine zab ⟨⟨⟨_,hb9⟩,rfl⟩,?_⟩
 have LI:=lies_ok w8 B b p q r (some ⟨sb,so,none⟩) (m+1) r.s.c (s :: rest) (HLN.out.keep hb9) (hrs2.keep (HB6X.out.trans (hb9.mono HB6X.out.size))) (hrr7.keep hb8) (by simp [hm]) (by omega) hp (by rw [← hsec];exact hli)
 rw [hsA,HRN2.out] at LI
 clear hrr7 hrr hrs2 TK hli
 refine zan (i:=15) rfl (by kernel_rfl) rfl ?_
 unfold zar
 simp only [zad,zac,zaa,zX1,zX2,zX3]
 go_wp2
 refine zab ⟨⟨⟨_,hb9⟩,rfl⟩,?_⟩
 refine zan (i:=16) rfl (by kernel_rfl) rfl ?_
 unfold zar
 simp only [zad,zac,zaa,zX1,zX2,zX3]
 go_wp2_with (go_at_call 115;refine (U0 _ _).mono ?_;rintro e w' ⟨rfl,rfl⟩)
 refine zab ⟨⟨⟨_,hb9⟩,rfl⟩,?_⟩
 refine zan (i:=21) rfl (by kernel_rfl) rfl ?_
 unfold zar
 simp only [zad,zac,zaa,zX1,zX2,zX3]
 go_wp2_with (go_at_call 328;refine LI.mono ?_;rintro e w9 ⟨rfl,hb10⟩)
 have hb11:=hb9.trans (hb10.mono hb9.size)
 refine zab ⟨⟨⟨_,hb11⟩,rfl⟩,?_⟩
 clear LI
 refine zan (i:=22) rfl (by kernel_rfl) rfl ?_
 unfold zar
 simp only [zad,zac,zaa,zX1,zX2,zX3]
 go_wp2_with (go_at_call 115;refine (U0 _ _).mono ?_;rintro e w' ⟨rfl,rfl⟩)
 refine zab ⟨⟨⟨_,hb11⟩,rfl⟩,?_⟩
 refine zan (i:=23) rfl (by kernel_rfl) rfl ?_
 unfold zar
 simp only [zad,zac,zaa,zX1,zX2,zX3]
 go_wp2
 have hbn:=hB1 w9 (.cells #[.int .i64 0,.int .i64 0,.int .i64 0] 60)
 have kA:=hA1 w9 (.cells #[.int .i64 0,.int .i64 0,.int .i64 0] 60)
 have hbe3:=hb11.trans (hbn.mono hb11.size)
 refine zab ⟨⟨⟨_,hbe3⟩,rfl⟩,?_⟩
 refine zan (i:=24) rfl (by kernel_rfl) rfl ?_
 unfold zar
 simp only [zad,zac,zaa,zX1,zX2,zX3]
 go_wp2_with (go_at_call 114;refine (lkFirst3z _).mono ?_;rintro e w' ⟨rfl,rfl⟩)
 refine zab ⟨⟨⟨_,hbe3⟩,rfl⟩,?_⟩
 refine zau rfl (by kernel_rfl) ?_
 simp only [zad,zac,zaa,zX1,zX2,zX3]
 have hbz:=HB6X
 replace e0:=zat hbe3 e0
 replace e1:=zat hbe3 e1
 replace e2:=zat hbe3 e2
 replace f0:=zat hbe3 f0
 replace f1:=zat hbe3 f1
 replace HCR:=Lib.hid (HCR.out.keep hbe3)
 replace HLN:=Lib.hid (HLN.out.keep hbe3)
 replace HB4:=Lib.hid (HB4.out.trans (hbe3.mono (by omega)))
 replace hs4:=Nat.le_trans hs4 hbe3.size
 clear hb9 hb8 hb10 hb11 hbn kA hbz hb7
 have HRR9:Hid (Rd (w9.alloc (.cells #[.int .i64 0,.int .i64 0,.int .i64 0] 60)) B (some ⟨sb,so+1,none⟩) (zai rest)):=HRT.out.keep hbe3
 clear hbe3
 generalize w9.alloc (.cells #[.int .i64 0,.int .i64 0,.int .i64 0] 60)=wa at *
 go_wp2
 refine zab ?_
 have HU0:=Lib.hid U0
 clear U0
 go_upto_region 25 with (fail)
 have x1:=fun y:Xt wa=>y.cell e1
 have x2:=fun y:Xt wa=>y.cell f0
 have x3:=fun y:Xt wa=>y.cell f1
 refine zak [11,12] (fun w'=>∃ y:Xt wa,w'=y.1) (by kernel_rfl) ⟨⟨wa.drew,(Below.refl _ _).drew⟩,rfl⟩ ?_
 refine zao [0,1,2,3,4,5,8,9] 5 rfl (by kernel_rfl) ?_
 simp only [zad,zac,zaa,zX1,zX2,zX3]
 repeat (go_big_quiet_step (fail))
 refine wpQuiet_nil ?_
 have hbd:Below wa.heap.size wa wa.drew:=(Below.refl _ _).drew
 show wpE _ _ _ _ _ _ _ _ _ wa.drew
 generalize wa.drew=wb at *
 clear x1 x2 x3
 refine zan (i:=6) rfl (by kernel_rfl) rfl ?_
 unfold zar
 simp only [zad,zac,zaa,zX1,zX2,zX3]
 go_wp2
 have hbq0:=hB1 wb (.cells #[.slice (some ⟨cb,co,none⟩) 1 tc,.slice (some ⟨sb,so+1,none⟩) m (r.s.c - 1)] 32)
 have kq:=hA1 wb (.cells #[.slice (some ⟨cb,co,none⟩) 1 tc,.slice (some ⟨sb,so+1,none⟩) m (r.s.c - 1)] 32)
 have hbq:=hbd.trans (hbq0.mono hbd.size)
 refine zab ⟨⟨⟨_,hbq⟩,rfl⟩,?_⟩
 have CC:=Concat2_ok (wb.alloc (.cells #[.slice (some ⟨cb,co,none⟩) 1 tc,.slice (some ⟨sb,so+1,none⟩) m (r.s.c - 1)] 32)) B wb.heap.size (some ⟨cb,co,none⟩) (some ⟨sb,so+1,none⟩) tc (r.s.c - 1) [s] rest (HCR.out.keep hbq) (HRR9.out.keep hbq) (by simp) (by simp) (by omega)
  ((cell_of_row _ wb.heap.size 0 _ _ _ kq).trans rfl) ((cell_of_row _ wb.heap.size 1 _ _ _ kq).trans (by rw [hm];rfl))
 rw [hm] at CC
 change Calls _ _ _ _ (zd8 _ 3 1 (zai (s :: rest)) (1+m)) at CC
 refine zan (i:=7) rfl (by kernel_rfl) rfl ?_
 unfold zar
 simp only [zad,zac,zaa,zX1,zX2,zX3]
 go_wp2_with (go_at_call 329;refine CC.mono ?_;rintro e wr ⟨Ar,cr,rfl,hcr9,hor,hbr0⟩)
 have hbr:=hbq.trans (hbr0.mono hbq.size)
 refine zab ⟨⟨⟨_,hbr⟩,rfl⟩,?_⟩
 have NX:=next_ok wr B b p q ⟨⟨Ar,1+m,cr⟩,s :: rest,1⟩ (HLN.out.keep hbr) hlt htn ⟨by simp [hm];omega,za7 hor⟩ hcr9 (by have:=hbr.size;omega)
 refine zan (i:=10) rfl (by kernel_rfl) rfl ?_
 unfold zar
 simp only [zad,zac,zaa,zX1,zX2,zX3]
 go_wp2_with (go_at_call 327;refine NX.mono ?_;rintro e wz ⟨bz,Az,cz,rfl,hgz,hLz,hbz⟩)
 have hbs:=hbr.trans (hbz.mono hbr.size)
 refine zab ⟨⟨⟨_,hbs⟩,rfl⟩,?_⟩
 refine zau rfl (by kernel_rfl) ?_
 simp only [zad,zac,zaa,zX1,zX2,zX3]
 go_wp2
 refine zab ?_
 go_wp2
 go_ret2
 exact ⟨bz,Az,cz,_,rfl,by rw [HBW.out];have:=hbr.size;omega,hLz,by rw [HBW.out];exact HB4.out.trans (hbs.mono (by omega))⟩
theorem LsS_next {q:LsV} (h:LsS q) {t:LtV} (hi:q.trs[0]?=some t) {A:Option Addr} {c:Nat} {sl:SlV} {ch:List Int} {un:Int} (hc:ch.length≤1000):LsS (zfj q A c ⟨sl,ch,un⟩):=by
 obtain ⟨h1,h2,h3⟩:=h
 have hl:0<q.trs.length:=(List.getElem?_eq_some_iff.1 hi).1
 refine ⟨by simp only [zfj,List.length_cons,List.length_tail];omega,h2,fun t ht=>?_⟩
 simp only [zfj,List.mem_cons] at ht
 rcases ht with rfl | ht
 · exact hc
 · exact h3 t (List.mem_of_mem_tail ht)
def zj0 (w:World) (q:LsV) (ch:List Int) (un:Int) (e:Ending) (w':World):Prop:=
 ∃ q':LsV,q'.sws=q.sws∧q'.trs.map LtV.key=(ch,un) :: q.trs.tail.map LtV.key∧q'.ctr=q.ctr∧e=.returned (.tuple #[.agg (zbf q').toArray,.int .i64 0])∧LsOw w' w.heap.size q'∧Below w.heap.size w w'
theorem Apply0_ok (w:World) (B:Nat) (p:PlantV) (q:LsV) (t:LtV) (s:Int) (hP:PlantAt w B p) (hQ:LsAt w B q) (hS:PlantS p) (hE:zb7 p=0) (hB:B≤w.heap.size) (hO:StOk p q) (hi:q.trs[0]?=some t) (hc:t.chain=[]) (htk:zgp q [s]=false) (hs:secE p s=0) (ht:trnE p 0=0) (h1:p.ss.n≤1000) (h2:p.ts.n≤1000) :
 Calls Tryz.prog 209 #[.agg (zap p).toArray,.agg (zbf q).toArray,.agg #[.int .i64 0,.int .i64 0,.int .i64 s]] w (zj0 w q [s] 1):=by
 have hb0:Below w.heap.size w ((((w.alloc (.cells (zap p).toArray 26)).alloc (.cells (zbf q).toArray 103)).alloc (.cells #[.int .i64 0,.int .i64 0,.int .i64 s] 295)).alloc (.cells #[.slice none 0 0,.slice none 0 0,.int .i64 0] 103)):=((((Below.refl _ _).alloc (Nat.le_refl _) _).alloc (by simp) _).alloc (by simp;omega) _).alloc (by simp;omega) _
 have k0:((((w.alloc (.cells (zap p).toArray 26)).alloc (.cells (zbf q).toArray 103)).alloc (.cells #[.int .i64 0,.int .i64 0,.int .i64 s] 295)).alloc (.cells #[.slice none 0 0,.slice none 0 0,.int .i64 0] 103)).heap[w.heap.size]?=some (.cells (zap p).toArray 26 (0,0)):=by rw [zae,if_neg (by simp;omega),zae,if_neg (by simp;omega),zae,if_neg (by simp),zae,if_pos rfl]
 have k1:((((w.alloc (.cells (zap p).toArray 26)).alloc (.cells (zbf q).toArray 103)).alloc (.cells #[.int .i64 0,.int .i64 0,.int .i64 s] 295)).alloc (.cells #[.slice none 0 0,.slice none 0 0,.int .i64 0] 103)).heap[w.heap.size+1]?=some (.cells (zbf q).toArray 103 (0,0)):=by rw [zae,if_neg (by simp),zae,if_neg (by simp),zae,if_pos (by simp)]
 have k2:((((w.alloc (.cells (zap p).toArray 26)).alloc (.cells (zbf q).toArray 103)).alloc (.cells #[.int .i64 0,.int .i64 0,.int .i64 s] 295)).alloc (.cells #[.slice none 0 0,.slice none 0 0,.int .i64 0] 103)).heap[w.heap.size+2]?=some (.cells #[.int .i64 0,.int .i64 0,.int .i64 s] 295 (0,0)):=by rw [zae,if_neg (by simp),zae,if_pos (by simp)]
 have k3:((((w.alloc (.cells (zap p).toArray 26)).alloc (.cells (zbf q).toArray 103)).alloc (.cells #[.int .i64 0,.int .i64 0,.int .i64 s] 295)).alloc (.cells #[.slice none 0 0,.slice none 0 0,.int .i64 0] 103)).heap[w.heap.size+3]?=some (.cells #[.slice none 0 0,.slice none 0 0,.int .i64 0] 103 (0,0)):=by rw [zae,if_pos (by simp)]
 have hs0:w.heap.size+4≤((((w.alloc (.cells (zap p).toArray 26)).alloc (.cells (zbf q).toArray 103)).alloc (.cells #[.int .i64 0,.int .i64 0,.int .i64 s] 295)).alloc (.cells #[.slice none 0 0,.slice none 0 0,.int .i64 0] 103)).heap.size:=by simp
 have HP:=Lib.hid (hP.keep hb0)
 have HQ:=Lib.hid (hQ.keep hb0)
 have HB:=Lib.hid hb0
 have HO:=Lib.hid hO
 have HI:=Lib.hid hi
 clear hb0 hP hQ hO hi
 go_enter Tryz.func209,Tryz.ntmps209
 go_upto_region 1 with (fail)
 generalize (((w.alloc (.cells (zap p).toArray 26)).alloc (.cells (zbf q).toArray 103)).alloc (.cells #[.int .i64 0,.int .i64 0,.int .i64 s] 295)).alloc (.cells #[.slice none 0 0,.slice none 0 0,.int .i64 0] 103)=w0 at *
 generalize hbw:w.heap.size=bw at *
 have HBW:=Lib.hid hbw
 clear hbw
 have OP:=lkOpen_ok w0 B p q HP.out HQ.out hS hE (by omega) HO.out
 go_wp2_with (with_reducible refine zaw 26 ?_)
 unfold Stp
 refine wpList_load_row rfl 26 _ rfl bw rfl 26 _ (0,0) _ k0 Tryz.underlying26 rfl (by kernel_rfl) ?_
 go_wp2_with (with_reducible refine zaw 103 ?_)
 unfold Stp
 refine wpList_load_row rfl 103 _ rfl (bw+1) rfl 103 _ (0,0) _ k1 Tryz.underlying103 rfl (by kernel_rfl) ?_
 go_wp2_with (first | (go_at_call 264;refine OP.mono ?_;rintro e w1 ⟨bl,rfl,hbl,hL1,hb1⟩) | (with_reducible refine zaw 26 ?_))
 unfold Stp
 refine wpList_load_row rfl 26 _ rfl bw rfl 26 _ (0,0) _ (blk hb1 k0) Tryz.underlying26 rfl (by kernel_rfl) ?_
 go_wp2_with (with_reducible refine zaw 295 ?_)
 unfold Stp
 refine wpList_load_row rfl 295 _ rfl (bw+2) rfl 295 _ (0,0) _ (blk hb1 k2) Tryz.underlying295 rfl (by kernel_rfl) ?_
 have EV:=eventErr0_ok w1 p 0 s hs ht h1 h2
 unfold zay at EV
 clear OP
 have k2x:=blk hb1 k2
 have k3x:=blk hb1 k3
 go_wp2_with (first | (go_at_call 265;refine EV.mono ?_;rintro e w2 ⟨rfl,hb2⟩) | (with_reducible refine zaw 295 ?_))
 have hb12:=hb1.trans (hb2.mono hb1.size)
 unfold Stp
 refine wpList_load_row rfl 295 _ rfl (bw+2) rfl 295 _ (0,0) _ (blk hb2 k2x) Tryz.underlying295 rfl (by kernel_rfl) ?_
 have HL2:=Lib.hid (hL1.keep hb2)
 have hsz1:=hb1.size
 have hsz2:=hb2.size
 have AP:=apply0_ok w2 B bl p q t s HL2.out HO.out.small HI.out hc htk (by omega)
 clear EV
 go_wp2_with (first | (go_at_call 266;refine AP.mono ?_;rintro e w3 ⟨b3,A3,c3,sl3,rfl,hg3,hL3,hb3⟩) | (go_at_call 267;refine stp ?_))
 unfold Stp
 have TD:=told_any w3 w3.heap.size b3 p _ hL3 (LsS_next HO.out.small HI.out (by simp))
 have hsz3:=hb3.size
 have hb13:=hb12.trans (hb3.mono (by omega))
 have HL9:=Lib.hid (show (zfj q A3 c3 ⟨sl3,[s],1⟩).sws=q.sws∧(zfj q A3 c3 ⟨sl3,[s],1⟩).trs.map LtV.key=([s],1) :: q.trs.tail.map LtV.key∧(zfj q A3 c3 ⟨sl3,[s],1⟩).ctr=q.ctr from ⟨rfl,rfl,rfl⟩)
 generalize zfj q A3 c3 ⟨sl3,[s],1⟩=qn at *
 refine TD.mono ?_
 rintro e w4 ⟨q',hq1,hq2,hq3,rfl,hOw,hb4⟩
 have hb14:=hb13.trans (hb4.mono (by omega))
 have k9:=blk hb14 k3
 have HQ':=Lib.hid (And.intro hq1 (And.intro hq2 hq3))
 clear hq1 hq2 hq3 TD AP hL3 hb3 hb4
 go_wp2_with (with_reducible refine zas 103 ?_)
 unfold Stp
 refine wpList_store_row rfl 103 _ _ rfl (bw+3) #[q'.sw.v,q'.tr.v,.int .i64 q'.ctr] rfl rfl 103 _ k9 (by kernel_rfl) rfl (by kernel_rfl) ?_
 have kr:=setRow_heap w4 (bw+3) _ #[q'.sw.v,q'.tr.v,.int .i64 q'.ctr] 103 (0,0) k9
 have hbr:Below bw w (w4.setRow (bw+3) #[q'.sw.v,q'.tr.v,.int .i64 q'.ctr]):=below_setRow (HB.out.trans (hb14.mono (by omega))) (by omega) _
 have HOR:=Lib.hid ((hOw.setRow #[q'.sw.v,q'.tr.v,.int .i64 q'.ctr] (g:=bw+3) (by omega)).base (x':=bw) (by omega))
 generalize w4.setRow (bw+3) #[q'.sw.v,q'.tr.v,.int .i64 q'.ctr]=w5 at *
 go_wp2
 obtain ⟨c0,c1,c2⟩:_∧_∧_:=zba kr
 refine bodyPost_ret (v:=.tuple #[.agg #[q'.sw.v,q'.tr.v,.int .i64 q'.ctr],.int .i64 0]) (by simp [results,Tryz.results209,go_sem,c0,c1,c2]) rfl ?_
 exact ⟨q',HQ'.out.1.trans HL9.out.1,HQ'.out.2.1.trans HL9.out.2.1,HQ'.out.2.2.trans HL9.out.2.2,rfl,by rw [HBW.out];exact HOR.out,by rw [HBW.out];exact hbr⟩
theorem Apply1_ok (w:World) (B:Nat) (p:PlantV) (q:LsV) (t:LtV) (s:Int) (r:RtV) (rest:List Int) (hP:PlantAt w B p) (hQ:LsAt w B q) (hS:PlantS p) (hE:zb7 p=0) (hB:B≤w.heap.size) (hO:StOk p q) (hi:q.trs[0]?=some t) (hc:t.chain=[s]) (hu:t.under=1) (hr:p.rts[0]?=some r) (hsec:r.secs=s :: rest) (hrl:rest.length≤900) (hr1:0<rest.length) (htk:zgp q rest=false) (hli:LiesOk p q r r.secs) (hp:p.ws.n≤1000) (hs:zaj 0 0 ((p.rs.n:Int) - 1)=true) (ht:trnE p 0=0) (h1:p.rs.n≤1000) (h2:p.ts.n≤1000) :
 Calls Tryz.prog 209 #[.agg (zap p).toArray,.agg (zbf q).toArray,.agg #[.int .i64 1,.int .i64 0,.int .i64 0]] w (zj0 w q (s :: rest) 1):=by
 have hb0:Below w.heap.size w ((((w.alloc (.cells (zap p).toArray 26)).alloc (.cells (zbf q).toArray 103)).alloc (.cells #[.int .i64 1,.int .i64 0,.int .i64 0] 295)).alloc (.cells #[.slice none 0 0,.slice none 0 0,.int .i64 0] 103)):=((((Below.refl _ _).alloc (Nat.le_refl _) _).alloc (by simp) _).alloc (by simp;omega) _).alloc (by simp;omega) _
 have k0:((((w.alloc (.cells (zap p).toArray 26)).alloc (.cells (zbf q).toArray 103)).alloc (.cells #[.int .i64 1,.int .i64 0,.int .i64 0] 295)).alloc (.cells #[.slice none 0 0,.slice none 0 0,.int .i64 0] 103)).heap[w.heap.size]?=some (.cells (zap p).toArray 26 (0,0)):=by rw [zae,if_neg (by simp;omega),zae,if_neg (by simp;omega),zae,if_neg (by simp),zae,if_pos rfl]
 have k1:((((w.alloc (.cells (zap p).toArray 26)).alloc (.cells (zbf q).toArray 103)).alloc (.cells #[.int .i64 1,.int .i64 0,.int .i64 0] 295)).alloc (.cells #[.slice none 0 0,.slice none 0 0,.int .i64 0] 103)).heap[w.heap.size+1]?=some (.cells (zbf q).toArray 103 (0,0)):=by rw [zae,if_neg (by simp),zae,if_neg (by simp),zae,if_pos (by simp)]
 have k2:((((w.alloc (.cells (zap p).toArray 26)).alloc (.cells (zbf q).toArray 103)).alloc (.cells #[.int .i64 1,.int .i64 0,.int .i64 0] 295)).alloc (.cells #[.slice none 0 0,.slice none 0 0,.int .i64 0] 103)).heap[w.heap.size+2]?=some (.cells #[.int .i64 1,.int .i64 0,.int .i64 0] 295 (0,0)):=by rw [zae,if_neg (by simp),zae,if_pos (by simp)]
 have k3:((((w.alloc (.cells (zap p).toArray 26)).alloc (.cells (zbf q).toArray 103)).alloc (.cells #[.int .i64 1,.int .i64 0,.int .i64 0] 295)).alloc (.cells #[.slice none 0 0,.slice none 0 0,.int .i64 0] 103)).heap[w.heap.size+3]?=some (.cells #[.slice none 0 0,.slice none 0 0,.int .i64 0] 103 (0,0)):=by rw [zae,if_pos (by simp)]
 have hs0:w.heap.size+4≤((((w.alloc (.cells (zap p).toArray 26)).alloc (.cells (zbf q).toArray 103)).alloc (.cells #[.int .i64 1,.int .i64 0,.int .i64 0] 295)).alloc (.cells #[.slice none 0 0,.slice none 0 0,.int .i64 0] 103)).heap.size:=by simp
 have HP:=Lib.hid (hP.keep hb0)
 have HQ:=Lib.hid (hQ.keep hb0)
 have HB:=Lib.hid hb0
 have HO:=Lib.hid hO
 have HI:=Lib.hid hi
 clear hb0 hP hQ hO hi
 go_enter Tryz.func209,Tryz.ntmps209
 go_upto_region 1 with (fail)
 generalize (((w.alloc (.cells (zap p).toArray 26)).alloc (.cells (zbf q).toArray 103)).alloc (.cells #[.int .i64 1,.int .i64 0,.int .i64 0] 295)).alloc (.cells #[.slice none 0 0,.slice none 0 0,.int .i64 0] 103)=w0 at *
 generalize hbw:w.heap.size=bw at *
 have HBW:=Lib.hid hbw
 clear hbw
 have OP:=lkOpen_ok w0 B p q HP.out HQ.out hS hE (by omega) HO.out
 go_wp2_with (with_reducible refine zaw 26 ?_)
 unfold Stp
 refine wpList_load_row rfl 26 _ rfl bw rfl 26 _ (0,0) _ k0 Tryz.underlying26 rfl (by kernel_rfl) ?_
 go_wp2_with (with_reducible refine zaw 103 ?_)
 unfold Stp
 refine wpList_load_row rfl 103 _ rfl (bw+1) rfl 103 _ (0,0) _ k1 Tryz.underlying103 rfl (by kernel_rfl) ?_
 go_wp2_with (first | (go_at_call 264;refine OP.mono ?_;rintro e w1 ⟨bl,rfl,hbl,hL1,hb1⟩) | (with_reducible refine zaw 26 ?_))
 unfold Stp
 refine wpList_load_row rfl 26 _ rfl bw rfl 26 _ (0,0) _ (blk hb1 k0) Tryz.underlying26 rfl (by kernel_rfl) ?_
 go_wp2_with (with_reducible refine zaw 295 ?_)
 unfold Stp
 refine wpList_load_row rfl 295 _ rfl (bw+2) rfl 295 _ (0,0) _ (blk hb1 k2) Tryz.underlying295 rfl (by kernel_rfl) ?_
 have EV:=eventErr1_ok w1 p 0 0 hs h1 ht h2
 unfold zay at EV
 clear OP
 have k2x:=blk hb1 k2
 have k3x:=blk hb1 k3
 go_wp2_with (first | (go_at_call 265;refine EV.mono ?_;rintro e w2 ⟨rfl,hb2⟩) | (with_reducible refine zaw 295 ?_))
 have hb12:=hb1.trans (hb2.mono hb1.size)
 unfold Stp
 refine wpList_load_row rfl 295 _ rfl (bw+2) rfl 295 _ (0,0) _ (blk hb2 k2x) Tryz.underlying295 rfl (by kernel_rfl) ?_
 have HL2:=Lib.hid (hL1.keep hb2)
 have hsz1:=hb1.size
 have hsz2:=hb2.size
 have AP:=apply1_ok w2 B bl p q t s r rest HL2.out HO.out.small HI.out hc hu hr hsec hrl hr1 htk hli hp (by omega)
 clear EV
 go_wp2_with (first | (go_at_call 266;refine AP.mono ?_;rintro e w3 ⟨b3,A3,c3,sl3,rfl,hg3,hL3,hb3⟩) | (go_at_call 267;refine stp ?_))
 unfold Stp
 have TD:=told_any w3 w3.heap.size b3 p _ hL3 (LsS_next HO.out.small HI.out (by simp;omega))
 have hsz3:=hb3.size
 have hb13:=hb12.trans (hb3.mono (by omega))
 have HL9:=Lib.hid (show (zfj q A3 c3 ⟨sl3,(s :: rest),1⟩).sws=q.sws∧(zfj q A3 c3 ⟨sl3,(s :: rest),1⟩).trs.map LtV.key=((s :: rest),1) :: q.trs.tail.map LtV.key∧(zfj q A3 c3 ⟨sl3,(s :: rest),1⟩).ctr=q.ctr from ⟨rfl,rfl,rfl⟩)
 generalize zfj q A3 c3 ⟨sl3,(s :: rest),1⟩=qn at *
 refine TD.mono ?_
 rintro e w4 ⟨q',hq1,hq2,hq3,rfl,hOw,hb4⟩
 have hb14:=hb13.trans (hb4.mono (by omega))
 have k9:=blk hb14 k3
 have HQ':=Lib.hid (And.intro hq1 (And.intro hq2 hq3))
 clear hq1 hq2 hq3 TD AP hL3 hb3 hb4
 go_wp2_with (with_reducible refine zas 103 ?_)
 unfold Stp
 refine wpList_store_row rfl 103 _ _ rfl (bw+3) #[q'.sw.v,q'.tr.v,.int .i64 q'.ctr] rfl rfl 103 _ k9 (by kernel_rfl) rfl (by kernel_rfl) ?_
 have kr:=setRow_heap w4 (bw+3) _ #[q'.sw.v,q'.tr.v,.int .i64 q'.ctr] 103 (0,0) k9
 have hbr:Below bw w (w4.setRow (bw+3) #[q'.sw.v,q'.tr.v,.int .i64 q'.ctr]):=below_setRow (HB.out.trans (hb14.mono (by omega))) (by omega) _
 have HOR:=Lib.hid ((hOw.setRow #[q'.sw.v,q'.tr.v,.int .i64 q'.ctr] (g:=bw+3) (by omega)).base (x':=bw) (by omega))
 generalize w4.setRow (bw+3) #[q'.sw.v,q'.tr.v,.int .i64 q'.ctr]=w5 at *
 go_wp2
 obtain ⟨c0,c1,c2⟩:_∧_∧_:=zba kr
 refine bodyPost_ret (v:=.tuple #[.agg #[q'.sw.v,q'.tr.v,.int .i64 q'.ctr],.int .i64 0]) (by simp [results,Tryz.results209,go_sem,c0,c1,c2]) rfl ?_
 exact ⟨q',HQ'.out.1.trans HL9.out.1,HQ'.out.2.1.trans HL9.out.2.1,HQ'.out.2.2.trans HL9.out.2.2,rfl,by rw [HBW.out];exact HOR.out,by rw [HBW.out];exact hbr⟩
end Go.Proofs.YtoodbfkbbchjiaaGreatDoor
