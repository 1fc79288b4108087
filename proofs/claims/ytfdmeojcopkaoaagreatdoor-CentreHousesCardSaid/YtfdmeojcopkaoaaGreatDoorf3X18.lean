import Derived.Test.YtfdmeojcopkaoaaGreatDoorf3X17
set_option maxRecDepth 100000
set_option maxHeartbeats 16000000
namespace Go.Proofs.YtfdmeojcopkaoaaGreatDoor
open Go.RowKit
theorem LsS_next {q:LsV} (h:LsS q) {t:LtV} (hi:q.trs[0]?=some t) {A:Option Addr} {c:Nat} {sl:SlV} {ch:List Int} {un:Int} (hc:ch.length≤1000):LsS (ze4 q A c ⟨sl,ch,un⟩):=by
 obtain ⟨h1,h2,h3⟩:=h
 have hl:0<q.trs.length:=(List.getElem?_eq_some_iff.1 hi).1
 refine ⟨by simp only [ze4,List.length_cons,List.length_tail];omega,h2,fun t ht=>?_⟩
 simp only [ze4,List.mem_cons] at ht
 rcases ht with rfl | ht
 · exact hc
 · exact h3 t (List.mem_of_mem_tail ht)
def zfj (w:World) (q:LsV) (ch:List Int) (un:Int) (e:Ending) (w':World):Prop:=
 ∃ q':LsV,q'.sws=q.sws∧q'.trs.map LtV.key=(ch,un) :: q.trs.tail.map LtV.key∧q'.ctr=q.ctr∧e=.returned (.tuple #[.agg (za7 q').toArray,.int .i64 0])∧LsOw w' w.heap.size q'∧Below w.heap.size w w'
theorem Apply0_ok (w:World) (B:Nat) (p:PlantV) (q:LsV) (t:LtV) (s:Int) (hP:PlantAt w B p) (hQ:LsAt w B q) (hS:PlantS p) (hE:zch p=0) (hB:B≤w.heap.size) (hO:StOk p q) (hi:q.trs[0]?=some t) (hc:t.chain=[]) (htk:zf9 q [s]=false) (hs:secE p s=0) (ht:trnE p 0=0) (h1:p.ss.n≤1000) (h2:p.ts.n≤1000) :
 Calls Tryz.prog 208 #[.agg (zan p).toArray,.agg (za7 q).toArray,.agg #[.int .i64 0,.int .i64 0,.int .i64 s]] w (zfj w q [s] 1):=by
 have hb0:Below w.heap.size w ((((w.alloc (.cells (zan p).toArray 26)).alloc (.cells (za7 q).toArray 133)).alloc (.cells #[.int .i64 0,.int .i64 0,.int .i64 s] 292)).alloc (.cells #[.slice none 0 0,.slice none 0 0,.int .i64 0] 133)):=((((Below.refl _ _).alloc (Nat.le_refl _) _).alloc (by simp) _).alloc (by simp;omega) _).alloc (by simp;omega) _
 have k0:((((w.alloc (.cells (zan p).toArray 26)).alloc (.cells (za7 q).toArray 133)).alloc (.cells #[.int .i64 0,.int .i64 0,.int .i64 s] 292)).alloc (.cells #[.slice none 0 0,.slice none 0 0,.int .i64 0] 133)).heap[w.heap.size]?=some (.cells (zan p).toArray 26 (0,0)):=by rw [zae,if_neg (by simp;omega),zae,if_neg (by simp;omega),zae,if_neg (by simp),zae,if_pos rfl]
 have k1:((((w.alloc (.cells (zan p).toArray 26)).alloc (.cells (za7 q).toArray 133)).alloc (.cells #[.int .i64 0,.int .i64 0,.int .i64 s] 292)).alloc (.cells #[.slice none 0 0,.slice none 0 0,.int .i64 0] 133)).heap[w.heap.size+1]?=some (.cells (za7 q).toArray 133 (0,0)):=by rw [zae,if_neg (by simp),zae,if_neg (by simp),zae,if_pos (by simp)]
 have k2:((((w.alloc (.cells (zan p).toArray 26)).alloc (.cells (za7 q).toArray 133)).alloc (.cells #[.int .i64 0,.int .i64 0,.int .i64 s] 292)).alloc (.cells #[.slice none 0 0,.slice none 0 0,.int .i64 0] 133)).heap[w.heap.size+2]?=some (.cells #[.int .i64 0,.int .i64 0,.int .i64 s] 292 (0,0)):=by rw [zae,if_neg (by simp),zae,if_pos (by simp)]
 have k3:((((w.alloc (.cells (zan p).toArray 26)).alloc (.cells (za7 q).toArray 133)).alloc (.cells #[.int .i64 0,.int .i64 0,.int .i64 s] 292)).alloc (.cells #[.slice none 0 0,.slice none 0 0,.int .i64 0] 133)).heap[w.heap.size+3]?=some (.cells #[.slice none 0 0,.slice none 0 0,.int .i64 0] 133 (0,0)):=by rw [zae,if_pos (by simp)]
 have hs0:w.heap.size+4≤((((w.alloc (.cells (zan p).toArray 26)).alloc (.cells (za7 q).toArray 133)).alloc (.cells #[.int .i64 0,.int .i64 0,.int .i64 s] 292)).alloc (.cells #[.slice none 0 0,.slice none 0 0,.int .i64 0] 133)).heap.size:=by simp
 have HP:=Lib.hid (hP.keep hb0)
 have HQ:=Lib.hid (hQ.keep hb0)
 have HB:=Lib.hid hb0
 have HO:=Lib.hid hO
 have HI:=Lib.hid hi
 clear hb0 hP hQ hO hi
 go_enter Tryz.func208,Tryz.ntmps208
 go_upto_region 1 with (fail)
 generalize (((w.alloc (.cells (zan p).toArray 26)).alloc (.cells (za7 q).toArray 133)).alloc (.cells #[.int .i64 0,.int .i64 0,.int .i64 s] 292)).alloc (.cells #[.slice none 0 0,.slice none 0 0,.int .i64 0] 133)=w0 at *
 generalize hbw:w.heap.size=bw at *
 have HBW:=Lib.hid hbw
 clear hbw
 have OP:=lkOpen_ok w0 B p q HP.out HQ.out hS hE (by omega) HO.out
 go_wp2_with (with_reducible refine zaz 26 ?_)
 unfold Stp
 refine wpList_load_row rfl 26 _ rfl bw rfl 26 _ (0,0) _ k0 Tryz.underlying26 rfl (by kernel_rfl) ?_
 go_wp2_with (with_reducible refine zaz 133 ?_)
 unfold Stp
 refine wpList_load_row rfl 133 _ rfl (bw+1) rfl 133 _ (0,0) _ k1 Tryz.underlying133 rfl (by kernel_rfl) ?_
 go_wp2_with (first | (go_at_call 261;refine OP.mono ?_;rintro e w1 ⟨bl,rfl,hbl,hL1,hb1⟩) | (with_reducible refine zaz 26 ?_))
 unfold Stp
 refine wpList_load_row rfl 26 _ rfl bw rfl 26 _ (0,0) _ (blk hb1 k0) Tryz.underlying26 rfl (by kernel_rfl) ?_
 go_wp2_with (with_reducible refine zaz 292 ?_)
 unfold Stp
 refine wpList_load_row rfl 292 _ rfl (bw+2) rfl 292 _ (0,0) _ (blk hb1 k2) Tryz.underlying292 rfl (by kernel_rfl) ?_
 have EV:=eventErr0_ok w1 p 0 s hs ht h1 h2
 unfold zax at EV
 clear OP
 have k2x:=blk hb1 k2
 have k3x:=blk hb1 k3
 go_wp2_with (first | (go_at_call 262;refine EV.mono ?_;rintro e w2 ⟨rfl,hb2⟩) | (with_reducible refine zaz 292 ?_))
 have hb12:=hb1.trans (hb2.mono hb1.size)
 unfold Stp
 refine wpList_load_row rfl 292 _ rfl (bw+2) rfl 292 _ (0,0) _ (blk hb2 k2x) Tryz.underlying292 rfl (by kernel_rfl) ?_
 have HL2:=Lib.hid (hL1.keep hb2)
 have hsz1:=hb1.size
 have hsz2:=hb2.size
 have AP:=apply0_ok w2 B bl p q t s HL2.out HO.out.small HI.out hc htk (by omega)
 clear EV
 go_wp2_with (first | (go_at_call 263;refine AP.mono ?_;rintro e w3 ⟨b3,A3,c3,sl3,rfl,hg3,hL3,hb3⟩) | (go_at_call 264;refine stp ?_))
 unfold Stp
 have TD:=told_any w3 w3.heap.size b3 p _ hL3 (LsS_next HO.out.small HI.out (by simp))
 have hsz3:=hb3.size
 have hb13:=hb12.trans (hb3.mono (by omega))
 have HL9:=Lib.hid (show (ze4 q A3 c3 ⟨sl3,[s],1⟩).sws=q.sws∧(ze4 q A3 c3 ⟨sl3,[s],1⟩).trs.map LtV.key=([s],1) :: q.trs.tail.map LtV.key∧(ze4 q A3 c3 ⟨sl3,[s],1⟩).ctr=q.ctr from ⟨rfl,rfl,rfl⟩)
 generalize ze4 q A3 c3 ⟨sl3,[s],1⟩=qn at *
 refine TD.mono ?_
 rintro e w4 ⟨q',hq1,hq2,hq3,rfl,hOw,hb4⟩
 have hb14:=hb13.trans (hb4.mono (by omega))
 have k9:=blk hb14 k3
 have HQ':=Lib.hid (And.intro hq1 (And.intro hq2 hq3))
 clear hq1 hq2 hq3 TD AP hL3 hb3 hb4
 go_wp2_with (with_reducible refine zat 133 ?_)
 unfold Stp
 refine wpList_store_row rfl 133 _ _ rfl (bw+3) #[q'.sw.v,q'.tr.v,.int .i64 q'.ctr] rfl rfl 133 _ k9 (by kernel_rfl) rfl (by kernel_rfl) ?_
 have kr:=setRow_heap w4 (bw+3) _ #[q'.sw.v,q'.tr.v,.int .i64 q'.ctr] 133 (0,0) k9
 have hbr:Below bw w (w4.setRow (bw+3) #[q'.sw.v,q'.tr.v,.int .i64 q'.ctr]):=below_setRow (HB.out.trans (hb14.mono (by omega))) (by omega) _
 have HOR:=Lib.hid ((hOw.setRow #[q'.sw.v,q'.tr.v,.int .i64 q'.ctr] (g:=bw+3) (by omega)).base (x':=bw) (by omega))
 generalize w4.setRow (bw+3) #[q'.sw.v,q'.tr.v,.int .i64 q'.ctr]=w5 at *
 go_wp2
 obtain ⟨c0,c1,c2⟩:_∧_∧_:=zbc kr
 refine bodyPost_ret (v:=.tuple #[.agg #[q'.sw.v,q'.tr.v,.int .i64 q'.ctr],.int .i64 0]) (by simp [results,Tryz.results208,go_sem,c0,c1,c2]) rfl ?_
 exact ⟨q',HQ'.out.1.trans HL9.out.1,HQ'.out.2.1.trans HL9.out.2.1,HQ'.out.2.2.trans HL9.out.2.2,rfl,by rw [HBW.out];exact HOR.out,by rw [HBW.out];exact hbr⟩
theorem Apply1_ok (w:World) (B:Nat) (p:PlantV) (q:LsV) (t:LtV) (s:Int) (r:RtV) (rest:List Int) (hP:PlantAt w B p) (hQ:LsAt w B q) (hS:PlantS p) (hE:zch p=0) (hB:B≤w.heap.size) (hO:StOk p q) (hi:q.trs[0]?=some t) (hc:t.chain=[s]) (hu:t.under=1) (hr:p.rts[0]?=some r) (hsec:r.secs=s :: rest) (hrl:rest.length≤900) (hr1:0<rest.length) (htk:zf9 q rest=false) (hli:LiesOk p q r r.secs) (hp:p.ws.n≤1000) (hs:zai 0 0 ((p.rs.n:Int) - 1)=true) (ht:trnE p 0=0) (h1:p.rs.n≤1000) (h2:p.ts.n≤1000) :
 Calls Tryz.prog 208 #[.agg (zan p).toArray,.agg (za7 q).toArray,.agg #[.int .i64 1,.int .i64 0,.int .i64 0]] w (zfj w q (s :: rest) 1):=by
 have hb0:Below w.heap.size w ((((w.alloc (.cells (zan p).toArray 26)).alloc (.cells (za7 q).toArray 133)).alloc (.cells #[.int .i64 1,.int .i64 0,.int .i64 0] 292)).alloc (.cells #[.slice none 0 0,.slice none 0 0,.int .i64 0] 133)):=((((Below.refl _ _).alloc (Nat.le_refl _) _).alloc (by simp) _).alloc (by simp;omega) _).alloc (by simp;omega) _
 have k0:((((w.alloc (.cells (zan p).toArray 26)).alloc (.cells (za7 q).toArray 133)).alloc (.cells #[.int .i64 1,.int .i64 0,.int .i64 0] 292)).alloc (.cells #[.slice none 0 0,.slice none 0 0,.int .i64 0] 133)).heap[w.heap.size]?=some (.cells (zan p).toArray 26 (0,0)):=by rw [zae,if_neg (by simp;omega),zae,if_neg (by simp;omega),zae,if_neg (by simp),zae,if_pos rfl]
 have k1:((((w.alloc (.cells (zan p).toArray 26)).alloc (.cells (za7 q).toArray 133)).alloc (.cells #[.int .i64 1,.int .i64 0,.int .i64 0] 292)).alloc (.cells #[.slice none 0 0,.slice none 0 0,.int .i64 0] 133)).heap[w.heap.size+1]?=some (.cells (za7 q).toArray 133 (0,0)):=by rw [zae,if_neg (by simp),zae,if_neg (by simp),zae,if_pos (by simp)]
 have k2:((((w.alloc (.cells (zan p).toArray 26)).alloc (.cells (za7 q).toArray 133)).alloc (.cells #[.int .i64 1,.int .i64 0,.int .i64 0] 292)).alloc (.cells #[.slice none 0 0,.slice none 0 0,.int .i64 0] 133)).heap[w.heap.size+2]?=some (.cells #[.int .i64 1,.int .i64 0,.int .i64 0] 292 (0,0)):=by rw [zae,if_neg (by simp),zae,if_pos (by simp)]
 have k3:((((w.alloc (.cells (zan p).toArray 26)).alloc (.cells (za7 q).toArray 133)).alloc (.cells #[.int .i64 1,.int .i64 0,.int .i64 0] 292)).alloc (.cells #[.slice none 0 0,.slice none 0 0,.int .i64 0] 133)).heap[w.heap.size+3]?=some (.cells #[.slice none 0 0,.slice none 0 0,.int .i64 0] 133 (0,0)):=by rw [zae,if_pos (by simp)]
 have hs0:w.heap.size+4≤((((w.alloc (.cells (zan p).toArray 26)).alloc (.cells (za7 q).toArray 133)).alloc (.cells #[.int .i64 1,.int .i64 0,.int .i64 0] 292)).alloc (.cells #[.slice none 0 0,.slice none 0 0,.int .i64 0] 133)).heap.size:=by simp
 have HP:=Lib.hid (hP.keep hb0)
 have HQ:=Lib.hid (hQ.keep hb0)
 have HB:=Lib.hid hb0
 have HO:=Lib.hid hO
 have HI:=Lib.hid hi
 clear hb0 hP hQ hO hi
 go_enter Tryz.func208,Tryz.ntmps208
 go_upto_region 1 with (fail)
 generalize (((w.alloc (.cells (zan p).toArray 26)).alloc (.cells (za7 q).toArray 133)).alloc (.cells #[.int .i64 1,.int .i64 0,.int .i64 0] 292)).alloc (.cells #[.slice none 0 0,.slice none 0 0,.int .i64 0] 133)=w0 at *
 generalize hbw:w.heap.size=bw at *
 have HBW:=Lib.hid hbw
 clear hbw
 have OP:=lkOpen_ok w0 B p q HP.out HQ.out hS hE (by omega) HO.out
 go_wp2_with (with_reducible refine zaz 26 ?_)
 unfold Stp
 refine wpList_load_row rfl 26 _ rfl bw rfl 26 _ (0,0) _ k0 Tryz.underlying26 rfl (by kernel_rfl) ?_
 go_wp2_with (with_reducible refine zaz 133 ?_)
 unfold Stp
 refine wpList_load_row rfl 133 _ rfl (bw+1) rfl 133 _ (0,0) _ k1 Tryz.underlying133 rfl (by kernel_rfl) ?_
 go_wp2_with (first | (go_at_call 261;refine OP.mono ?_;rintro e w1 ⟨bl,rfl,hbl,hL1,hb1⟩) | (with_reducible refine zaz 26 ?_))
 unfold Stp
 refine wpList_load_row rfl 26 _ rfl bw rfl 26 _ (0,0) _ (blk hb1 k0) Tryz.underlying26 rfl (by kernel_rfl) ?_
 go_wp2_with (with_reducible refine zaz 292 ?_)
 unfold Stp
 refine wpList_load_row rfl 292 _ rfl (bw+2) rfl 292 _ (0,0) _ (blk hb1 k2) Tryz.underlying292 rfl (by kernel_rfl) ?_
 have EV:=eventErr1_ok w1 p 0 0 hs h1 ht h2
 unfold zax at EV
 clear OP
 have k2x:=blk hb1 k2
 have k3x:=blk hb1 k3
 go_wp2_with (first | (go_at_call 262;refine EV.mono ?_;rintro e w2 ⟨rfl,hb2⟩) | (with_reducible refine zaz 292 ?_))
 have hb12:=hb1.trans (hb2.mono hb1.size)
 unfold Stp
 refine wpList_load_row rfl 292 _ rfl (bw+2) rfl 292 _ (0,0) _ (blk hb2 k2x) Tryz.underlying292 rfl (by kernel_rfl) ?_
 have HL2:=Lib.hid (hL1.keep hb2)
 have hsz1:=hb1.size
 have hsz2:=hb2.size
 have AP:=apply1_ok w2 B bl p q t s r rest HL2.out HO.out.small HI.out hc hu hr hsec hrl hr1 htk hli hp (by omega)
 clear EV
 go_wp2_with (first | (go_at_call 263;refine AP.mono ?_;rintro e w3 ⟨b3,A3,c3,sl3,rfl,hg3,hL3,hb3⟩) | (go_at_call 264;refine stp ?_))
 unfold Stp
 have TD:=told_any w3 w3.heap.size b3 p _ hL3 (LsS_next HO.out.small HI.out (by simp;omega))
 have hsz3:=hb3.size
 have hb13:=hb12.trans (hb3.mono (by omega))
 have HL9:=Lib.hid (show (ze4 q A3 c3 ⟨sl3,(s :: rest),1⟩).sws=q.sws∧(ze4 q A3 c3 ⟨sl3,(s :: rest),1⟩).trs.map LtV.key=((s :: rest),1) :: q.trs.tail.map LtV.key∧(ze4 q A3 c3 ⟨sl3,(s :: rest),1⟩).ctr=q.ctr from ⟨rfl,rfl,rfl⟩)
 generalize ze4 q A3 c3 ⟨sl3,(s :: rest),1⟩=qn at *
 refine TD.mono ?_
 rintro e w4 ⟨q',hq1,hq2,hq3,rfl,hOw,hb4⟩
 have hb14:=hb13.trans (hb4.mono (by omega))
 have k9:=blk hb14 k3
 have HQ':=Lib.hid (And.intro hq1 (And.intro hq2 hq3))
 clear hq1 hq2 hq3 TD AP hL3 hb3 hb4
 go_wp2_with (with_reducible refine zat 133 ?_)
 unfold Stp
 refine wpList_store_row rfl 133 _ _ rfl (bw+3) #[q'.sw.v,q'.tr.v,.int .i64 q'.ctr] rfl rfl 133 _ k9 (by kernel_rfl) rfl (by kernel_rfl) ?_
 have kr:=setRow_heap w4 (bw+3) _ #[q'.sw.v,q'.tr.v,.int .i64 q'.ctr] 133 (0,0) k9
 have hbr:Below bw w (w4.setRow (bw+3) #[q'.sw.v,q'.tr.v,.int .i64 q'.ctr]):=below_setRow (HB.out.trans (hb14.mono (by omega))) (by omega) _
 have HOR:=Lib.hid ((hOw.setRow #[q'.sw.v,q'.tr.v,.int .i64 q'.ctr] (g:=bw+3) (by omega)).base (x':=bw) (by omega))
 generalize w4.setRow (bw+3) #[q'.sw.v,q'.tr.v,.int .i64 q'.ctr]=w5 at *
 go_wp2
 obtain ⟨c0,c1,c2⟩:_∧_∧_:=zbc kr
 refine bodyPost_ret (v:=.tuple #[.agg #[q'.sw.v,q'.tr.v,.int .i64 q'.ctr],.int .i64 0]) (by simp [results,Tryz.results208,go_sem,c0,c1,c2]) rfl ?_
 exact ⟨q',HQ'.out.1.trans HL9.out.1,HQ'.out.2.1.trans HL9.out.2.1,HQ'.out.2.2.trans HL9.out.2.2,rfl,by rw [HBW.out];exact HOR.out,by rw [HBW.out];exact hbr⟩
end Go.Proofs.YtfdmeojcopkaoaaGreatDoor
