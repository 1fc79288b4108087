import Derived.Test.YtfdmeojcopkaoaaGreatDoorf3B6
import Derived.Test.YtfdmeojcopkaoaaGreatDoorf3X18
import Derived.Test.YtfdmeojcopkaoaaGreatDoorf3S3
import Derived.Test.YtfdmeojcopkaoaaGreatDoorf3X4
set_option maxRecDepth 100000
set_option maxHeartbeats 16000000
namespace Go.Proofs.YtfdmeojcopkaoaaGreatDoor
open Go.RowKit
theorem setWorks_ok (w:World) (x b:Nat) (V:BookV) (h:BkAt w x b V) (hS:HouseS V.h) (hq:LsS V.q) (A:Option Addr) (c B:Nat) (s:ByteArray) (hr:Rd w B A (strCells [s])) (i:Int) (hi:idxT V.h.plant.secs s=i) (h0:0≤i) (hh:zdh V.q i<0) (hw:V.wk=⟨none,0,0⟩) (hxw:x≤w.heap.size):Calls Tryz.prog 183 #[.pointer (some ⟨b,0,none⟩),.slice A 1 c] w fun e w'=>∃ A' c',DoPost w x b { V with wk:=⟨A',1,c'⟩,works:=[i] } e w':=by
 have SE:=section_any w x b V h hS s
 rw [hi] at SE
 obtain ⟨hv,lg,log,day,q,mp,pl,mr,ms,se,wk,works⟩:=V
 simp only at hw hh hq ⊢
 subst hw
 obtain ⟨bb,off,rfl,hbb,z0⟩:=hr.at_ (k:=0) (u:=.string s) rfl
 rw [Nat.add_zero] at z0
 have HH:=Lib.hid h
 have HLK:=Lib.hid h.r.lk
 have d35:=h.cell (i:=35) (u:=.slice none 0 0) rfl
 have d27:=h.cell (i:=27) (u:=q.sw.v) rfl
 have d28:=h.cell (i:=28) (u:=q.tr.v) rfl
 have d29:=h.cell (i:=29) (u:=.int .i64 q.ctr) rfl
 have BS:=fun W=>Tryz.slices_BinarySearch_int_empty none 0 i W
 have U0:=fun e W=>zbq true e 0 rfl W
 have HN:=fun (W:World) (hW:Below w.heap.size w W)=>zj1 W W.heap.size q i ((HLK.out.keep hW).at) hq (Nat.le_refl _)
 unfold zax at HN
 generalize zdh q i=hd at *
 clear hr h hS hi
 go_enter Tryz.func183,Tryz.ntmps183
 go_upto_region 2 with (go_at_call 192;refine SE.mono ?_;rintro e w' ⟨rfl,rfl⟩)
 go_upto_region 3 with (go_at_call 221;refine (BS _).mono ?_;rintro e wB ⟨rfl,hwB⟩;replace hwB:=hwB.symm;subst hwB)
 have x0:=fun y:Xt w=>y.cell d27
 have x1:=fun y:Xt w=>y.cell d28
 have x2:=fun y:Xt w=>y.cell d29
 refine zaj [16] (fun w'=>∃ y:Xt w,w'=y.1) (by kernel_rfl) ⟨⟨w.drew,(Below.refl _ _).drew⟩,rfl⟩ ?_
 refine zao [0,1,3,4,6,7,8,9,10] 8 rfl (by kernel_rfl) ?_
 simp only [zad,zac,zaa,zX1,zX2,zX3]
 repeat (go_big_quiet_step (fail))
 refine wpQuiet_nil ?_
 have hbd:Below w.heap.size w w.drew:=(Below.refl _ _).drew
 show wpE _ _ _ _ _ _ _ _ _ w.drew
 generalize w.drew=wd at *
 clear x0 x1 x2 d27 d28 d29
 refine zak (i:=2) rfl (by kernel_rfl) rfl ?_
 unfold zap
 simp only [zad,zac,zaa,zX1,zX2,zX3]
 go_wp2_with (go_at_call 23;refine (U0 _ _).mono ?_;rintro e w' ⟨rfl,rfl⟩)
 refine zab ⟨⟨⟨_,hbd⟩,rfl⟩,?_⟩
 refine zak (i:=5) rfl (by kernel_rfl) rfl ?_
 unfold zap
 simp only [zad,zac,zaa,zX1,zX2,zX3]
 go_wp2_with (go_at_call 23;refine (U0 _ _).mono ?_;rintro e w' ⟨rfl,rfl⟩)
 refine zab ⟨⟨⟨_,hbd⟩,rfl⟩,?_⟩
 have HN1:=HN wd hbd
 clear HN
 refine zak (i:=11) rfl (by kernel_rfl) rfl ?_
 unfold zap
 simp only [zad,zac,zaa,zX1,zX2,zX3]
 go_wp2_with (go_at_call 193;refine HN1.mono ?_;rintro e we ⟨rfl,hbe0⟩)
 have hbe:=hbd.trans (hbe0.mono hbd.size)
 refine zab ⟨⟨⟨_,hbe⟩,rfl⟩,?_⟩
 refine zak (i:=12) rfl (by kernel_rfl) rfl ?_
 unfold zap
 simp only [zad,zac,zaa,zX1,zX2,zX3]
 go_wp2
 refine zab ⟨⟨⟨_,hbe⟩,rfl⟩,?_⟩
 refine zak (i:=13) rfl (by kernel_rfl) rfl ?_
 unfold zap
 simp only [zad,zac,zaa,zX1,zX2,zX3]
 go_wp2_with (go_at_call 23;refine (U0 _ _).mono ?_;rintro e w' ⟨rfl,rfl⟩)
 refine zab ⟨⟨⟨_,hbe⟩,rfl⟩,?_⟩
 refine zak (i:=14) rfl (by kernel_rfl) rfl ?_
 unfold zap
 simp only [zad,zac,zaa,zX1,zX2,zX3]
 go_wp2
 have hbn:=hB1 we (.cells #[.int .i64 0,.int .i64 0,.int .i64 0] 50)
 have kq:=hA1 we (.cells #[.int .i64 0,.int .i64 0,.int .i64 0] 50)
 have hbf:=hbe.trans (hbn.mono hbe.size)
 refine zab ⟨⟨⟨_,hbf⟩,rfl⟩,?_⟩
 refine zak (i:=15) rfl (by kernel_rfl) rfl ?_
 unfold zap
 simp only [zad,zac,zaa,zX1,zX2,zX3]
 go_wp2_with (go_at_call 22;refine (zhy _ 0 0 0).mono ?_;rintro e w' ⟨rfl,rfl⟩)
 refine zab ⟨⟨⟨_,hbf⟩,rfl⟩,?_⟩
 refine zau rfl (by kernel_rfl) ?_
 simp only [zad,zac,zaa,zX1,zX2,zX3]
 have H2:=HH.out.keep hbf
 have HBX:=Lib.hid hbf
 clear hbf hbn kq hbe hbe0 hbd HN1 U0 z0 d35
 generalize we.alloc (.cells #[.int .i64 0,.int .i64 0,.int .i64 0] 50)=w3 at *
 have d35:=H2.cell (i:=35) (u:=.slice none 0 0) rfl
 go_wp2
 refine zab ?_
 have hbk:=hB1 w3 (.cells #[.int .i64 i] 3)
 have kk:=hA1 w3 (.cells #[.int .i64 i] 3)
 have IN:=InsertNil_ok (w3.alloc (.cells #[.int .i64 i] 3)) w3.heap.size i ((cell_of_row _ _ 0 _ _ _ kk).trans rfl)
 have H3:=H2.keep hbk
 clear d35
 have d35:=H2.cell (i:=35) (u:=.slice none 0 0) rfl
 go_wp2_with (first | (go_at_call 222;refine IN.mono ?_;rintro e w4 ⟨A2,c2,rfl,hc2,ho2,hb4⟩) | (with_reducible refine zat 32 ?_))
 unfold Stp
 have H4:=H3.keep hb4
 have hs3:=hbk.size
 have hlx:=H2.xb
 have hlb:=H2.lt
 have HO2:=za1 ho2 (show x≤_ by omega)
 have f:=frozen_of_row w4 b 35 _ _ H4.blk
 have c:=H4.cell (i:=35) (u:=.slice none 0 0) rfl
 have HS9:Hid (w4.setCell ⟨b,35,none⟩ (.slice A2 1 c2)=w4.setRow b (za3 ⟨hv,lg,log,day,q,mp,pl,mr,ms,se,⟨A2,1,c2⟩,[i]⟩).toArray):=(setCell_eq_setRow w4 b 35 _ 141 (0,0) _ H4.blk).trans (congrArg (w4.setRow b) rfl)
 have HB8:=Lib.hid (H4.put (V':=⟨hv,lg,log,day,q,mp,pl,mr,ms,se,⟨A2,1,c2⟩,[i]⟩) ⟨H4.r.house,H4.r.lk,H4.r.pl,H4.r.rn,H4.r.se,H4.r.ne,rfl,HO2⟩ H4.log)
 have HKK:=Lib.hid ((K64.below ((HBX.out.trans (hbk.mono HBX.out.size)).trans (hb4.mono (Nat.le_trans HBX.out.size hs3)))).trans (K64.setRow H4.blk (by decide) (za3 ⟨hv,lg,log,day,q,mp,pl,mr,ms,se,⟨A2,1,c2⟩,[i]⟩).toArray))
 have HBL:=Lib.hid (((HBX.out.trans (hbk.mono HBX.out.size)).trans (hb4.mono (Nat.le_trans HBX.out.size hs3))).mono hxw)
 have HO9:=Lib.hid HO2
 clear H4 H3 H2 hb4 ho2 HO2 kk hbk IN d35
 go_wp2
 go_ret
 exact ⟨A2,c2,rfl,by rw [HS9.out];exact HB8.out,HBL.out.setCell hlx _,by rw [HS9.out];exact HKK.out⟩
end Go.Proofs.YtfdmeojcopkaoaaGreatDoor
namespace Go.Proofs.YtfdmeojcopkaoaaGreatDoor
open Go.RowKit
theorem idx_map {α β:Type} (f:α→β) (g:β→Bool):∀ (l:List α) (k:Nat),za0 (fun a=>g (f a)) l k=za0 g (l.map f) k
 | [],_=>rfl
 | a :: l,k=>by
  rw [List.map_cons,za0,za0,idx_map f g l]
def zk2 (L:List (List Int × Int)) (s:Int):Int:=za0 (fun t:List Int × Int=>zep t.1 s) L 0
theorem zef (q:LsV) (s:Int):zdh q s=zk2 (q.trs.map LtV.key) s:=idx_map LtV.key (fun t=>zep t.1 s) q.trs 0
theorem zh0 {q q':LsV} (h:LsS q) {t:LtV} (hi:q.trs[0]?=some t) {ch:List Int} {un:Int} (h1:q'.sws=q.sws) (h2:q'.trs.map LtV.key=(ch,un) :: q.trs.tail.map LtV.key) (hc:ch.length≤1000):LsS q':=by
 obtain ⟨a1,a2,a3⟩:=h
 have hl:0<q.trs.length:=(List.getElem?_eq_some_iff.1 hi).1
 refine ⟨?_,by rw [h1];exact a2,fun t ht=>?_⟩
 · have:=congrArg List.length h2
   simp only [List.length_map,List.length_cons,List.length_tail] at this
   omega
 · have hk:LtV.key t∈q'.trs.map LtV.key:=List.mem_map_of_mem ht
   rw [h2,List.mem_cons] at hk
   rcases hk with hk | hk
   · have e:t.chain=ch:=congrArg Prod.fst hk
     rw [e];exact hc
   · obtain ⟨t2,ht2,e2⟩:=List.mem_map.1 hk
     have e:t2.chain=t.chain:=congrArg Prod.fst e2
     rw [← e];exact a3 t2 (List.mem_of_mem_tail ht2)
theorem zfo (w:World) (y:Nat) (q:LsV) (s V:Int) (hV:zdh q s=V) (h:LsAt w w.heap.size q) (hS:LsS q) (hk:w.heap[y]?=some (.cells (za7 q).toArray 133 (0,0))) :
 Calls Tryz.prog 210 #[.int .i64 s,.pointer (some ⟨y,0,none⟩)] w fun e w'=>e=.returned (.bool (decide (0≤V)))∧Below w.heap.size w w':=by
 have HH:=zj1 w w.heap.size q s h hS (Nat.le_refl _)
 unfold zax at HH
 rw [hV] at HH
 clear h hS hV
 go_enter Tryz.func210,Tryz.ntmps210
 go_wp2_with (with_reducible refine zaz 133 ?_)
 unfold Stp
 refine wpList_load_row rfl 133 _ rfl y rfl 133 _ (0,0) _ hk Tryz.underlying133 rfl (by kernel_rfl) ?_
 go_wp2_with (go_at_call 193;refine HH.mono ?_;rintro e w9 ⟨rfl,hb9⟩)
 go_ret
 exact ⟨rfl,hb9⟩
theorem setLock_ok (w:World) (x b:Nat) (V:BookV) (h:BkAt w x b V) (hS:HouseS V.h) (hq:LsS V.q) (ht:CtAt w) (A:Option Addr) (c B:Nat) (s:ByteArray) (hr:Rd w B A (strCells [s])) (k a bb:Int) (PE:∀ W,CtAt W→Calls Tryz.prog 207 #[.string s] W (fun e w'=>e=.returned (.tuple #[.agg #[.int .i64 k,.int .i64 a,.int .i64 bb],.int .i64 0])∧Below W.heap.size W w')) (t:LtV) (hi:V.q.trs[0]?=some t) (ch:List Int) (un:Int) (hch:ch.length≤1000) (hxw:x≤w.heap.size) (hwk:V.works.length≤1000)
 (AP:∀ W,PlantAt W x V.h.plant→LsAt W W.heap.size V.q→x≤W.heap.size→Calls Tryz.prog 208 #[.agg (zan V.h.plant).toArray,.agg (za7 V.q).toArray,.agg #[.int .i64 k,.int .i64 a,.int .i64 bb]] W (zfj W V.q ch un)) (hf:V.works.any (fun s=>decide (0≤zk2 ((ch,un) :: V.q.trs.tail.map LtV.key) s))=false):Calls Tryz.prog 176 #[.pointer (some ⟨b,0,none⟩),.slice A 1 c] w fun e w'=>∃ q':LsV,q'.sws=V.q.sws∧q'.trs.map LtV.key=(ch,un) :: V.q.trs.tail.map LtV.key∧q'.ctr=V.q.ctr∧(DoPost w x b { V with q:=q' } e w'):=by
 obtain ⟨hv,lg,log,day,q,mp,pl,mr,ms,se,wk,works⟩:=V
 simp only at hq hi AP hf hwk ⊢
 obtain ⟨sb,so,rfl,hbb,z0⟩:=hr.at_ (k:=0) (u:=.string s) rfl
 rw [Nat.add_zero] at z0
 have HH:=Lib.hid h
 have PE1:=PE w ht
 clear hr h PE
 go_enter Tryz.func176,Tryz.ntmps176
 go_wp2_with (first | (go_at_call 207;refine PE1.mono ?_;rintro e w1 ⟨rfl,hb1⟩) | (with_reducible refine zat 292 ?_))
 have hba:=hB1 w1 (.cells #[.int .i64 0,.int .i64 0,.int .i64 0] 292)
 have k3:=hA1 w1 (.cells #[.int .i64 0,.int .i64 0,.int .i64 0] 292)
 unfold Stp
 refine wpList_store_row rfl 292 _ _ rfl w1.heap.size #[.int .i64 k,.int .i64 a,.int .i64 bb] rfl rfl 292 _ k3 (by kernel_rfl) rfl (by kernel_rfl) ?_
 have k4:=setRow_heap _ w1.heap.size _ #[.int .i64 k,.int .i64 a,.int .i64 bb] 292 (0,0) k3
 have hb4:Below w.heap.size w ((w1.alloc (.cells #[.int .i64 0,.int .i64 0,.int .i64 0] 292)).setRow w1.heap.size #[.int .i64 k,.int .i64 a,.int .i64 bb]):=below_setRow (hb1.trans (hba.mono hb1.size)) hb1.size _
 clear k3 hba PE1
 go_upto_region 2 with (fail)
 generalize (w1.alloc (.cells #[.int .i64 0,.int .i64 0,.int .i64 0] 292)).setRow w1.heap.size #[.int .i64 k,.int .i64 a,.int .i64 bb]=w2 at *
 generalize w1.heap.size=y at *
 have H2:=HH.out.keep hb4
 go_upto_region 4 with (fail)
 obtain ⟨e0,e1,e2⟩:_∧_∧_:=zbc k4
 have d0:=H2.house 0 (u:=hv.plant.ss.v) rfl
 have d1:=H2.house 1 (u:=hv.plant.ts.v) rfl
 have d2:=H2.house 2 (u:=hv.plant.ws.v) rfl
 have d3:=H2.house 3 (u:=hv.plant.rs.v) rfl
 have d27:=H2.cell (i:=27) (u:=q.sw.v) rfl
 have d28:=H2.cell (i:=28) (u:=q.tr.v) rfl
 have d29:=H2.cell (i:=29) (u:=.int .i64 q.ctr) rfl
 have x0:=fun y:Xt w2=>y.cell e0
 have x1:=fun y:Xt w2=>y.cell e1
 have x2:=fun y:Xt w2=>y.cell e2
 have x3:=fun y:Xt w2=>y.cell d0
 have x4:=fun y:Xt w2=>y.cell d1
 have x5:=fun y:Xt w2=>y.cell d2
 have x6:=fun y:Xt w2=>y.cell d3
 have x7:=fun y:Xt w2=>y.cell d27
 have x8:=fun y:Xt w2=>y.cell d28
 have x9:=fun y:Xt w2=>y.cell d29
 refine zaj [16] (fun w'=>∃ y:Xt w2,w'=y.1) (by kernel_rfl) ⟨⟨w2.drew,(Below.refl _ _).drew⟩,rfl⟩ ?_
 refine zao [0,1,2,3,4,5,6,7,8,9] 7 rfl (by kernel_rfl) ?_
 simp only [zad,zac,zaa,zX1,zX2,zX3]
 repeat (go_big_quiet_step (fail))
 refine wpQuiet_nil ?_
 have hbd:Below w2.heap.size w2 w2.drew:=(Below.refl _ _).drew
 show wpE _ _ _ _ _ _ _ _ _ w2.drew
 generalize w2.drew=wd at *
 clear x0 x1 x2 x3 x4 x5 x6 x7 x8 x9 e0 e1 e2 d0 d1 d2 d3 d27 d28 d29
 have AP1:=AP wd ((H2.keep hbd).r.house.plant) (((H2.keep hbd).r.lk).at) (by have:=hbd.size;have:=hb4.size;omega)
 change Calls Tryz.prog 208 #[.agg #[hv.plant.ss.v,hv.plant.ts.v,hv.plant.ws.v,hv.plant.rs.v],.agg #[q.sw.v,q.tr.v,.int .i64 q.ctr],.agg #[.int .i64 k,.int .i64 a,.int .i64 bb]] wd (zfj wd q ch un) at AP1
 have hba:=hB1 wd (.cells #[.slice none 0 0,.slice none 0 0,.int .i64 0] 133)
 have AP2:=AP (wd.alloc (.cells #[.slice none 0 0,.slice none 0 0,.int .i64 0] 133)) (((H2.keep hbd).keep hba).r.house.plant) ((((H2.keep hbd).keep hba).r.lk).at) (by have:=hbd.size;have:=hb4.size;have:=hba.size;omega)
 change Calls Tryz.prog 208 #[.agg #[hv.plant.ss.v,hv.plant.ts.v,hv.plant.ws.v,hv.plant.rs.v],.agg #[q.sw.v,q.tr.v,.int .i64 q.ctr],.agg #[.int .i64 k,.int .i64 a,.int .i64 bb]] (wd.alloc (.cells #[.slice none 0 0,.slice none 0 0,.int .i64 0] 133)) (zfj (wd.alloc (.cells #[.slice none 0 0,.slice none 0 0,.int .i64 0] 133)) q ch un) at AP2
 clear AP
 have hx4:x≤w2.heap.size:=by have:=hb4.size;omega
 refine zka (i:=10) (k:=14) rfl (by kernel_rfl) rfl rfl ?_ ?_
 all_goals unfold zap
 all_goals simp only [zad,zac,zaa,zX1,zX2,zX3]
 · go_wp2_with (go_at_call 208;refine AP1.mono ?_;rintro e w5 ⟨q',hk1,hk2,hk3,rfl,hO,hb5⟩)
   have hbe:=hbd.trans (hb5.mono hbd.size)
   refine zab ⟨⟨⟨_,hbe⟩,rfl⟩,?_⟩
   refine zao [11,12,13] 3 rfl (by kernel_rfl) ?_
   simp only [zad,zac,zaa,zX1,zX2,zX3]
   repeat (go_big_quiet_step (fail))
   refine wpQuiet_nil ?_
   have hbn:=hB1 w5 (.cells #[.slice none 0 0,.slice none 0 0,.int .i64 0] 133)
   have k5:=hA1 w5 (.cells #[.slice none 0 0,.slice none 0 0,.int .i64 0] 133)
   have hbf:=hbe.trans (hbn.mono hbe.size)
   have hg5:=Nat.le_refl w5.heap.size
   have hO6:=hO.keep hbn
   refine zak (i:=14) rfl (by kernel_rfl) rfl ?_
   unfold zap
   simp only [zad,zac,zaa,zX1,zX2,zX3]
   go_wp2
   refine zab ⟨⟨⟨_,hbf⟩,rfl⟩,?_⟩
   refine zak (i:=15) rfl (by kernel_rfl) rfl ?_
   unfold zap
   simp only [zad,zac,zaa,zX1,zX2,zX3]
   refine wpList_store_row rfl 133 _ _ rfl (w5.heap.size) (za7 q').toArray rfl rfl 133 _ k5 (by kernel_rfl) rfl (by kernel_rfl) ?_
   have k6:=setRow_heap (w5.alloc (.cells #[.slice none 0 0,.slice none 0 0,.int .i64 0] 133)) (w5.heap.size) _ (za7 q').toArray 133 (0,0) k5
   have hbz:Below w2.heap.size w2 ((w5.alloc (.cells #[.slice none 0 0,.slice none 0 0,.int .i64 0] 133)).setRow (w5.heap.size) (za7 q').toArray):=below_setRow hbf hbe.size _
   have hO7:=hO6.other (w':=(w5.alloc (.cells #[.slice none 0 0,.slice none 0 0,.int .i64 0] 133)).setRow (w5.heap.size) (za7 q').toArray) (fun k9 t9 cur ht9 hk9=>setRow_other _ _ _ _ (zcb hk9 k5 (by rcases ht9 with h8 | h8 <;> rw [h8] <;> decide)))
   have hO8:=hO7.base (x':=x) (by first | omega | (have:=hbd.size;have:=hbe.size;simp;omega) | (have:=hbd.size;simp;omega))
   generalize hyy:(w5.heap.size)=y2 at *
   clear hyy
   generalize (w5.alloc (.cells #[.slice none 0 0,.slice none 0 0,.int .i64 0] 133)).setRow y2 (za7 q').toArray=wz at *
   go_wp2
   refine zab ⟨⟨⟨_,hbz⟩,rfl⟩,?_⟩
   refine zau rfl (by kernel_rfl) ?_
   simp only [zad,zac,zaa,zX1,zX2,zX3]
   have HBZ:=Lib.hid (hb4.trans (hbz.mono hb4.size))
   have H9:=H2.keep hbz
   have HO9:=Lib.hid hO8
   have HKK:=Lib.hid (And.intro hk1 (And.intro hk2 hk3))
   have HK6:=Lib.hid k6
   have hq':=zh0 hq hi hk1 hk2 hch
   clear hk1 hk2 hk3 hO8 hO7 hO6 hbz hbf k6 k5
   go_wp2
   refine zab ?_
   have d35:=H9.cell (i:=35) (u:=.slice wk.A wk.n wk.c) rfl
   have hany:works.any (fun s=>decide (0≤zdh q' s))=false:=by
    have h9:(fun s=>decide (0≤zdh q' s))=(fun s=>decide (0≤zk2 ((ch,un) :: q.trs.tail.map LtV.key) s)):=by
     funext s
     rw [zef,HKK.out.2.1]
    rw [h9]
    exact hf
   have CF:=zc9 wk.A wk.n wk.c wz.heap.size works (fun s=>decide (0≤zdh q' s)) false hany y2 wz (by have:=H9.r.wk.1;simp only at this;omega) H9.r.wk.1 (zbe H9.r.wk.2) (Nat.le_refl _)
    (fun W s hb _=>zfo W y2 q' s _ rfl ((HO9.out.keep hb).at) hq' (zcd hb HK6.out))
   have hxz:x≤wz.heap.size:=Nat.le_trans hxw HBZ.out.size
   clear hany
   go_wp2_with (first | (go_at_call 209;refine CF.mono ?_;rintro e w9 ⟨rfl,hb9⟩) | (with_reducible refine zaz 133 ?_))
   unfold Stp
   refine wpList_load_row rfl 133 _ rfl y2 rfl 133 _ (0,0) _ (zcd hb9 HK6.out) Tryz.underlying133 rfl (by kernel_rfl) ?_
   have H10:=H9.keep hb9
   have HO10:=HO9.out.keep hb9
   have hbx:=HBZ.out.trans (hb9.mono HBZ.out.size)
   go_wp2_with (with_reducible refine zat 133 ?_)
   unfold Stp
   refine zbi rfl 133 _ _ rfl b 27 (za7 q').toArray rfl rfl 141 _ (za3 ⟨hv,lg,log,day,q',mp,pl,mr,ms,se,wk,works⟩).toArray H10.blk (by kernel_rfl) (by show 27+3≤38;omega) (by kernel_rfl) rfl ?_
   have HB8:=Lib.hid (H10.put (V':=⟨hv,lg,log,day,q',mp,pl,mr,ms,se,wk,works⟩) ⟨H10.r.house,HO10,H10.r.pl,H10.r.rn,H10.r.se,H10.r.ne,H10.r.wk⟩ H10.log)
   have HK9:=Lib.hid ((K64.below hbx).trans (K64.setRow H10.blk (by decide) (za3 ⟨hv,lg,log,day,q',mp,pl,mr,ms,se,wk,works⟩).toArray))
   have HBL:=Lib.hid (below_setRow (hbx.mono hxw) H10.xb (za3 ⟨hv,lg,log,day,q',mp,pl,mr,ms,se,wk,works⟩).toArray)
   clear H10 HO10 hbx hb9 CF d35
   generalize w9.setRow b (za3 ⟨hv,lg,log,day,q',mp,pl,mr,ms,se,wk,works⟩).toArray=w10 at *
   go_wp2
   go_ret
   exact ⟨q',HKK.out.1,HKK.out.2.1,HKK.out.2.2,rfl,HB8.out,HBL.out,HK9.out⟩
 · go_wp2
   have k5:=hA1 wd (.cells #[.slice none 0 0,.slice none 0 0,.int .i64 0] 133)
   have hbg:=hbd.trans (hba.mono hbd.size)
   refine zab ⟨⟨⟨_,hbg⟩,rfl⟩,?_⟩
   refine zak (i:=10) rfl (by kernel_rfl) rfl ?_
   unfold zap
   simp only [zad,zac,zaa,zX1,zX2,zX3]
   go_wp2_with (go_at_call 208;refine AP2.mono ?_;rintro e w5 ⟨q',hk1,hk2,hk3,rfl,hO6,hb5⟩)
   have hbf:=hbg.trans (hb5.mono hbg.size)
   replace k5:=zcd hb5 k5
   refine zab ⟨⟨⟨_,hbf⟩,rfl⟩,?_⟩
   refine zao [11,12,13] 2 rfl (by kernel_rfl) ?_
   simp only [zad,zac,zaa,zX1,zX2,zX3]
   repeat (go_big_quiet_step (fail))
   refine wpQuiet_nil ?_
   refine zak (i:=15) rfl (by kernel_rfl) rfl ?_
   unfold zap
   simp only [zad,zac,zaa,zX1,zX2,zX3]
   refine wpList_store_row rfl 133 _ _ rfl (wd.heap.size) (za7 q').toArray rfl rfl 133 _ k5 (by kernel_rfl) rfl (by kernel_rfl) ?_
   have k6:=setRow_heap w5 (wd.heap.size) _ (za7 q').toArray 133 (0,0) k5
   have hbz:Below w2.heap.size w2 (w5.setRow (wd.heap.size) (za7 q').toArray):=below_setRow hbf hbd.size _
   have hO7:=hO6.other (w':=w5.setRow (wd.heap.size) (za7 q').toArray) (fun k9 t9 cur ht9 hk9=>setRow_other _ _ _ _ (zcb hk9 k5 (by rcases ht9 with h8 | h8 <;> rw [h8] <;> decide)))
   have hO8:=hO7.base (x':=x) (by first | omega | (have:=hbd.size;have:=hbe.size;simp;omega) | (have:=hbd.size;simp;omega))
   generalize hyy:(wd.heap.size)=y2 at *
   clear hyy
   generalize w5.setRow y2 (za7 q').toArray=wz at *
   go_wp2
   refine zab ⟨⟨⟨_,hbz⟩,rfl⟩,?_⟩
   refine zau rfl (by kernel_rfl) ?_
   simp only [zad,zac,zaa,zX1,zX2,zX3]
   have HBZ:=Lib.hid (hb4.trans (hbz.mono hb4.size))
   have H9:=H2.keep hbz
   have HO9:=Lib.hid hO8
   have HKK:=Lib.hid (And.intro hk1 (And.intro hk2 hk3))
   have HK6:=Lib.hid k6
   have hq':=zh0 hq hi hk1 hk2 hch
   clear hk1 hk2 hk3 hO8 hO7 hO6 hbz hbf k6 k5
   go_wp2
   refine zab ?_
   have d35:=H9.cell (i:=35) (u:=.slice wk.A wk.n wk.c) rfl
   have hany:works.any (fun s=>decide (0≤zdh q' s))=false:=by
    have h9:(fun s=>decide (0≤zdh q' s))=(fun s=>decide (0≤zk2 ((ch,un) :: q.trs.tail.map LtV.key) s)):=by
     funext s
     rw [zef,HKK.out.2.1]
    rw [h9]
    exact hf
   have CF:=zc9 wk.A wk.n wk.c wz.heap.size works (fun s=>decide (0≤zdh q' s)) false hany y2 wz (by have:=H9.r.wk.1;simp only at this;omega) H9.r.wk.1 (zbe H9.r.wk.2) (Nat.le_refl _)
    (fun W s hb _=>zfo W y2 q' s _ rfl ((HO9.out.keep hb).at) hq' (zcd hb HK6.out))
   have hxz:x≤wz.heap.size:=Nat.le_trans hxw HBZ.out.size
   clear hany
   go_wp2_with (first | (go_at_call 209;refine CF.mono ?_;rintro e w9 ⟨rfl,hb9⟩) | (with_reducible refine zaz 133 ?_))
   unfold Stp
   refine wpList_load_row rfl 133 _ rfl y2 rfl 133 _ (0,0) _ (zcd hb9 HK6.out) Tryz.underlying133 rfl (by kernel_rfl) ?_
   have H10:=H9.keep hb9
   have HO10:=HO9.out.keep hb9
   have hbx:=HBZ.out.trans (hb9.mono HBZ.out.size)
   go_wp2_with (with_reducible refine zat 133 ?_)
   unfold Stp
   refine zbi rfl 133 _ _ rfl b 27 (za7 q').toArray rfl rfl 141 _ (za3 ⟨hv,lg,log,day,q',mp,pl,mr,ms,se,wk,works⟩).toArray H10.blk (by kernel_rfl) (by show 27+3≤38;omega) (by kernel_rfl) rfl ?_
   have HB8:=Lib.hid (H10.put (V':=⟨hv,lg,log,day,q',mp,pl,mr,ms,se,wk,works⟩) ⟨H10.r.house,HO10,H10.r.pl,H10.r.rn,H10.r.se,H10.r.ne,H10.r.wk⟩ H10.log)
   have HK9:=Lib.hid ((K64.below hbx).trans (K64.setRow H10.blk (by decide) (za3 ⟨hv,lg,log,day,q',mp,pl,mr,ms,se,wk,works⟩).toArray))
   have HBL:=Lib.hid (below_setRow (hbx.mono hxw) H10.xb (za3 ⟨hv,lg,log,day,q',mp,pl,mr,ms,se,wk,works⟩).toArray)
   clear H10 HO10 hbx hb9 CF d35
   generalize w9.setRow b (za3 ⟨hv,lg,log,day,q',mp,pl,mr,ms,se,wk,works⟩).toArray=w10 at *
   go_wp2
   go_ret
   exact ⟨q',HKK.out.1,HKK.out.2.1,HKK.out.2.2,rfl,HB8.out,HBL.out,HK9.out⟩
theorem setLock_no (w:World) (x b:Nat) (V:BookV) (h:BkAt w x b V) (hS:HouseS V.h) (hq:LsS V.q) (ht:CtAt w) (A:Option Addr) (c B:Nat) (s:ByteArray) (hr:Rd w B A (strCells [s])) (k a bb:Int) (PE:∀ W,CtAt W→Calls Tryz.prog 207 #[.string s] W (fun e w'=>e=.returned (.tuple #[.agg #[.int .i64 k,.int .i64 a,.int .i64 bb],.int .i64 0])∧Below W.heap.size W w')) (t:LtV) (hi:V.q.trs[0]?=some t) (ch:List Int) (un:Int) (hch:ch.length≤1000) (hxw:x≤w.heap.size) (hwk:V.works.length≤1000)
 (AP:∀ W,PlantAt W x V.h.plant→LsAt W W.heap.size V.q→x≤W.heap.size→Calls Tryz.prog 208 #[.agg (zan V.h.plant).toArray,.agg (za7 V.q).toArray,.agg #[.int .i64 k,.int .i64 a,.int .i64 bb]] W (zfj W V.q ch un)) (hf:V.works.any (fun s=>decide (0≤zk2 ((ch,un) :: V.q.trs.tail.map LtV.key) s))=true):Calls Tryz.prog 176 #[.pointer (some ⟨b,0,none⟩),.slice A 1 c] w fun e w'=>∃ q':LsV,q'.sws=V.q.sws∧q'.trs.map LtV.key=(ch,un) :: V.q.trs.tail.map LtV.key∧q'.ctr=V.q.ctr∧(e=.returned (.int .i64 28)∧BkAt w' x b V∧Below x w w'∧K64 w w'):=by
 obtain ⟨hv,lg,log,day,q,mp,pl,mr,ms,se,wk,works⟩:=V
 simp only at hq hi AP hf hwk ⊢
 obtain ⟨sb,so,rfl,hbb,z0⟩:=hr.at_ (k:=0) (u:=.string s) rfl
 rw [Nat.add_zero] at z0
 have HH:=Lib.hid h
 have PE1:=PE w ht
 clear hr h PE
 go_enter Tryz.func176,Tryz.ntmps176
 go_wp2_with (first | (go_at_call 207;refine PE1.mono ?_;rintro e w1 ⟨rfl,hb1⟩) | (with_reducible refine zat 292 ?_))
 have hba:=hB1 w1 (.cells #[.int .i64 0,.int .i64 0,.int .i64 0] 292)
 have k3:=hA1 w1 (.cells #[.int .i64 0,.int .i64 0,.int .i64 0] 292)
 unfold Stp
 refine wpList_store_row rfl 292 _ _ rfl w1.heap.size #[.int .i64 k,.int .i64 a,.int .i64 bb] rfl rfl 292 _ k3 (by kernel_rfl) rfl (by kernel_rfl) ?_
 have k4:=setRow_heap _ w1.heap.size _ #[.int .i64 k,.int .i64 a,.int .i64 bb] 292 (0,0) k3
 have hb4:Below w.heap.size w ((w1.alloc (.cells #[.int .i64 0,.int .i64 0,.int .i64 0] 292)).setRow w1.heap.size #[.int .i64 k,.int .i64 a,.int .i64 bb]):=below_setRow (hb1.trans (hba.mono hb1.size)) hb1.size _
 clear k3 hba PE1
 go_upto_region 2 with (fail)
 generalize (w1.alloc (.cells #[.int .i64 0,.int .i64 0,.int .i64 0] 292)).setRow w1.heap.size #[.int .i64 k,.int .i64 a,.int .i64 bb]=w2 at *
 generalize w1.heap.size=y at *
 have H2:=HH.out.keep hb4
 go_upto_region 4 with (fail)
 obtain ⟨e0,e1,e2⟩:_∧_∧_:=zbc k4
 have d0:=H2.house 0 (u:=hv.plant.ss.v) rfl
 have d1:=H2.house 1 (u:=hv.plant.ts.v) rfl
 have d2:=H2.house 2 (u:=hv.plant.ws.v) rfl
 have d3:=H2.house 3 (u:=hv.plant.rs.v) rfl
 have d27:=H2.cell (i:=27) (u:=q.sw.v) rfl
 have d28:=H2.cell (i:=28) (u:=q.tr.v) rfl
 have d29:=H2.cell (i:=29) (u:=.int .i64 q.ctr) rfl
 have x0:=fun y:Xt w2=>y.cell e0
 have x1:=fun y:Xt w2=>y.cell e1
 have x2:=fun y:Xt w2=>y.cell e2
 have x3:=fun y:Xt w2=>y.cell d0
 have x4:=fun y:Xt w2=>y.cell d1
 have x5:=fun y:Xt w2=>y.cell d2
 have x6:=fun y:Xt w2=>y.cell d3
 have x7:=fun y:Xt w2=>y.cell d27
 have x8:=fun y:Xt w2=>y.cell d28
 have x9:=fun y:Xt w2=>y.cell d29
 refine zaj [16] (fun w'=>∃ y:Xt w2,w'=y.1) (by kernel_rfl) ⟨⟨w2.drew,(Below.refl _ _).drew⟩,rfl⟩ ?_
 refine zao [0,1,2,3,4,5,6,7,8,9] 7 rfl (by kernel_rfl) ?_
 simp only [zad,zac,zaa,zX1,zX2,zX3]
 repeat (go_big_quiet_step (fail))
 refine wpQuiet_nil ?_
 have hbd:Below w2.heap.size w2 w2.drew:=(Below.refl _ _).drew
 show wpE _ _ _ _ _ _ _ _ _ w2.drew
 generalize w2.drew=wd at *
 clear x0 x1 x2 x3 x4 x5 x6 x7 x8 x9 e0 e1 e2 d0 d1 d2 d3 d27 d28 d29
 have AP1:=AP wd ((H2.keep hbd).r.house.plant) (((H2.keep hbd).r.lk).at) (by have:=hbd.size;have:=hb4.size;omega)
 change Calls Tryz.prog 208 #[.agg #[hv.plant.ss.v,hv.plant.ts.v,hv.plant.ws.v,hv.plant.rs.v],.agg #[q.sw.v,q.tr.v,.int .i64 q.ctr],.agg #[.int .i64 k,.int .i64 a,.int .i64 bb]] wd (zfj wd q ch un) at AP1
 have hba:=hB1 wd (.cells #[.slice none 0 0,.slice none 0 0,.int .i64 0] 133)
 have AP2:=AP (wd.alloc (.cells #[.slice none 0 0,.slice none 0 0,.int .i64 0] 133)) (((H2.keep hbd).keep hba).r.house.plant) ((((H2.keep hbd).keep hba).r.lk).at) (by have:=hbd.size;have:=hb4.size;have:=hba.size;omega)
 change Calls Tryz.prog 208 #[.agg #[hv.plant.ss.v,hv.plant.ts.v,hv.plant.ws.v,hv.plant.rs.v],.agg #[q.sw.v,q.tr.v,.int .i64 q.ctr],.agg #[.int .i64 k,.int .i64 a,.int .i64 bb]] (wd.alloc (.cells #[.slice none 0 0,.slice none 0 0,.int .i64 0] 133)) (zfj (wd.alloc (.cells #[.slice none 0 0,.slice none 0 0,.int .i64 0] 133)) q ch un) at AP2
 clear AP
 have hx4:x≤w2.heap.size:=by have:=hb4.size;omega
 refine zka (i:=10) (k:=14) rfl (by kernel_rfl) rfl rfl ?_ ?_
 all_goals unfold zap
 all_goals simp only [zad,zac,zaa,zX1,zX2,zX3]
 · go_wp2_with (go_at_call 208;refine AP1.mono ?_;rintro e w5 ⟨q',hk1,hk2,hk3,rfl,hO,hb5⟩)
   have hbe:=hbd.trans (hb5.mono hbd.size)
   refine zab ⟨⟨⟨_,hbe⟩,rfl⟩,?_⟩
   refine zao [11,12,13] 3 rfl (by kernel_rfl) ?_
   simp only [zad,zac,zaa,zX1,zX2,zX3]
   repeat (go_big_quiet_step (fail))
   refine wpQuiet_nil ?_
   have hbn:=hB1 w5 (.cells #[.slice none 0 0,.slice none 0 0,.int .i64 0] 133)
   have k5:=hA1 w5 (.cells #[.slice none 0 0,.slice none 0 0,.int .i64 0] 133)
   have hbf:=hbe.trans (hbn.mono hbe.size)
   have hg5:=Nat.le_refl w5.heap.size
   have hO6:=hO.keep hbn
   refine zak (i:=14) rfl (by kernel_rfl) rfl ?_
   unfold zap
   simp only [zad,zac,zaa,zX1,zX2,zX3]
   go_wp2
   refine zab ⟨⟨⟨_,hbf⟩,rfl⟩,?_⟩
   refine zak (i:=15) rfl (by kernel_rfl) rfl ?_
   unfold zap
   simp only [zad,zac,zaa,zX1,zX2,zX3]
   refine wpList_store_row rfl 133 _ _ rfl (w5.heap.size) (za7 q').toArray rfl rfl 133 _ k5 (by kernel_rfl) rfl (by kernel_rfl) ?_
   have k6:=setRow_heap (w5.alloc (.cells #[.slice none 0 0,.slice none 0 0,.int .i64 0] 133)) (w5.heap.size) _ (za7 q').toArray 133 (0,0) k5
   have hbz:Below w2.heap.size w2 ((w5.alloc (.cells #[.slice none 0 0,.slice none 0 0,.int .i64 0] 133)).setRow (w5.heap.size) (za7 q').toArray):=below_setRow hbf hbe.size _
   have hO7:=hO6.other (w':=(w5.alloc (.cells #[.slice none 0 0,.slice none 0 0,.int .i64 0] 133)).setRow (w5.heap.size) (za7 q').toArray) (fun k9 t9 cur ht9 hk9=>setRow_other _ _ _ _ (zcb hk9 k5 (by rcases ht9 with h8 | h8 <;> rw [h8] <;> decide)))
   have hO8:=hO7.base (x':=x) (by first | omega | (have:=hbd.size;have:=hbe.size;simp;omega) | (have:=hbd.size;simp;omega))
   generalize hyy:(w5.heap.size)=y2 at *
   clear hyy
   generalize (w5.alloc (.cells #[.slice none 0 0,.slice none 0 0,.int .i64 0] 133)).setRow y2 (za7 q').toArray=wz at *
   go_wp2
   refine zab ⟨⟨⟨_,hbz⟩,rfl⟩,?_⟩
   refine zau rfl (by kernel_rfl) ?_
   simp only [zad,zac,zaa,zX1,zX2,zX3]
   have HBZ:=Lib.hid (hb4.trans (hbz.mono hb4.size))
   have H9:=H2.keep hbz
   have HO9:=Lib.hid hO8
   have HKK:=Lib.hid (And.intro hk1 (And.intro hk2 hk3))
   have HK6:=Lib.hid k6
   have hq':=zh0 hq hi hk1 hk2 hch
   clear hk1 hk2 hk3 hO8 hO7 hO6 hbz hbf k6 k5
   go_wp2
   refine zab ?_
   have d35:=H9.cell (i:=35) (u:=.slice wk.A wk.n wk.c) rfl
   have hany:works.any (fun s=>decide (0≤zdh q' s))=true:=by
    have h9:(fun s=>decide (0≤zdh q' s))=(fun s=>decide (0≤zk2 ((ch,un) :: q.trs.tail.map LtV.key) s)):=by
     funext s
     rw [zef,HKK.out.2.1]
    rw [h9]
    exact hf
   have CF:=zc9 wk.A wk.n wk.c wz.heap.size works (fun s=>decide (0≤zdh q' s)) true hany y2 wz (by have:=H9.r.wk.1;simp only at this;omega) H9.r.wk.1 (zbe H9.r.wk.2) (Nat.le_refl _)
    (fun W s hb _=>zfo W y2 q' s _ rfl ((HO9.out.keep hb).at) hq' (zcd hb HK6.out))
   have hxz:x≤wz.heap.size:=Nat.le_trans hxw HBZ.out.size
   clear hany
   go_wp2_with (go_at_call 209;refine CF.mono ?_;rintro e w9 ⟨rfl,hb9⟩)
   go_ret
   exact ⟨q',HKK.out.1,HKK.out.2.1,HKK.out.2.2,rfl,H9.keep hb9,(HBZ.out.trans (hb9.mono HBZ.out.size)).mono hxw,K64.below (HBZ.out.trans (hb9.mono HBZ.out.size))⟩
 · go_wp2
   have k5:=hA1 wd (.cells #[.slice none 0 0,.slice none 0 0,.int .i64 0] 133)
   have hbg:=hbd.trans (hba.mono hbd.size)
   refine zab ⟨⟨⟨_,hbg⟩,rfl⟩,?_⟩
   refine zak (i:=10) rfl (by kernel_rfl) rfl ?_
   unfold zap
   simp only [zad,zac,zaa,zX1,zX2,zX3]
   go_wp2_with (go_at_call 208;refine AP2.mono ?_;rintro e w5 ⟨q',hk1,hk2,hk3,rfl,hO6,hb5⟩)
   have hbf:=hbg.trans (hb5.mono hbg.size)
   replace k5:=zcd hb5 k5
   refine zab ⟨⟨⟨_,hbf⟩,rfl⟩,?_⟩
   refine zao [11,12,13] 2 rfl (by kernel_rfl) ?_
   simp only [zad,zac,zaa,zX1,zX2,zX3]
   repeat (go_big_quiet_step (fail))
   refine wpQuiet_nil ?_
   refine zak (i:=15) rfl (by kernel_rfl) rfl ?_
   unfold zap
   simp only [zad,zac,zaa,zX1,zX2,zX3]
   refine wpList_store_row rfl 133 _ _ rfl (wd.heap.size) (za7 q').toArray rfl rfl 133 _ k5 (by kernel_rfl) rfl (by kernel_rfl) ?_
   have k6:=setRow_heap w5 (wd.heap.size) _ (za7 q').toArray 133 (0,0) k5
   have hbz:Below w2.heap.size w2 (w5.setRow (wd.heap.size) (za7 q').toArray):=below_setRow hbf hbd.size _
   have hO7:=hO6.other (w':=w5.setRow (wd.heap.size) (za7 q').toArray) (fun k9 t9 cur ht9 hk9=>setRow_other _ _ _ _ (zcb hk9 k5 (by rcases ht9 with h8 | h8 <;> rw [h8] <;> decide)))
   have hO8:=hO7.base (x':=x) (by first | omega | (have:=hbd.size;have:=hbe.size;simp;omega) | (have:=hbd.size;simp;omega))
   generalize hyy:(wd.heap.size)=y2 at *
   clear hyy
   generalize w5.setRow y2 (za7 q').toArray=wz at *
   go_wp2
   refine zab ⟨⟨⟨_,hbz⟩,rfl⟩,?_⟩
   refine zau rfl (by kernel_rfl) ?_
   simp only [zad,zac,zaa,zX1,zX2,zX3]
   have HBZ:=Lib.hid (hb4.trans (hbz.mono hb4.size))
   have H9:=H2.keep hbz
   have HO9:=Lib.hid hO8
   have HKK:=Lib.hid (And.intro hk1 (And.intro hk2 hk3))
   have HK6:=Lib.hid k6
   have hq':=zh0 hq hi hk1 hk2 hch
   clear hk1 hk2 hk3 hO8 hO7 hO6 hbz hbf k6 k5
   go_wp2
   refine zab ?_
   have d35:=H9.cell (i:=35) (u:=.slice wk.A wk.n wk.c) rfl
   have hany:works.any (fun s=>decide (0≤zdh q' s))=true:=by
    have h9:(fun s=>decide (0≤zdh q' s))=(fun s=>decide (0≤zk2 ((ch,un) :: q.trs.tail.map LtV.key) s)):=by
     funext s
     rw [zef,HKK.out.2.1]
    rw [h9]
    exact hf
   have CF:=zc9 wk.A wk.n wk.c wz.heap.size works (fun s=>decide (0≤zdh q' s)) true hany y2 wz (by have:=H9.r.wk.1;simp only at this;omega) H9.r.wk.1 (zbe H9.r.wk.2) (Nat.le_refl _)
    (fun W s hb _=>zfo W y2 q' s _ rfl ((HO9.out.keep hb).at) hq' (zcd hb HK6.out))
   have hxz:x≤wz.heap.size:=Nat.le_trans hxw HBZ.out.size
   clear hany
   go_wp2_with (go_at_call 209;refine CF.mono ?_;rintro e w9 ⟨rfl,hb9⟩)
   go_ret
   exact ⟨q',HKK.out.1,HKK.out.2.1,HKK.out.2.2,rfl,H9.keep hb9,(HBZ.out.trans (hb9.mono HBZ.out.size)).mono hxw,K64.below (HBZ.out.trans (hb9.mono HBZ.out.size))⟩
end Go.Proofs.YtfdmeojcopkaoaaGreatDoor
namespace Go.Proofs.YtfdmeojcopkaoaaGreatDoor
open Go.RowKit
def winN (v:VanV):Int:=if v.round=true then v.vanes.length else (v.vanes.length:Int) - v.window+1
def winL (v:VanV) (i:Nat):List Int:=(List.range 12).map fun (k:Nat)=>if (k:Int)<v.window then v.vanes.getD ((i+k) % v.vanes.length) 0 else 0
def zdx (l:List Int):List Int:=(List.range 12).map fun k=>l.getD k 0
def difP (a b:Int):Bool:=(a != b) && (a != 2) && (b != 2)
def difK (a b:List Int) (n:Nat):Nat:=((List.range n).filter fun k=>difP (a.getD k 0) (b.getD k 0)).length
def difN (a b:List Int):Nat:=difK a b 12
theorem difK_succ (a b:List Int) (n:Nat):difK a b (n+1)=difK a b n+if difP (a.getD n 0) (b.getD n 0)=true then 1 else 0:=by
 unfold difK
 rw [List.range_succ,List.filter_append,List.length_append]
 congr 1
 cases h:difP (a.getD n 0) (b.getD n 0) <;> simp only [List.filter_cons,h] <;> rfl
def zh6 (x:Int):Bool:=zfq x || (x == 2)
theorem isSeen_val (x:Int) (b:Bool) (h:zh6 x=b) (w:World):Calls Tryz.prog 353 #[.int .i64 x] w fun e w'=>e=.returned (.bool b)∧w=w':=by
 obtain ⟨c,hc⟩:∃ c,zfq x=c:=⟨_,rfl⟩
 have I:=fun W=>isBit_val x c hc W
 have HB:Hid ((c || (x == 2))=b):=by rw [Hid,← h,← hc];rfl
 clear h hc
 cases c with
 | true =>
  go_enter Tryz.func353,Tryz.ntmps353
  go_wp2_with (go_at_call 78;refine (I _).mono ?_;rintro e w' ⟨rfl,rfl⟩)
  go_ret
  exact ⟨by rw [← HB.out];rfl,rfl⟩
 | false =>
  go_enter Tryz.func353,Tryz.ntmps353
  go_wp2_with (go_at_call 78;refine (I _).mono ?_;rintro e w' ⟨rfl,rfl⟩)
  go_ret
  exact ⟨by rw [← HB.out];rfl,rfl⟩
theorem zig (x:Int) (b:Bool) (h:zh6 x=b) (w:World):Calls Tryz.prog 352 #[.int .i64 x] w fun e w'=>e=.returned (.bool (!b))∧w=w':=by
 have I:=fun W=>isSeen_val x b h W
 clear h
 go_enter Tryz.func352,Tryz.ntmps352
 go_wp2_with (go_at_call 353;refine (I _).mono ?_;rintro e w' ⟨rfl,rfl⟩)
 go_ret
 exact ⟨rfl,rfl⟩
theorem agg12_at (a0 a1 a2 a3 a4 a5 a6 a7 a8 a9 a10 a11:Int) (k:Nat) (h:k<12) (W:World):Sem.run Tryz.prog (Instr.index 459 (.agg #[.int .i64 a0,.int .i64 a1,.int .i64 a2,.int .i64 a3,.int .i64 a4,.int .i64 a5,.int .i64 a6,.int .i64 a7,.int .i64 a8,.int .i64 a9,.int .i64 a10,.int .i64 a11]) (.int .i64 (k:Int))) W=.ok (.int .i64 ([a0,a1,a2,a3,a4,a5,a6,a7,a8,a9,a10,a11].getD k 0)) W:=by
 have:k=0∨k=1∨k=2∨k=3∨k=4∨k=5∨k=6∨k=7∨k=8∨k=9∨k=10∨k=11:=by omega
 rcases this with rfl | rfl | rfl | rfl | rfl | rfl | rfl | rfl | rfl | rfl | rfl | rfl <;> (show _=_;kernel_rfl)
theorem cells12_at (b0 b1 b2 b3 b4 b5 b6 b7 b8 b9 b10 b11:Int) (k:Nat) (h:k<12):(#[.int .i64 b0,.int .i64 b1,.int .i64 b2,.int .i64 b3,.int .i64 b4,.int .i64 b5,.int .i64 b6,.int .i64 b7,.int .i64 b8,.int .i64 b9,.int .i64 b10,.int .i64 b11]:Array Value)[k]?=some (.int .i64 ([b0,b1,b2,b3,b4,b5,b6,b7,b8,b9,b10,b11].getD k 0)):=by
 have:k=0∨k=1∨k=2∨k=3∨k=4∨k=5∨k=6∨k=7∨k=8∨k=9∨k=10∨k=11:=by omega
 rcases this with rfl | rfl | rfl | rfl | rfl | rfl | rfl | rfl | rfl | rfl | rfl | rfl <;> rfl
def DifRel (w:World) (a b:List Int) (u5 u9:Value) (wr:World):Prop:=∃ k:Nat,k≤12∧u9=.int .i64 k∧u5=.int .i64 (difK a b k)∧wr=w
theorem difK_le (a b:List Int):∀ n:Nat,difK a b n≤n:=fun n=>by
 unfold difK
 exact Nat.le_trans (List.length_filter_le _ _) (by simp)
theorem list12 {l:List Int} (h:l.length=12):∃ a0 a1 a2 a3 a4 a5 a6 a7 a8 a9 a10 a11,l=[a0,a1,a2,a3,a4,a5,a6,a7,a8,a9,a10,a11]:=by
 match l,h with
 | [a0,a1,a2,a3,a4,a5,a6,a7,a8,a9,a10,a11],_=>exact ⟨a0,a1,a2,a3,a4,a5,a6,a7,a8,a9,a10,a11,rfl⟩
theorem differ_any (a b:List Int) (ha:a.length=12) (hb:b.length=12) (w:World):Calls Tryz.prog 357 #[.agg (zah a).toArray,.agg (zah b).toArray] w (zax w (difN a b)):=by
 obtain ⟨a0,a1,a2,a3,a4,a5,a6,a7,a8,a9,a10,a11,rfl⟩:=list12 ha
 obtain ⟨b0,b1,b2,b3,b4,b5,b6,b7,b8,b9,b10,b11,rfl⟩:=list12 hb
 show Calls Tryz.prog 357 #[.agg #[.int .i64 a0,.int .i64 a1,.int .i64 a2,.int .i64 a3,.int .i64 a4,.int .i64 a5,.int .i64 a6,.int .i64 a7,.int .i64 a8,.int .i64 a9,.int .i64 a10,.int .i64 a11],.agg #[.int .i64 b0,.int .i64 b1,.int .i64 b2,.int .i64 b3,.int .i64 b4,.int .i64 b5,.int .i64 b6,.int .i64 b7,.int .i64 b8,.int .i64 b9,.int .i64 b10,.int .i64 b11]] w _
 have k1:=hA2a w (.cells #[.int .i64 a0,.int .i64 a1,.int .i64 a2,.int .i64 a3,.int .i64 a4,.int .i64 a5,.int .i64 a6,.int .i64 a7,.int .i64 a8,.int .i64 a9,.int .i64 a10,.int .i64 a11] 459) (.cells #[.int .i64 b0,.int .i64 b1,.int .i64 b2,.int .i64 b3,.int .i64 b4,.int .i64 b5,.int .i64 b6,.int .i64 b7,.int .i64 b8,.int .i64 b9,.int .i64 b10,.int .i64 b11] 459)
 have k2:=hA2b w (.cells #[.int .i64 a0,.int .i64 a1,.int .i64 a2,.int .i64 a3,.int .i64 a4,.int .i64 a5,.int .i64 a6,.int .i64 a7,.int .i64 a8,.int .i64 a9,.int .i64 a10,.int .i64 a11] 459) (.cells #[.int .i64 b0,.int .i64 b1,.int .i64 b2,.int .i64 b3,.int .i64 b4,.int .i64 b5,.int .i64 b6,.int .i64 b7,.int .i64 b8,.int .i64 b9,.int .i64 b10,.int .i64 b11] 459)
 have hb0:=hB2 w (.cells #[.int .i64 a0,.int .i64 a1,.int .i64 a2,.int .i64 a3,.int .i64 a4,.int .i64 a5,.int .i64 a6,.int .i64 a7,.int .i64 a8,.int .i64 a9,.int .i64 a10,.int .i64 a11] 459) (.cells #[.int .i64 b0,.int .i64 b1,.int .i64 b2,.int .i64 b3,.int .i64 b4,.int .i64 b5,.int .i64 b6,.int .i64 b7,.int .i64 b8,.int .i64 b9,.int .i64 b10,.int .i64 b11] 459)
 have HB:=Lib.hid hb0
 have IA:=agg12_at a0 a1 a2 a3 a4 a5 a6 a7 a8 a9 a10 a11
 have CB:=cells12_at b0 b1 b2 b3 b4 b5 b6 b7 b8 b9 b10 b11
 obtain ⟨la,hla⟩:∃ la,[a0,a1,a2,a3,a4,a5,a6,a7,a8,a9,a10,a11]=la:=⟨_,rfl⟩
 obtain ⟨lb,hlb⟩:∃ lb,[b0,b1,b2,b3,b4,b5,b6,b7,b8,b9,b10,b11]=lb:=⟨_,rfl⟩
 rw [hla] at IA ⊢
 rw [hlb] at CB ⊢
 clear hb0 ha hb hla hlb
 go_enter Tryz.func357,Tryz.ntmps357
 go_upto_region 1 with (fail)
 generalize (w.alloc (.cells #[.int .i64 a0,.int .i64 a1,.int .i64 a2,.int .i64 a3,.int .i64 a4,.int .i64 a5,.int .i64 a6,.int .i64 a7,.int .i64 a8,.int .i64 a9,.int .i64 a10,.int .i64 a11] 459)).alloc (.cells #[.int .i64 b0,.int .i64 b1,.int .i64 b2,.int .i64 b3,.int .i64 b4,.int .i64 b5,.int .i64 b6,.int .i64 b7,.int .i64 b8,.int .i64 b9,.int .i64 b10,.int .i64 b11] 459)=w0 at *
 generalize hbw:w.heap.size=bw at *
 have HBW:=Lib.hid hbw
 clear hbw
 go_wp2_with (with_reducible refine zaz 459 ?_)
 unfold Stp
 refine wpList_load_row rfl 459 _ rfl bw rfl 459 _ (0,0) _ k1 Tryz.underlying459 rfl (by kernel_rfl) ?_
 clear k1
 generalize (#[.int .i64 a0,.int .i64 a1,.int .i64 a2,.int .i64 a3,.int .i64 a4,.int .i64 a5,.int .i64 a6,.int .i64 a7,.int .i64 a8,.int .i64 a9,.int .i64 a10,.int .i64 a11]:Array Value)=ca at *
 generalize (#[.int .i64 b0,.int .i64 b1,.int .i64 b2,.int .i64 b3,.int .i64 b4,.int .i64 b5,.int .i64 b6,.int .i64 b7,.int .i64 b8,.int .i64 b9,.int .i64 b10,.int .i64 b11]:Array Value)=cb at *
 go_wp2
 go_loopw [5,9] (fun u5 u9 wr=>DifRel w0 la lb u5 u9 wr) (fun _ u9 _=>12 - (intOf u9).toNat)
 case atStart=>exact ⟨0,by omega,rfl,rfl,rfl⟩
 case round =>
  obtain ⟨k,hk,rfl,rfl,hw⟩:=hrel
  replace hw:=hw.symm
  subst hw
  by_cases hlt:k<12
  · have i1:=IA k hlt
    have c1:=(cell_of_row w0 (bw+1) k _ _ _ k2).trans (CB k hlt)
    have HS:=Lib.hid (difK_succ la lb k)
    have hle:=difK_le la lb k
    generalize la.getD k 0=x at *
    generalize lb.getD k 0=y at *
    generalize difK la lb k=m at *
    clear IA CB k2
    by_cases e1:x=y
    · have q1:(x != y)=false:=by simp [e1]
      have HD:Hid (difP x y=false):=by rw [Hid,difP,q1];rfl
      clear e1
      go_wp2
      go_roundw
      case rel=>exact ⟨k+1,hlt,by go_num,by rw [HS.out,HD.out];rfl,rfl⟩
      case measure=>simp [intOf];omega
    · have q1:(x != y)=true:=by simp [e1]
      clear e1
      by_cases e2:x=2
      · have q2:(x != 2)=false:=by simp [e2]
        have HD:Hid (difP x y=false):=by rw [Hid,difP,q1,q2];rfl
        clear e2
        go_wp2
        go_roundw
        case rel=>exact ⟨k+1,hlt,by go_num,by rw [HS.out,HD.out];rfl,rfl⟩
        case measure=>simp [intOf];omega
      · have q2:(x != 2)=true:=by simp [e2]
        clear e2
        by_cases e3:y=2
        · have q3:(y != 2)=false:=by simp [e3]
          have HD:Hid (difP x y=false):=by rw [Hid,difP,q1,q2,q3];rfl
          clear e3
          go_wp2
          go_roundw
          case rel=>exact ⟨k+1,hlt,by go_num,by rw [HS.out,HD.out];rfl,rfl⟩
          case measure=>simp [intOf];omega
        · have q3:(y != 2)=true:=by simp [e3]
          have HD:Hid (difP x y=true):=by rw [Hid,difP,q1,q2,q3];rfl
          clear e3
          go_wp2
          go_roundw
          case rel=>exact ⟨k+1,hlt,by go_num,by rw [HS.out,HD.out];go_num,rfl⟩
          case measure=>simp [intOf];omega
  · obtain rfl:k=12:=by omega
    clear IA CB k2
    go_wp2
    go_ret
    exact ⟨rfl,by rw [HBW.out];exact HB.out⟩
end Go.Proofs.YtfdmeojcopkaoaaGreatDoor
