import Derived.Test.YtoodbfkbbchjiaaGreatDoorf3B7
import Derived.Test.YtoodbfkbbchjiaaGreatDoorf3X18
import Derived.Test.YtoodbfkbbchjiaaGreatDoorf3Q5
import Derived.WideMake
import Derived.MapKept
set_option maxRecDepth 100000
set_option maxHeartbeats 16000000
namespace Go.Proofs.YtoodbfkbbchjiaaGreatDoor
open Go.RowKit
theorem idx_map {α β:Type} (f:α→β) (g:β→Bool):∀ (l:List α) (k:Nat),za4 (fun a=>g (f a)) l k=za4 g (l.map f) k
 | [],_=>rfl
 | a :: l,k=>by
  rw [List.map_cons,za4,za4,idx_map f g l]
def holdK (L:List (List Int × Int)) (s:Int):Int:=za4 (fun t:List Int × Int=>ze1 t.1 s) L 0
theorem zg5 (q:LsV) (s:Int):zep q s=holdK (q.trs.map LtV.key) s:=idx_map LtV.key (fun t=>ze1 t.1 s) q.trs 0
theorem LsS_keys {q q':LsV} (h:LsS q) {t:LtV} (hi:q.trs[0]?=some t) {ch:List Int} {un:Int} (h1:q'.sws=q.sws) (h2:q'.trs.map LtV.key=(ch,un) :: q.trs.tail.map LtV.key) (hc:ch.length≤1000):LsS q':=by
 obtain ⟨a1,a2,a3⟩:=h
 have hl:0<q.trs.length:=(List.getElem?_eq_some_iff.1 hi).1
 refine ⟨?_,by rw [h1];exact a2,fun t ht=>?_⟩
 · have:=congrArg List.length h2
   simp only [List.length_map,List.length_cons,List.length_tail] at this
   omega
 · have hk:LtV.key t∈q'.trs.map LtV.key:=List.mem_map_of_mem ht
   rw [h2,List.mem_cons] at hk
   rcases hk with hk | hk
   · have e:t.chain=ch:=congrArg Prod.fst hk
     rw [e];exact hc
   · obtain ⟨t2,ht2,e2⟩:=List.mem_map.1 hk
     have e:t2.chain=t.chain:=congrArg Prod.fst e2
     rw [← e];exact a3 t2 (List.mem_of_mem_tail ht2)
theorem zky (w:World) (y:Nat) (q:LsV) (s V:Int) (hV:zep q s=V) (h:LsAt w w.heap.size q) (hS:LsS q) (hk:w.heap[y]?=some (.cells (zbf q).toArray 103 (0,0))) :
 Calls Tryz.prog 211 #[.int .i64 s,.pointer (some ⟨y,0,none⟩)] w fun e w'=>e=.returned (.bool (decide (0≤V)))∧Below w.heap.size w w':=by
 have HH:=zku w w.heap.size q s h hS (Nat.le_refl _)
 unfold zay at HH
 rw [hV] at HH
 clear h hS hV
 go_enter Tryz.func211,Tryz.ntmps211
 go_wp2_with (with_reducible refine zaw 103 ?_)
 unfold Stp
 refine wpList_load_row rfl 103 _ rfl y rfl 103 _ (0,0) _ hk Tryz.underlying103 rfl (by kernel_rfl) ?_
 go_wp2_with (go_at_call 180;refine HH.mono ?_;rintro e w9 ⟨rfl,hb9⟩)
 go_ret
 exact ⟨rfl,hb9⟩
def LkPost (bz:Bool) (w:World) (x b:Nat) (V:BookV) (q':LsV) (e:Ending) (w':World):Prop:=(bz=true→e=.returned (.int .i64 28)∧BkAt w' x b V∧Below x w w'∧K64 w w')∧(bz=false→zih w x b { V with q:=q' } e w')
theorem ziv (bz:Bool) (w:World) (x b:Nat) (V:BookV) (h:BkAt w x b V) (hS:HouseS V.h) (hq:LsS V.q) (ht:CtAt w) (A:Option Addr) (c B:Nat) (s:ByteArray) (hr:Rd w B A (strCells [s])) (k a bb:Int) (PE:∀ W,CtAt W→Calls Tryz.prog 208 #[.string s] W (fun e w'=>e=.returned (.tuple #[.agg #[.int .i64 k,.int .i64 a,.int .i64 bb],.int .i64 0])∧Below W.heap.size W w')) (t:LtV) (hi:V.q.trs[0]?=some t) (ch:List Int) (un:Int) (hch:ch.length≤1000) (hxw:x≤w.heap.size) (hwk:V.works.length≤1000)
 (AP:∀ W,PlantAt W x V.h.plant→LsAt W W.heap.size V.q→x≤W.heap.size→Calls Tryz.prog 209 #[.agg (zap V.h.plant).toArray,.agg (zbf V.q).toArray,.agg #[.int .i64 k,.int .i64 a,.int .i64 bb]] W (zj0 W V.q ch un)) (hf:V.works.any (fun s=>decide (0≤holdK ((ch,un) :: V.q.trs.tail.map LtV.key) s))=bz):Calls Tryz.prog 160 #[.pointer (some ⟨b,0,none⟩),.slice A 1 c] w fun e w'=>∃ q':LsV,q'.sws=V.q.sws∧q'.trs.map LtV.key=(ch,un) :: V.q.trs.tail.map LtV.key∧q'.ctr=V.q.ctr∧LkPost bz w x b V q' e w':=by
 obtain ⟨hv,lg,log,day,q,mp,pl,mr,ms,se,wk,works⟩:=V
 simp only at hq hi AP hf hwk ⊢
 obtain ⟨sb,so,rfl,hbb,z0⟩:=hr.at_ (k:=0) (u:=.string s) rfl
 rw [Nat.add_zero] at z0
 have HH:=Lib.hid h
 have PE1:=PE w ht
 clear hr h PE
 go_enter Tryz.func160,Tryz.ntmps160
 go_wp2_with (first | (go_at_call 208;refine PE1.mono ?_;rintro e w1 ⟨rfl,hb1⟩) | (with_reducible refine zas 295 ?_))
 have hba:=hB1 w1 (.cells #[.int .i64 0,.int .i64 0,.int .i64 0] 295)
 have k3:=hA1 w1 (.cells #[.int .i64 0,.int .i64 0,.int .i64 0] 295)
 unfold Stp
 refine wpList_store_row rfl 295 _ _ rfl w1.heap.size #[.int .i64 k,.int .i64 a,.int .i64 bb] rfl rfl 295 _ k3 (by kernel_rfl) rfl (by kernel_rfl) ?_
 have k4:=setRow_heap _ w1.heap.size _ #[.int .i64 k,.int .i64 a,.int .i64 bb] 295 (0,0) k3
 have hb4:Below w.heap.size w ((w1.alloc (.cells #[.int .i64 0,.int .i64 0,.int .i64 0] 295)).setRow w1.heap.size #[.int .i64 k,.int .i64 a,.int .i64 bb]):=below_setRow (hb1.trans (hba.mono hb1.size)) hb1.size _
 clear k3 hba PE1
 go_upto_region 2 with (fail)
 generalize (w1.alloc (.cells #[.int .i64 0,.int .i64 0,.int .i64 0] 295)).setRow w1.heap.size #[.int .i64 k,.int .i64 a,.int .i64 bb]=w2 at *
 generalize w1.heap.size=y at *
 have H2:=HH.out.keep hb4
 go_upto_region 4 with (fail)
 obtain ⟨e0,e1,e2⟩:_∧_∧_:=zba k4
 have d0:=H2.house 0 (u:=hv.plant.ss.v) rfl
 have d1:=H2.house 1 (u:=hv.plant.ts.v) rfl
 have d2:=H2.house 2 (u:=hv.plant.ws.v) rfl
 have d3:=H2.house 3 (u:=hv.plant.rs.v) rfl
 have d27:=H2.cell (i:=27) (u:=q.sw.v) rfl
 have d28:=H2.cell (i:=28) (u:=q.tr.v) rfl
 have d29:=H2.cell (i:=29) (u:=.int .i64 q.ctr) rfl
 have x0:=fun y:Xt w2=>y.cell e0
 have x1:=fun y:Xt w2=>y.cell e1
 have x2:=fun y:Xt w2=>y.cell e2
 have x3:=fun y:Xt w2=>y.cell d0
 have x4:=fun y:Xt w2=>y.cell d1
 have x5:=fun y:Xt w2=>y.cell d2
 have x6:=fun y:Xt w2=>y.cell d3
 have x7:=fun y:Xt w2=>y.cell d27
 have x8:=fun y:Xt w2=>y.cell d28
 have x9:=fun y:Xt w2=>y.cell d29
 refine zak [16] (fun w'=>∃ y:Xt w2,w'=y.1) (by kernel_rfl) ⟨⟨w2.drew,(Below.refl _ _).drew⟩,rfl⟩ ?_
 refine zao [0,1,2,3,4,5,6,7,8,9] 7 rfl (by kernel_rfl) ?_
 simp only [zad,zac,zaa,zX1,zX2,zX3]
 repeat (go_big_quiet_step (fail))
 refine wpQuiet_nil ?_
 have hbd:Below w2.heap.size w2 w2.drew:=(Below.refl _ _).drew
 show wpE _ _ _ _ _ _ _ _ _ w2.drew
 generalize w2.drew=wd at *
 clear x0 x1 x2 x3 x4 x5 x6 x7 x8 x9 e0 e1 e2 d0 d1 d2 d3 d27 d28 d29
 have AP1:=AP wd ((H2.keep hbd).r.house.plant) (((H2.keep hbd).r.lk).at) (by have:=hbd.size;have:=hb4.size;omega)
 change Calls Tryz.prog 209 #[.agg #[hv.plant.ss.v,hv.plant.ts.v,hv.plant.ws.v,hv.plant.rs.v],.agg #[q.sw.v,q.tr.v,.int .i64 q.ctr],.agg #[.int .i64 k,.int .i64 a,.int .i64 bb]] wd (zj0 wd q ch un) at AP1
 have hba:=hB1 wd (.cells #[.slice none 0 0,.slice none 0 0,.int .i64 0] 103)
 have AP2:=AP (wd.alloc (.cells #[.slice none 0 0,.slice none 0 0,.int .i64 0] 103)) (((H2.keep hbd).keep hba).r.house.plant) ((((H2.keep hbd).keep hba).r.lk).at) (by have:=hbd.size;have:=hb4.size;have:=hba.size;omega)
 change Calls Tryz.prog 209 #[.agg #[hv.plant.ss.v,hv.plant.ts.v,hv.plant.ws.v,hv.plant.rs.v],.agg #[q.sw.v,q.tr.v,.int .i64 q.ctr],.agg #[.int .i64 k,.int .i64 a,.int .i64 bb]] (wd.alloc (.cells #[.slice none 0 0,.slice none 0 0,.int .i64 0] 103)) (zj0 (wd.alloc (.cells #[.slice none 0 0,.slice none 0 0,.int .i64 0] 103)) q ch un) at AP2
 clear AP
 have hx4:x≤w2.heap.size:=by have:=hb4.size;omega
 refine zk7 (i:=10) (k:=14) rfl (by kernel_rfl) rfl rfl ?_ ?_
 all_goals unfold zar
 all_goals simp only [zad,zac,zaa,zX1,zX2,zX3]
 · go_wp2_with (go_at_call 209;refine AP1.mono ?_;rintro e w5 ⟨q',hk1,hk2,hk3,rfl,hO,hb5⟩)
   have hbe:=hbd.trans (hb5.mono hbd.size)
   refine zab ⟨⟨⟨_,hbe⟩,rfl⟩,?_⟩
   refine zao [11,12,13] 3 rfl (by kernel_rfl) ?_
   simp only [zad,zac,zaa,zX1,zX2,zX3]
   repeat (go_big_quiet_step (fail))
   refine wpQuiet_nil ?_
   have hbn:=hB1 w5 (.cells #[.slice none 0 0,.slice none 0 0,.int .i64 0] 103)
   have k5:=hA1 w5 (.cells #[.slice none 0 0,.slice none 0 0,.int .i64 0] 103)
   have hbf:=hbe.trans (hbn.mono hbe.size)
   have hg5:=Nat.le_refl w5.heap.size
   have hO6:=hO.keep hbn
   refine zan (i:=14) rfl (by kernel_rfl) rfl ?_
   unfold zar
   simp only [zad,zac,zaa,zX1,zX2,zX3]
   go_wp2
   refine zab ⟨⟨⟨_,hbf⟩,rfl⟩,?_⟩
   refine zan (i:=15) rfl (by kernel_rfl) rfl ?_
   unfold zar
   simp only [zad,zac,zaa,zX1,zX2,zX3]
   refine wpList_store_row rfl 103 _ _ rfl (w5.heap.size) (zbf q').toArray rfl rfl 103 _ k5 (by kernel_rfl) rfl (by kernel_rfl) ?_
   have k6:=setRow_heap (w5.alloc (.cells #[.slice none 0 0,.slice none 0 0,.int .i64 0] 103)) (w5.heap.size) _ (zbf q').toArray 103 (0,0) k5
   have hbz:Below w2.heap.size w2 ((w5.alloc (.cells #[.slice none 0 0,.slice none 0 0,.int .i64 0] 103)).setRow (w5.heap.size) (zbf q').toArray):=below_setRow hbf hbe.size _
   have hO7:=hO6.other (w':=(w5.alloc (.cells #[.slice none 0 0,.slice none 0 0,.int .i64 0] 103)).setRow (w5.heap.size) (zbf q').toArray) (fun k9 t9 cur ht9 hk9=>setRow_other _ _ _ _ (zct hk9 k5 (by rcases ht9 with h8 | h8 <;> rw [h8] <;> decide)))
   have hO8:=hO7.base (x':=x) (by first | omega | (have:=hbd.size;have:=hbe.size;simp;omega) | (have:=hbd.size;simp;omega))
   generalize hyy:(w5.heap.size)=y2 at *
   clear hyy
   generalize (w5.alloc (.cells #[.slice none 0 0,.slice none 0 0,.int .i64 0] 103)).setRow y2 (zbf q').toArray=wz at *
   go_wp2
   refine zab ⟨⟨⟨_,hbz⟩,rfl⟩,?_⟩
   refine zau rfl (by kernel_rfl) ?_
   simp only [zad,zac,zaa,zX1,zX2,zX3]
   have HBZ:=Lib.hid (hb4.trans (hbz.mono hb4.size))
   have H9:=H2.keep hbz
   have HO9:=Lib.hid hO8
   have HKK:=Lib.hid (And.intro hk1 (And.intro hk2 hk3))
   have HK6:=Lib.hid k6
   have hq':=LsS_keys hq hi hk1 hk2 hch
   clear hk1 hk2 hk3 hO8 hO7 hO6 hbz hbf k6 k5
   go_wp2
   refine zab ?_
   have d35:=H9.cell (i:=35) (u:=.slice wk.A wk.n wk.c) rfl
   have hany:works.any (fun s=>decide (0≤zep q' s))=bz:=by
    have h9:(fun s=>decide (0≤zep q' s))=(fun s=>decide (0≤holdK ((ch,un) :: q.trs.tail.map LtV.key) s)):=by
     funext s
     rw [zg5,HKK.out.2.1]
    rw [h9]
    exact hf
   have CF:=ze8 211 #[.pointer (some ⟨y2,0,none⟩)] (fun _ _=>by kernel_rfl) wk.A wk.n wk.c wz.heap.size works (fun s=>decide (0≤zep q' s)) bz hany wz (by have:=H9.r.wk.1;simp only at this;omega) H9.r.wk.1 (za7 H9.r.wk.2) (Nat.le_refl _)
    (fun W s hb _=>zky W y2 q' s _ rfl ((HO9.out.keep hb).at) hq' (zes hb HK6.out))
   have hxz:x≤wz.heap.size:=Nat.le_trans hxw HBZ.out.size
   clear hany
   cases bz with
   | true =>
    go_wp2_with (go_at_call 210;refine CF.mono ?_;rintro e w9 ⟨rfl,hb9⟩)
    go_ret
    exact ⟨q',HKK.out.1,HKK.out.2.1,HKK.out.2.2,fun _=>⟨rfl,H9.keep hb9,(HBZ.out.trans (hb9.mono HBZ.out.size)).mono hxw,K64.below (HBZ.out.trans (hb9.mono HBZ.out.size))⟩,fun h=>by cases h⟩
   | false =>
    go_wp2_with (first | (go_at_call 210;refine CF.mono ?_;rintro e w9 ⟨rfl,hb9⟩) | (with_reducible refine zaw 103 ?_))
    unfold Stp
    refine wpList_load_row rfl 103 _ rfl y2 rfl 103 _ (0,0) _ (zes hb9 HK6.out) Tryz.underlying103 rfl (by kernel_rfl) ?_
    have H10:=H9.keep hb9
    have HO10:=HO9.out.keep hb9
    have hbx:=HBZ.out.trans (hb9.mono HBZ.out.size)
    go_wp2_with (with_reducible refine zas 103 ?_)
    unfold Stp
    refine zbj rfl 103 _ _ rfl b 27 (zbf q').toArray rfl rfl 111 _ (zbd ⟨hv,lg,log,day,q',mp,pl,mr,ms,se,wk,works⟩).toArray H10.blk (by kernel_rfl) (by show 27+3≤38;omega) (by kernel_rfl) rfl ?_
    have HB8:=Lib.hid (H10.put (V':=⟨hv,lg,log,day,q',mp,pl,mr,ms,se,wk,works⟩) ⟨H10.r.house,HO10,H10.r.pl,H10.r.rn,H10.r.se,H10.r.ne,H10.r.wk⟩ H10.log H10.ms)
    have HK9:=Lib.hid ((K64.below hbx).trans (K64.setRow H10.blk (by decide) (zbd ⟨hv,lg,log,day,q',mp,pl,mr,ms,se,wk,works⟩).toArray))
    have HBL:=Lib.hid (below_setRow (hbx.mono hxw) H10.xb (zbd ⟨hv,lg,log,day,q',mp,pl,mr,ms,se,wk,works⟩).toArray)
    clear H10 HO10 hbx hb9 CF d35
    generalize w9.setRow b (zbd ⟨hv,lg,log,day,q',mp,pl,mr,ms,se,wk,works⟩).toArray=w10 at *
    go_wp2
    go_ret
    exact ⟨q',HKK.out.1,HKK.out.2.1,HKK.out.2.2,fun h=>(by cases h),fun _=>⟨rfl,HB8.out,HBL.out,HK9.out⟩⟩
 · go_wp2
   have k5:=hA1 wd (.cells #[.slice none 0 0,.slice none 0 0,.int .i64 0] 103)
   have hbg:=hbd.trans (hba.mono hbd.size)
   refine zab ⟨⟨⟨_,hbg⟩,rfl⟩,?_⟩
   refine zan (i:=10) rfl (by kernel_rfl) rfl ?_
   unfold zar
   simp only [zad,zac,zaa,zX1,zX2,zX3]
   go_wp2_with (go_at_call 209;refine AP2.mono ?_;rintro e w5 ⟨q',hk1,hk2,hk3,rfl,hO6,hb5⟩)
   have hbf:=hbg.trans (hb5.mono hbg.size)
   replace k5:=zes hb5 k5
   refine zab ⟨⟨⟨_,hbf⟩,rfl⟩,?_⟩
   refine zao [11,12,13] 2 rfl (by kernel_rfl) ?_
   simp only [zad,zac,zaa,zX1,zX2,zX3]
   repeat (go_big_quiet_step (fail))
   refine wpQuiet_nil ?_
   refine zan (i:=15) rfl (by kernel_rfl) rfl ?_
   unfold zar
   simp only [zad,zac,zaa,zX1,zX2,zX3]
   refine wpList_store_row rfl 103 _ _ rfl (wd.heap.size) (zbf q').toArray rfl rfl 103 _ k5 (by kernel_rfl) rfl (by kernel_rfl) ?_
   have k6:=setRow_heap w5 (wd.heap.size) _ (zbf q').toArray 103 (0,0) k5
   have hbz:Below w2.heap.size w2 (w5.setRow (wd.heap.size) (zbf q').toArray):=below_setRow hbf hbd.size _
   have hO7:=hO6.other (w':=w5.setRow (wd.heap.size) (zbf q').toArray) (fun k9 t9 cur ht9 hk9=>setRow_other _ _ _ _ (zct hk9 k5 (by rcases ht9 with h8 | h8 <;> rw [h8] <;> decide)))
   have hO8:=hO7.base (x':=x) (by first | omega | (have:=hbd.size;have:=hbe.size;simp;omega) | (have:=hbd.size;simp;omega))
   generalize hyy:(wd.heap.size)=y2 at *
   clear hyy
   generalize w5.setRow y2 (zbf q').toArray=wz at *
   go_wp2
   refine zab ⟨⟨⟨_,hbz⟩,rfl⟩,?_⟩
   refine zau rfl (by kernel_rfl) ?_
   simp only [zad,zac,zaa,zX1,zX2,zX3]
   have HBZ:=Lib.hid (hb4.trans (hbz.mono hb4.size))
   have H9:=H2.keep hbz
   have HO9:=Lib.hid hO8
   have HKK:=Lib.hid (And.intro hk1 (And.intro hk2 hk3))
   have HK6:=Lib.hid k6
   have hq':=LsS_keys hq hi hk1 hk2 hch
   clear hk1 hk2 hk3 hO8 hO7 hO6 hbz hbf k6 k5
   go_wp2
   refine zab ?_
   have d35:=H9.cell (i:=35) (u:=.slice wk.A wk.n wk.c) rfl
   have hany:works.any (fun s=>decide (0≤zep q' s))=bz:=by
    have h9:(fun s=>decide (0≤zep q' s))=(fun s=>decide (0≤holdK ((ch,un) :: q.trs.tail.map LtV.key) s)):=by
     funext s
     rw [zg5,HKK.out.2.1]
    rw [h9]
    exact hf
   have CF:=ze8 211 #[.pointer (some ⟨y2,0,none⟩)] (fun _ _=>by kernel_rfl) wk.A wk.n wk.c wz.heap.size works (fun s=>decide (0≤zep q' s)) bz hany wz (by have:=H9.r.wk.1;simp only at this;omega) H9.r.wk.1 (za7 H9.r.wk.2) (Nat.le_refl _)
    (fun W s hb _=>zky W y2 q' s _ rfl ((HO9.out.keep hb).at) hq' (zes hb HK6.out))
   have hxz:x≤wz.heap.size:=Nat.le_trans hxw HBZ.out.size
   clear hany
   cases bz with
   | true =>
    go_wp2_with (go_at_call 210;refine CF.mono ?_;rintro e w9 ⟨rfl,hb9⟩)
    go_ret
    exact ⟨q',HKK.out.1,HKK.out.2.1,HKK.out.2.2,fun _=>⟨rfl,H9.keep hb9,(HBZ.out.trans (hb9.mono HBZ.out.size)).mono hxw,K64.below (HBZ.out.trans (hb9.mono HBZ.out.size))⟩,fun h=>by cases h⟩
   | false =>
    go_wp2_with (first | (go_at_call 210;refine CF.mono ?_;rintro e w9 ⟨rfl,hb9⟩) | (with_reducible refine zaw 103 ?_))
    unfold Stp
    refine wpList_load_row rfl 103 _ rfl y2 rfl 103 _ (0,0) _ (zes hb9 HK6.out) Tryz.underlying103 rfl (by kernel_rfl) ?_
    have H10:=H9.keep hb9
    have HO10:=HO9.out.keep hb9
    have hbx:=HBZ.out.trans (hb9.mono HBZ.out.size)
    go_wp2_with (with_reducible refine zas 103 ?_)
    unfold Stp
    refine zbj rfl 103 _ _ rfl b 27 (zbf q').toArray rfl rfl 111 _ (zbd ⟨hv,lg,log,day,q',mp,pl,mr,ms,se,wk,works⟩).toArray H10.blk (by kernel_rfl) (by show 27+3≤38;omega) (by kernel_rfl) rfl ?_
    have HB8:=Lib.hid (H10.put (V':=⟨hv,lg,log,day,q',mp,pl,mr,ms,se,wk,works⟩) ⟨H10.r.house,HO10,H10.r.pl,H10.r.rn,H10.r.se,H10.r.ne,H10.r.wk⟩ H10.log H10.ms)
    have HK9:=Lib.hid ((K64.below hbx).trans (K64.setRow H10.blk (by decide) (zbd ⟨hv,lg,log,day,q',mp,pl,mr,ms,se,wk,works⟩).toArray))
    have HBL:=Lib.hid (below_setRow (hbx.mono hxw) H10.xb (zbd ⟨hv,lg,log,day,q',mp,pl,mr,ms,se,wk,works⟩).toArray)
    clear H10 HO10 hbx hb9 CF d35
    generalize w9.setRow b (zbd ⟨hv,lg,log,day,q',mp,pl,mr,ms,se,wk,works⟩).toArray=w10 at *
    go_wp2
    go_ret
    exact ⟨q',HKK.out.1,HKK.out.2.1,HKK.out.2.2,fun h=>(by cases h),fun _=>⟨rfl,HB8.out,HBL.out,HK9.out⟩⟩
def mapAt (w:World) (m:Nat) (es:Array MapEntry) (c:Nat):World:={ w with heap:=w.heap.setIfInBounds m (.map es c) }
theorem zco (w:World) (m k:Nat) (es:Array MapEntry) (c:Nat) (h:k≠m):(mapAt w m es c).heap[k]?=w.heap[k]?:=by
 simp only [mapAt]
 rw [Array.getElem?_setIfInBounds_ne (Ne.symm h)]
theorem zkq (w:World) (m:Nat) (es es0:Array MapEntry) (c c0:Nat) (h:w.heap[m]?=some (.map es0 c0)):(mapAt w m es c).heap[m]?=some (.map es c):=by
 have hlt:m<w.heap.size:=by
  rcases Nat.lt_or_ge m w.heap.size with h' | h'
  · exact h'
  · rw [Array.getElem?_eq_none h'] at h;cases h
 simp only [mapAt]
 rw [Array.getElem?_setIfInBounds_self_of_lt hlt]
theorem zcr {B:Nat} {a w:World} (h:Below B a w) {m:Nat} (hm:B≤m) (es:Array MapEntry) (c:Nat):Below B a (mapAt w m es c):=
 h.trans ⟨rfl,rfl,rfl,by simp [mapAt],fun k hk=>zco w m k es c (by omega)⟩
theorem K64.mapAt {w:World} {m:Nat} {es0 es:Array MapEntry} {c0 c:Nat} (hm:w.heap[m]?=some (.map es0 c0)):K64 w (mapAt w m es c):=fun k cs hk =>
 (zco w m k es c (fun e=>by rw [e,hm] at hk;cases hk)).trans hk
theorem zga (w:World) (m:Nat) (i:Int) (v:Value) (h:w.heap[m]?=some (.map #[] 0)) :
 (Instr.mapUpdate 105 (.map (some m)) (.int .i64 i) v).run Tryz.prog w=.ok () (mapAt w m #[⟨.int .i64 i,v,0⟩] 1):=by
 have hf:Instr.findNow (.int .i64) (.int .i64 i) ([]:List MapEntry) 0=some none:=rfl
 have hc:(Instr.checkKey false 10000 3 (.int .i64 i)).run Tryz.prog w=.ok () w:=MapKept.run_checkKey (k:=.int .i64 i) Tryz.underlying3 (by simp [MapKept.IsKey]) false 9999
 simp [Instr.mapUpdate,run_underlying Tryz.underlying105,MapKept.run_getObj_map h,hc,MapKept.run_findKey Tryz.underlying3 hf,MapKept.run_setObj_map _ h,Result.andThen,mapAt]
theorem zin {t e:TypeId} (ht:Tryz.prog.underlying t=some (.map 3 e)) {w:World} {m:Nat} {es:Array MapEntry} {c:Nat} (h:w.heap[m]?=some (.map es c)) (i:Int) {z:Value} (hz:(zeroValue e).run Tryz.prog w=.ok z w) (hf:Instr.findNow (.int .i64) (.int .i64 i) es.toList 0=some none) :
 (Instr.lookup t (.map (some m)) (.int .i64 i) true).run Tryz.prog w=.ok (.tuple #[z,.bool false]) w:=by
 have hc:(Instr.checkKey es.isEmpty 10000 3 (.int .i64 i)).run Tryz.prog w=.ok () w:=MapKept.run_checkKey (k:=.int .i64 i) Tryz.underlying3 (by simp [MapKept.IsKey]) _ 9999
 simp [Instr.lookup,run_underlying ht,MapKept.run_getObj_map h,hc,MapKept.run_findKey Tryz.underlying3 hf,Result.andThen,hz]
theorem zd0 {t e:TypeId} (ht:Tryz.prog.underlying t=some (.map 3 e)) {w:World} {m:Nat} {es:Array MapEntry} {c:Nat} (h:w.heap[m]?=some (.map es c)) (i:Int) {j:Nat} {v:Value} (hf:Instr.findNow (.int .i64) (.int .i64 i) es.toList 0=some (some (j,v))) :
 (Instr.lookup t (.map (some m)) (.int .i64 i) true).run Tryz.prog w=.ok (.tuple #[v,.bool true]) w:=by
 have hc:(Instr.checkKey es.isEmpty 10000 3 (.int .i64 i)).run Tryz.prog w=.ok () w:=MapKept.run_checkKey (k:=.int .i64 i) Tryz.underlying3 (by simp [MapKept.IsKey]) _ 9999
 simp [Instr.lookup,run_underlying ht,MapKept.run_getObj_map h,hc,MapKept.run_findKey Tryz.underlying3 hf,Result.andThen]
theorem BkAt.mapped {w:World} {x b:Nat} {V:BookV} (h:BkAt w x b V) (p:PlV):BkAt (mapAt w V.mp #[⟨.int .i64 p.train,.agg #[.int .i64 p.train,.int .i64 p.day,.int .i64 p.lo,.int .i64 p.hi],0⟩] 1) x b { V with pl:=some p }:=by
 obtain ⟨m0,c0,hm⟩:=plObj_map V.pl
 have hpl:=h.r.pl
 rw [hm] at hpl
 have hk:∀ (k:Nat) (cs:Array Value) (t:Nat),w.heap[k]?=some (.cells cs t (0,0))→(mapAt w V.mp #[⟨.int .i64 p.train,.agg #[.int .i64 p.train,.int .i64 p.day,.int .i64 p.lo,.int .i64 p.hi],0⟩] 1).heap[k]?=w.heap[k]?:=fun k cs t hc=>zco _ _ _ _ _ (fun e=>by rw [e,hpl] at hc;cases hc)
 refine ⟨(hk _ _ _ h.blk).trans h.blk,h.xb,⟨h.log.1,zbc h.log.2 fun k cur hc=>hk k _ _ hc⟩,⟨h.ms.1,zbc h.ms.2 fun k cur hc=>hk k _ _ hc⟩,⟨h.r.house.belowC (zcr (Below.refl _ _) h.r.ne.1 _ _),h.r.lk.other fun k t cur _ hc=>hk k _ _ hc,?_,?_,?_,h.r.ne,h.r.wk.1,zbc h.r.wk.2 fun k cur hc=>hk k _ _ hc⟩⟩
 · exact zkq _ _ _ _ _ _ hpl
 · exact (zco _ _ _ _ _ (Ne.symm h.r.ne.2.2.2.1)).trans h.r.rn
 · exact (zco _ _ _ _ _ (Ne.symm h.r.ne.2.2.2.2.1)).trans h.r.se
theorem read_ok (w:World) (x b:Nat) (V:BookV) (h:BkAt w x b V) (hS:HouseS V.h) (ht:TxtAt w) (hxw:x≤w.heap.size) (hpl:V.pl=none) (A:Option Addr) (c B:Nat) (s r:ByteArray) (hr:Rd w B A (strCells [s,r])) (i:Int) (hi:zh9 V.h.plant.trains s=i) (h0:0≤i)
 (hs:r.size≤1000) (a bt:ByteArray) (tt:Bool) (cnt:Int) (hcut:Lib.cut r.data.toList (⟨#[32]⟩:ByteArray).data.toList=(a.data.toList,bt.data.toList,tt)) (ha0:0<a.size) (ha1:a.size≤12) (hv:a.data.toList.all vanB=true) (hb:bt.size≤1000) (hn:numL bt.data.toList 4=some cnt) (hc0:0≤cnt)
 (hO:VanOk V.h.vanes) (hE:zhk V.h.vanes (zj1 a)=0) (hcc:zaj cnt 0 (V.h.vanes.modulus - 1)=true) (g:Rg) (hg:posL V.h.vanes cnt (zi7 V.h.vanes (zj1 a))=[g]) :
 Calls Tryz.prog 157 #[.pointer (some ⟨b,0,none⟩),.slice A 2 c] w (zih w x b { V with pl:=some ⟨i,V.day,g.1,g.2⟩ }):=by
 have TR:=zc3 w x b V h hS s
 rw [hi] at TR
 obtain ⟨hh,lg,log,day,q,mp,pl,mr,ms,se,wk,works⟩:=V
 simp only at hpl hO hE hcc hg hS ⊢
 subst hpl
 have PR:=zjv r a bt tt cnt hs hcut ha0 (by omega) hv hb hn hc0 w ht
 have hva:(zj1 a).length=a.size:=by simp [zj1]
 obtain ⟨m,hm⟩:∃ m,(zj1 a).length=m:=⟨_,rfl⟩
 have hm12:m≤12:=by omega
 have PO:=fun (W:World) (A2:Option Addr) (c2:Nat) (hW:HouseAt W x hh) (hxW:x≤W.heap.size) (hrW:Rd W W.heap.size A2 (zai (zj1 a)))=>PlaceOf_ok W x hh.vanes A2 m c2 (zj1 a) cnt g hW.vanes hxW hO hm hm12 hrW hE hcc hg
 rw [hm] at PR
 obtain ⟨sb,so,rfl,hsb,z0⟩:=hr.at_ (k:=0) (u:=.string s) rfl
 have z1:=zby hr (k:=1) (u:=.string r) rfl
 rw [Nat.add_zero] at z0
 have HH:=Lib.hid h
 have HM:=Lib.hid hm
 clear hr h hi hs hcut ha0 ha1 hv hb hn hc0 hva hm
 go_enter Tryz.func157,Tryz.ntmps157
 go_upto_region 2 with (go_at_call 46;refine TR.mono ?_;rintro e w' ⟨rfl,rfl⟩)
 have hneg:¬ i<0:=by omega
 go_wp2_with (first | (go_at_call 204;refine PR.mono ?_;rintro e w1 ⟨A3,c3,rfl,hr3,hb1⟩) | (with_reducible refine zas 283 ?_))
 have hba:=hB1 w1 (.cells #[.slice none 0 0,.int .i64 0] 283)
 have k3:=hA1 w1 (.cells #[.slice none 0 0,.int .i64 0] 283)
 unfold Stp
 refine wpList_store_row rfl 283 _ _ rfl w1.heap.size #[.slice A3 m c3,.int .i64 cnt] rfl rfl 283 _ k3 (by kernel_rfl) rfl (by kernel_rfl) ?_
 have k4:=setRow_heap _ w1.heap.size _ #[.slice A3 m c3,.int .i64 cnt] 283 (0,0) k3
 have hb14:Below w1.heap.size w1 ((w1.alloc (.cells #[.slice none 0 0,.int .i64 0] 283)).setRow w1.heap.size #[.slice A3 m c3,.int .i64 cnt]):=below_setRow hba (Nat.le_refl _) _
 have hb4:=hb1.trans (hb14.mono hb1.size)
 have hr4:=(hr3.keep hb14).mono hb14.size
 clear k3 hba PR
 go_upto_region 5 with (fail)
 generalize (w1.alloc (.cells #[.slice none 0 0,.int .i64 0] 283)).setRow w1.heap.size #[.slice A3 m c3,.int .i64 cnt]=w2 at *
 generalize w1.heap.size=y at *
 have H2:=HH.out.keep hb4
 clear TR z0 z1
 go_upto_region 7 with (fail)
 obtain ⟨e0,e1⟩:_∧_:=zaz k4
 have d0:=H2.house 7 (u:=hh.vanes.vs.v) rfl
 have d1:=H2.house 8 (u:=.int .i64 hh.vanes.window) rfl
 have d2:=H2.house 9 (u:=.int .i64 hh.vanes.tooth) rfl
 have d3:=H2.house 10 (u:=.int .i64 hh.vanes.per) rfl
 have d4:=H2.house 11 (u:=.int .i64 hh.vanes.first) rfl
 have d5:=H2.house 12 (u:=.int .i64 hh.vanes.modulus) rfl
 have d6:=H2.house 13 (u:=.int .i64 hh.vanes.slack) rfl
 have d7:=H2.house 14 (u:=.int .i64 hh.vanes.errors) rfl
 have d8:=H2.house 15 (u:=.bool hh.vanes.round) rfl
 have x0:=fun y:Xt w2=>y.cell d0
 have x1:=fun y:Xt w2=>y.cell d1
 have x2:=fun y:Xt w2=>y.cell d2
 have x3:=fun y:Xt w2=>y.cell d3
 have x4:=fun y:Xt w2=>y.cell d4
 have x5:=fun y:Xt w2=>y.cell d5
 have x6:=fun y:Xt w2=>y.cell d6
 have x7:=fun y:Xt w2=>y.cell d7
 have x8:=fun y:Xt w2=>y.cell d8
 have x9:=fun y:Xt w2=>y.cell e0
 have xa:=fun y:Xt w2=>y.cell e1
 refine zak [12] (fun w'=>∃ y:Xt w2,w'=y.1) (by kernel_rfl) ⟨⟨w2.drew,(Below.refl _ _).drew⟩,rfl⟩ ?_
 refine zao [0,1,2,3,4,5] 7 rfl (by kernel_rfl) ?_
 simp only [zad,zac,zaa,zX1,zX2,zX3]
 repeat (go_big_quiet_step (fail))
 refine wpQuiet_nil ?_
 have hbd:Below w2.heap.size w2 w2.drew:=(Below.refl _ _).drew
 show wpE _ _ _ _ _ _ _ _ _ w2.drew
 generalize w2.drew=wd at *
 clear x0 x1 x2 x3 x4 x5 x6 x7 x8 x9 xa e0 e1 d0 d1 d2 d3 d4 d5 d6 d7 d8
 have VV:=(za8 hh.vanes)
 have PO1:=PO wd A3 c3 ((H2.keep hbd).r.house) (by have:=hbd.size;have:=hb4.size;omega) ((hr4.keep hbd).mono hbd.size)
 change Calls Tryz.prog 205 #[.agg #[hh.vanes.vs.v,.int .i64 hh.vanes.window,.int .i64 hh.vanes.tooth,.int .i64 hh.vanes.per,.int .i64 hh.vanes.first,.int .i64 hh.vanes.modulus,.int .i64 hh.vanes.slack,.int .i64 hh.vanes.errors,.bool hh.vanes.round],.agg #[.slice A3 m c3,.int .i64 cnt]] wd _ at PO1
 have hba:=hB1 wd (.cells #[.int .i64 0,.int .i64 0] 165)
 have PO2:=PO (wd.alloc (.cells #[.int .i64 0,.int .i64 0] 165)) A3 c3 (((H2.keep hbd).keep hba).r.house) (by have:=hbd.size;have:=hb4.size;have:=hba.size;omega) (((hr4.keep hbd).keep hba).mono (Nat.le_trans hbd.size hba.size))
 change Calls Tryz.prog 205 #[.agg #[hh.vanes.vs.v,.int .i64 hh.vanes.window,.int .i64 hh.vanes.tooth,.int .i64 hh.vanes.per,.int .i64 hh.vanes.first,.int .i64 hh.vanes.modulus,.int .i64 hh.vanes.slack,.int .i64 hh.vanes.errors,.bool hh.vanes.round],.agg #[.slice A3 m c3,.int .i64 cnt]] (wd.alloc (.cells #[.int .i64 0,.int .i64 0] 165)) _ at PO2
 clear PO VV
 refine zk7 (i:=6) (k:=10) rfl (by kernel_rfl) rfl rfl ?_ ?_
 all_goals unfold zar
 all_goals simp only [zad,zac,zaa,zX1,zX2,zX3]
 · go_wp2_with (go_at_call 205;refine PO1.mono ?_;rintro e w5 ⟨rfl,hb5⟩)
   have hbe:=hbd.trans (hb5.mono hbd.size)
   refine zab ⟨⟨⟨_,hbe⟩,rfl⟩,?_⟩
   refine zao [7,8,9] 3 rfl (by kernel_rfl) ?_
   simp only [zad,zac,zaa,zX1,zX2,zX3]
   repeat (go_big_quiet_step (fail))
   refine wpQuiet_nil ?_
   have hbn:=hB1 w5 (.cells #[.int .i64 0,.int .i64 0] 165)
   have k5:=hA1 w5 (.cells #[.int .i64 0,.int .i64 0] 165)
   have hbf:=hbe.trans (hbn.mono hbe.size)
   refine zan (i:=10) rfl (by kernel_rfl) rfl ?_
   unfold zar
   simp only [zad,zac,zaa,zX1,zX2,zX3]
   go_wp2
   refine zab ⟨⟨⟨_,hbf⟩,rfl⟩,?_⟩
   refine zan (i:=11) rfl (by kernel_rfl) rfl ?_
   unfold zar
   simp only [zad,zac,zaa,zX1,zX2,zX3]
   refine wpList_store_row rfl 165 _ _ rfl (w5.heap.size) #[.int .i64 g.1,.int .i64 g.2] rfl rfl 165 _ k5 (by kernel_rfl) rfl (by kernel_rfl) ?_
   have k6:=setRow_heap (w5.alloc (.cells #[.int .i64 0,.int .i64 0] 165)) (w5.heap.size) _ #[.int .i64 g.1,.int .i64 g.2] 165 (0,0) k5
   have hbz:Below w2.heap.size w2 ((w5.alloc (.cells #[.int .i64 0,.int .i64 0] 165)).setRow (w5.heap.size) #[.int .i64 g.1,.int .i64 g.2]):=below_setRow hbf hbe.size _
   generalize hyy:(w5.heap.size)=y2 at *
   clear hyy
   generalize (w5.alloc (.cells #[.int .i64 0,.int .i64 0] 165)).setRow y2 #[.int .i64 g.1,.int .i64 g.2]=wz at *
   go_wp2
   refine zab ⟨⟨⟨_,hbz⟩,rfl⟩,?_⟩
   refine zau rfl (by kernel_rfl) ?_
   simp only [zad,zac,zaa,zX1,zX2,zX3]
   have HBZ:=Lib.hid (hb4.trans (hbz.mono hb4.size))
   have H9:=H2.keep hbz
   clear hbz hbf k5
   go_wp2
   refine zab ?_
   go_upto_region 9 with (fail)
   obtain ⟨e0,e1⟩:_∧_:=zaz k6
   have d31:=H9.cell (i:=31) (u:=.map (some mp)) rfl
   have d26:=H9.cell (i:=26) (u:=.int .i64 day) rfl
   have x0:=fun y:Xt wz=>y.cell e0
   have x1:=fun y:Xt wz=>y.cell e1
   have x2:=fun y:Xt wz=>y.cell d31
   have x3:=fun y:Xt wz=>y.cell d26
   refine zak [12] (fun w'=>∃ y:Xt wz,w'=y.1) (by kernel_rfl) ⟨⟨wz.drew,(Below.refl _ _).drew⟩,rfl⟩ ?_
   refine zao [0,1,2,3,4,5,6,7,8,9,10] 2 rfl (by kernel_rfl) ?_
   simp only [zad,zac,zaa,zX1,zX2,zX3]
   repeat (go_big_quiet_step (fail))
   refine wpQuiet_nil ?_
   have hbv:Below wz.heap.size wz wz.drew:=(Below.refl _ _).drew
   show wpE _ _ _ _ _ _ _ _ _ wz.drew
   generalize wz.drew=wv at *
   clear x0 x1 x2 x3 e0 e1 d31 d26
   have H10:=H9.keep hbv
   have hmu:=zga wv mp i (.agg #[.int .i64 i,.int .i64 day,.int .i64 g.1,.int .i64 g.2]) H10.r.pl
   have HM9:=Lib.hid (H10.mapped ⟨i,day,g.1,g.2⟩)
   have HK9:=Lib.hid ((K64.below (HBZ.out.trans (hbv.mono HBZ.out.size))).trans (K64.mapAt H10.r.pl (es:=#[⟨.int .i64 i,.agg #[.int .i64 i,.int .i64 day,.int .i64 g.1,.int .i64 g.2],0⟩]) (c:=1)))
   have HBV:=Lib.hid (zcr ((HBZ.out.trans (hbv.mono HBZ.out.size)).mono hxw) H10.r.ne.1 #[⟨.int .i64 i,.agg #[.int .i64 i,.int .i64 day,.int .i64 g.1,.int .i64 g.2],0⟩] 1)
   clear H10
   refine zan (i:=11) rfl (by kernel_rfl) rfl ?_
   unfold zar
   simp only [zad,zac,zaa,zX1,zX2,zX3]
   go_wp2
   refine zab ⟨⟨⟨_,hbv⟩,rfl⟩,?_⟩
   refine zau rfl (by kernel_rfl) ?_
   simp only [zad,zac,zaa,zX1,zX2,zX3]
   clear hbv
   go_wp2
   refine zab ?_
   go_wp2
   go_ret
   exact ⟨rfl,HM9.out,HBV.out,HK9.out⟩
 · go_wp2
   have k5:=hA1 wd (.cells #[.int .i64 0,.int .i64 0] 165)
   have hbg:=hbd.trans (hba.mono hbd.size)
   refine zab ⟨⟨⟨_,hbg⟩,rfl⟩,?_⟩
   refine zan (i:=6) rfl (by kernel_rfl) rfl ?_
   unfold zar
   simp only [zad,zac,zaa,zX1,zX2,zX3]
   go_wp2_with (go_at_call 205;refine PO2.mono ?_;rintro e w5 ⟨rfl,hb5⟩)
   have hbf:=hbg.trans (hb5.mono hbg.size)
   replace k5:=zes hb5 k5
   refine zab ⟨⟨⟨_,hbf⟩,rfl⟩,?_⟩
   refine zao [7,8,9] 2 rfl (by kernel_rfl) ?_
   simp only [zad,zac,zaa,zX1,zX2,zX3]
   repeat (go_big_quiet_step (fail))
   refine wpQuiet_nil ?_
   refine zan (i:=11) rfl (by kernel_rfl) rfl ?_
   unfold zar
   simp only [zad,zac,zaa,zX1,zX2,zX3]
   refine wpList_store_row rfl 165 _ _ rfl (wd.heap.size) #[.int .i64 g.1,.int .i64 g.2] rfl rfl 165 _ k5 (by kernel_rfl) rfl (by kernel_rfl) ?_
   have k6:=setRow_heap w5 (wd.heap.size) _ #[.int .i64 g.1,.int .i64 g.2] 165 (0,0) k5
   have hbz:Below w2.heap.size w2 (w5.setRow (wd.heap.size) #[.int .i64 g.1,.int .i64 g.2]):=below_setRow hbf hbd.size _
   generalize hyy:(wd.heap.size)=y2 at *
   clear hyy
   generalize w5.setRow y2 #[.int .i64 g.1,.int .i64 g.2]=wz at *
   go_wp2
   refine zab ⟨⟨⟨_,hbz⟩,rfl⟩,?_⟩
   refine zau rfl (by kernel_rfl) ?_
   simp only [zad,zac,zaa,zX1,zX2,zX3]
   have HBZ:=Lib.hid (hb4.trans (hbz.mono hb4.size))
   have H9:=H2.keep hbz
   clear hbz hbf k5
   go_wp2
   refine zab ?_
   go_upto_region 9 with (fail)
   obtain ⟨e0,e1⟩:_∧_:=zaz k6
   have d31:=H9.cell (i:=31) (u:=.map (some mp)) rfl
   have d26:=H9.cell (i:=26) (u:=.int .i64 day) rfl
   have x0:=fun y:Xt wz=>y.cell e0
   have x1:=fun y:Xt wz=>y.cell e1
   have x2:=fun y:Xt wz=>y.cell d31
   have x3:=fun y:Xt wz=>y.cell d26
   refine zak [12] (fun w'=>∃ y:Xt wz,w'=y.1) (by kernel_rfl) ⟨⟨wz.drew,(Below.refl _ _).drew⟩,rfl⟩ ?_
   refine zao [0,1,2,3,4,5,6,7,8,9,10] 2 rfl (by kernel_rfl) ?_
   simp only [zad,zac,zaa,zX1,zX2,zX3]
   repeat (go_big_quiet_step (fail))
   refine wpQuiet_nil ?_
   have hbv:Below wz.heap.size wz wz.drew:=(Below.refl _ _).drew
   show wpE _ _ _ _ _ _ _ _ _ wz.drew
   generalize wz.drew=wv at *
   clear x0 x1 x2 x3 e0 e1 d31 d26
   have H10:=H9.keep hbv
   have hmu:=zga wv mp i (.agg #[.int .i64 i,.int .i64 day,.int .i64 g.1,.int .i64 g.2]) H10.r.pl
   have HM9:=Lib.hid (H10.mapped ⟨i,day,g.1,g.2⟩)
   have HK9:=Lib.hid ((K64.below (HBZ.out.trans (hbv.mono HBZ.out.size))).trans (K64.mapAt H10.r.pl (es:=#[⟨.int .i64 i,.agg #[.int .i64 i,.int .i64 day,.int .i64 g.1,.int .i64 g.2],0⟩]) (c:=1)))
   have HBV:=Lib.hid (zcr ((HBZ.out.trans (hbv.mono HBZ.out.size)).mono hxw) H10.r.ne.1 #[⟨.int .i64 i,.agg #[.int .i64 i,.int .i64 day,.int .i64 g.1,.int .i64 g.2],0⟩] 1)
   clear H10
   refine zan (i:=11) rfl (by kernel_rfl) rfl ?_
   unfold zar
   simp only [zad,zac,zaa,zX1,zX2,zX3]
   go_wp2
   refine zab ⟨⟨⟨_,hbv⟩,rfl⟩,?_⟩
   refine zau rfl (by kernel_rfl) ?_
   simp only [zad,zac,zaa,zX1,zX2,zX3]
   clear hbv
   go_wp2
   refine zab ?_
   go_wp2
   go_ret
   exact ⟨rfl,HM9.out,HBV.out,HK9.out⟩
theorem byName_val (y:Sw) (by_ tx:ByteArray) (q:Nat) (w:World) (hq:w.heap[q]?=some (.cells #[.string by_,.string tx] 58 (0,0))) :
 Calls Tryz.prog 90 #[.agg #[.string y.1,.int .i64 y.2],.pointer (some ⟨q,0,none⟩)] w fun e w'=>e=.returned (.bool (decide (y.1=by_)))∧Below w.heap.size w w':=by
 have hb0:=hB1 w (.cells #[.string y.1,.int .i64 y.2] 53)
 have k0:=hA1 w (.cells #[.string y.1,.int .i64 y.2] 53)
 have hq0:=zes hb0 hq
 have HB:=Lib.hid hb0
 have HE:Hid ((y.1.toList == by_.toList)=decide (y.1=by_)):=eqT
 clear hb0 hq
 go_enter Tryz.func90,Tryz.ntmps90
 go_upto_region 1 with (fail)
 generalize w.alloc (.cells #[.string y.1,.int .i64 y.2] 53)=w0 at *
 generalize hbw:w.heap.size=bw at *
 have HBW:=Lib.hid hbw
 clear hbw
 obtain ⟨c0,c1⟩:_∧_:=zaz k0
 obtain ⟨d0,d1⟩:_∧_:=zaz hq0
 clear k0 hq0 c1 d1
 go_wp2
 go_ret
 exact ⟨by rw [← HE.out];rfl,by rw [HBW.out];exact HB.out⟩
def Xk2 (B b c:Nat) (w:World):={ w':World // Below B w w'∧w'.heap[b]?=w.heap[b]?∧w'.heap[c]?=w.heap[c]? }
instance xk2Nonempty (B b c:Nat) (w:World):Nonempty (Xk2 B b c w):=⟨⟨w,Below.refl _ _,rfl,rfl⟩⟩
def RdxPost (W:World) (args:List ByteArray) (na:Nat) (e:Ending) (w':World):Prop:=∃ (A:Option Addr) (c:Nat),e=.returned (.tuple #[.slice A na c,.bool true])∧Rd w' w'.heap.size A (strCells args)∧Below W.heap.size W w'
def DoesPost (x b:Nat) (P:Int→BookV→Prop) (W:World) (e:Ending) (w':World):Prop:=∃ E V',P E V'∧e=.returned (.int .i64 E)∧BkAt w' x b V'∧Below x W w'∧K64 W w'
def EnPost (x b:Nat) (P:Int→BookV→Prop) (n:Nat) (by_ tx:ByteArray) (w:World) (e:Ending) (w':World):Prop:=∃ E V',P E V'∧e=.returned (.int .i64 E)∧Below x w w'∧(E≠0→BkAt w' x b V')∧(E=0→∃ A c,BkAt w' x b { V' with lg:=⟨A,n+1,c⟩,log:=V'.log++[(by_,tx)] })
structure EnH (rl wn:Int) (tb:Bool) (f:Nat) (w:World) (x b:Nat) (V:BookV) (by_ tx wd:ByteArray) (rest:List ByteArray) (nr k:Nat) (y:Sw):Prop where
 h:BkAt w x b V
 hS:HouseS V.h
 hT:∀ W,Below x w W→CtAt W
 hxw:x≤w.heap.size
 hlog:V.log.length≤100
 ho:oddB tx=false
 hz:tx.size≤80
 hsp:zli tx=wd :: rest
 hnr:rest.length=nr
 hr0:0<nr
 hr1:nr≤100
 hy:V.h.people[k]?=some y
 hw:za4 (fun p:Sw=>decide (p.1=by_)) V.h.people 0=(k:Int)
 hro:rl≤y.2
 AC:∀ W,Calls Tryz.prog 93 #[.string wd] W (zif W rl wn tb f)
 hf:∀ av w,(callFunc f av).run Tryz.prog w=.ok (.enter f av) w
def DoesH (x b:Nat) (V:BookV) (f na:Nat) (args:List ByteArray) (P:Int→BookV→Prop):Prop:=∀ (W:World) (A:Option Addr) (c:Nat),BkAt W x b V→CtAt W→x≤W.heap.size→Rd W W.heap.size A (strCells args)→Calls Tryz.prog f #[.pointer (some ⟨b,0,none⟩),.slice A na c] W (DoesPost x b P W)
def RdxH (rl wn:Int) (tb:Bool) (f nr na:Nat) (rest args:List ByteArray):Prop:=∀ (W:World) (bb:Nat),Rd W W.heap.size (some ⟨bb,1,none⟩) (strCells rest)→Calls Tryz.prog 94 #[.agg (zbb rl wn tb f),.slice (some ⟨bb,1,none⟩) nr nr] W (RdxPost W args na)
theorem zd2 (needs:Int) (f n:Nat) (l:List ByteArray) (hl:l.length=n) (hn:n≤1000) (he:zcu l ⟨#[]⟩=false):RdxH needs n false f n n l l:=fun W _ hr =>
 (zl8 needs n f W.heap.size _ n n l W hl hn rfl he hr).mono fun _ _ ⟨h1,h2⟩=>⟨_,_,h1,(hr.keep h2).mono h2.size,h2⟩
theorem zlt (needs:Int) (words f n:Nat) (l:List ByteArray) (hl:l.length=n) (hn:n≤1000) (hk:words<n) (he:zcu (l.take words) ⟨#[]⟩=false) (hsz:∀ s∈l,s.size≤1000):RdxH needs words true f n (words+1) l (l.take words++[ba (Lib.join ((l.drop words).map (·.data.toList)) [32])]):=fun W bb hr =>
 (actRead_text needs words f bb 1 n n l W hl hn hk (Nat.le_refl _) he hsz hr).mono fun _ _ ⟨A,c,h1,h2,h3⟩=>⟨A,c,h1,za7 h2,h3⟩
theorem enter_any {rl wn:Int} {tb:Bool} {f:Nat} {w:World} {x b:Nat} {V:BookV} {by_ tx wd:ByteArray} {rest:List ByteArray} {nr k:Nat} {y:Sw} (H:EnH rl wn tb f w x b V by_ tx wd rest nr k y) (P:Int→BookV→Prop) (hP:∀ E V',P E V'→V'.lg=V.lg∧V'.log=V.log) {na:Nat} {args:List ByteArray} (RDX:RdxH rl wn tb f nr na rest args) (DO:DoesH x b V f na args P) :
 Calls Tryz.prog 53 #[.pointer (some ⟨b,0,none⟩),.agg #[.string by_,.string tx]] w (EnPost x b P V.lg.n by_ tx w):=by
 obtain ⟨h,hS,hT,hxw,hlog,ho,hz,hsp,hnr,hr0,hr1,hy,hw,hro,AC,hf⟩:=H
 have hb0:=hB1 w (.cells #[.string by_,.string tx] 58)
 have k0:=hA1 w (.cells #[.string by_,.string tx] 58)
 have hs0:=hS1 w (.cells #[.string by_,.string tx] 58)
 have HH:=Lib.hid h
 have H0:=h.keep hb0
 have HB:=Lib.hid (hb0.mono hxw)
 have HTT:=Lib.hid hT
 have hog:∀ g',V.lg.v.ownBlock=some g'→g'<w.heap.size:=fun g' hg=>(zbi h.log.2 hg).2.1
 clear hb0 h hT
 go_enter Tryz.func53,Tryz.ntmps53
 go_upto_region 1 with (fail)
 generalize w.alloc (.cells #[.string by_,.string tx] 58)=w0 at *
 generalize hbw:w.heap.size=bw at *
 have HBW:=Lib.hid hbw
 clear hbw
 have IX:=Index90 90 #[.pointer (some ⟨bw,0,none⟩)] (fun _ _=>by kernel_rfl) V.h.pp.A V.h.pp.n V.h.pp.c x V.h.people (fun p:Sw=>decide (p.1=by_)) w0 (by have:=H0.r.house.people.1;have:=hS.people.1;omega) H0.r.house.people.1 H0.r.house.people.2 (by omega)
  (fun W z hb _=>byName_val z by_ tx bw W (zes hb k0))
 rw [hw] at IX
 unfold zay at IX
 have d24:=H0.house 24 (u:=V.h.pp.v) rfl
 simp only [SlV.v] at d24
 go_upto_region 2 with (go_at_call 89;refine IX.mono ?_;rintro e w1 ⟨rfl,hb1⟩)
 have H1:=H0.keep hb1
 have k1:=zes hb1 k0
 have hbx1:=HB.out.trans (hb1.mono (show x≤w0.heap.size by omega))
 have hx1:x≤w1.heap.size:=by have:=hb1.size;omega
 obtain ⟨e0,e1⟩:_∧_:=zaz k1
 have OD:=odd_any tx w1
 rw [ho] at OD
 clear IX d24 H0 hb1
 go_upto_region 3 with (go_at_call 91;refine OD.mono ?_;rintro e w2 ⟨rfl,hb2⟩)
 have H2:=H1.keep hb2
 have k2:=zes hb2 k1
 have hbx2:=hbx1.trans (hb2.mono hx1)
 have hx2:x≤w2.heap.size:=Nat.le_trans hx1 hb2.size
 obtain ⟨f0,f1⟩:_∧_:=zaz k2
 have SP:=zl9 tx (by omega) w2 (HTT.out w2 hbx2).txt
 rw [hsp] at SP
 rw [List.length_cons,hnr] at SP
 clear OD H1 k1 hb2 e0 e1
 go_upto_region 4 with (go_at_call 66;refine SP.mono ?_;rintro e w3 ⟨bb,rfl,hbB,hrd,hb3⟩)
 have H3:=H2.keep hb3
 have k3:=zes hb3 k2
 have hbx3:=hbx2.trans (hb3.mono hx2)
 have hx3:x≤w3.heap.size:=Nat.le_trans hx2 hb3.size
 have z0:=zby hrd (k:=0) (u:=.string wd) rfl
 rw [Nat.zero_add] at z0
 have HRT:=Lib.hid (zma hrd)
 have AC3:=AC w3
 clear SP H2 k2 hb3 f0 f1 AC hrd k0
 go_wp2_with (first | (go_at_call 93;refine AC3.mono ?_;rintro e w4 ⟨rfl,hb4⟩) | (with_reducible refine zas 217 ?_))
 have hba:=hB1 w4 (.cells #[.int .i64 0,.int .i64 0,.bool false,.nilFunc] 217)
 have k5:=hA1 w4 (.cells #[.int .i64 0,.int .i64 0,.bool false,.nilFunc] 217)
 unfold Stp
 refine wpList_store_row rfl 217 _ _ rfl w4.heap.size (zbb rl wn tb f) rfl rfl 217 _ k5 (by kernel_rfl) rfl (by kernel_rfl) ?_
 have ka:=setRow_heap _ w4.heap.size _ (zbb rl wn tb f) 217 (0,0) k5
 have hb45:Below w3.heap.size w3 ((w4.alloc (.cells #[.int .i64 0,.int .i64 0,.bool false,.nilFunc] 217)).setRow w4.heap.size (zbb rl wn tb f)):=below_setRow (hb4.trans (hba.mono hb4.size)) hb4.size _
 have hys:w4.heap.size<((w4.alloc (.cells #[.int .i64 0,.int .i64 0,.bool false,.nilFunc] 217)).setRow w4.heap.size (zbb rl wn tb f)).heap.size:=lt_of_block ka
 clear AC3 k5 hba
 generalize (w4.alloc (.cells #[.int .i64 0,.int .i64 0,.bool false,.nilFunc] 217)).setRow w4.heap.size (zbb rl wn tb f)=w5 at *
 generalize w4.heap.size=ya at *
 have H5:=H3.keep hb45
 have kb:=zes hb45 k3
 have hbx5:=hbx3.trans (hb45.mono hx3)
 have hx5:x≤w5.heap.size:=Nat.le_trans hx3 hb45.size
 have HR5:=Lib.hid ((HRT.out.keep hb45).mono hb45.size)
 clear H3 k3 hb45 hb4 z0 HRT
 have hkpos:(0:Int)≤(k:Int):=Int.natCast_nonneg k
 have htz:((tx.size:Nat):Int)≤80:=by omega
 have U0:=fun e W=>zbk true e 0 rfl W
 obtain ⟨e0,e1⟩:_∧_:=zaz kb
 go_upto_region 5 with (fail)
 have x1:=fun y:Xt w5=>y.cell e1
 refine zak [15] (fun w'=>∃ y:Xt w5,w'=y.1) (by kernel_rfl) ⟨⟨w5.drew,(Below.refl _ _).drew⟩,rfl⟩ ?_
 refine zao [0,1,3,4,5,6,8,9,11] 7 rfl (by kernel_rfl) ?_
 simp only [zad,zac,zaa,zX1,zX2,zX3]
 repeat (go_big_quiet_step (fail))
 refine wpQuiet_nil ?_
 have hbd:Below w5.heap.size w5 w5.drew:=(Below.refl _ _).drew
 show wpE _ _ _ _ _ _ _ _ _ w5.drew
 generalize w5.drew=wd at *
 clear x1
 refine zan (i:=2) rfl (by kernel_rfl) rfl ?_
 unfold zar
 simp only [zad,zac,zaa,zX1,zX2,zX3]
 go_wp2_with (go_at_call 48;refine (U0 _ _).mono ?_;rintro e w' ⟨rfl,rfl⟩)
 refine zab ⟨⟨⟨_,hbd⟩,rfl⟩,?_⟩
 refine zan (i:=7) rfl (by kernel_rfl) rfl ?_
 unfold zar
 simp only [zad,zac,zaa,zX1,zX2,zX3]
 go_wp2_with (go_at_call 48;refine (U0 _ _).mono ?_;rintro e w' ⟨rfl,rfl⟩)
 refine zab ⟨⟨⟨_,hbd⟩,rfl⟩,?_⟩
 refine zan (i:=10) rfl (by kernel_rfl) rfl ?_
 unfold zar
 simp only [zad,zac,zaa,zX1,zX2,zX3]
 go_wp2_with (go_at_call 48;refine (U0 _ _).mono ?_;rintro e w' ⟨rfl,rfl⟩)
 refine zab ⟨⟨⟨_,hbd⟩,rfl⟩,?_⟩
 refine zan (i:=12) rfl (by kernel_rfl) rfl ?_
 unfold zar
 simp only [zad,zac,zaa,zX1,zX2,zX3]
 go_wp2_with (go_at_call 48;refine (U0 _ _).mono ?_;rintro e w' ⟨rfl,rfl⟩)
 refine zab ⟨⟨⟨_,hbd⟩,rfl⟩,?_⟩
 refine zan (i:=13) rfl (by kernel_rfl) rfl ?_
 unfold zar
 simp only [zad,zac,zaa,zX1,zX2,zX3]
 go_wp2
 have hbn:=hB1 wd (.cells #[.int .i64 0,.int .i64 0,.int .i64 0,.int .i64 0] 60)
 have kq:=hA1 wd (.cells #[.int .i64 0,.int .i64 0,.int .i64 0,.int .i64 0] 60)
 have hbe:=hbd.trans (hbn.mono hbd.size)
 refine zab ⟨⟨⟨_,hbe⟩,rfl⟩,?_⟩
 refine zan (i:=14) rfl (by kernel_rfl) rfl ?_
 unfold zar
 simp only [zad,zac,zaa,zX1,zX2,zX3]
 go_wp2_with (go_at_call 47;refine (cnFirst4 _ 0 0 0 0).mono ?_;rintro e w' ⟨rfl,rfl⟩)
 refine zab ⟨⟨⟨_,hbe⟩,rfl⟩,?_⟩
 refine zau rfl (by kernel_rfl) ?_
 simp only [zad,zac,zaa,zX1,zX2,zX3]
 have H6:=H5.keep hbe
 have k6:=zes hbe kb
 have k6a:=zes hbe ka
 have hbx6:=hbx5.trans (hbe.mono hx5)
 have hx6:x≤(wd.alloc (.cells #[.int .i64 0,.int .i64 0,.int .i64 0,.int .i64 0] 60)).heap.size:=Nat.le_trans hx5 hbe.size
 have HR6:=Lib.hid ((HR5.out.keep hbe).mono hbe.size)
 clear H5 kb ka hbe hbn kq hbd e0 e1 HR5 htz
 generalize wd.alloc (.cells #[.int .i64 0,.int .i64 0,.int .i64 0,.int .i64 0] 60)=w6 at *
 go_wp2
 refine zab ?_
 obtain ⟨c0,c1,c2,c3⟩:_∧_∧_∧_:=zbo (W:=w6) (r:=ya) (t:=217) (a0:=.int .i64 rl) (a1:=.int .i64 wn) (a2:=.bool tb) (a3:=.func (.func f) #[] #[]) k6a
 have HR7:=HR6.out
 rw [Nat.zero_add] at HR7
 go_upto_region 8 with (fail)
 have x0:=fun y:Xt w6=>y.cell c0
 have x1:=fun y:Xt w6=>y.cell c1
 have x2:=fun y:Xt w6=>y.cell c2
 have x3:=fun y:Xt w6=>y.cell c3
 refine zak [8] (fun w'=>∃ y:Xt w6,w'=y.1) (by kernel_rfl) ⟨⟨w6.drew,(Below.refl _ _).drew⟩,rfl⟩ ?_
 refine zao [0,1] 7 rfl (by kernel_rfl) ?_
 simp only [zad,zac,zaa,zX1,zX2,zX3]
 repeat (go_big_quiet_step (fail))
 refine wpQuiet_nil ?_
 have hb7:Below w6.heap.size w6 w6.drew:=(Below.refl _ _).drew
 show wpE _ _ _ _ _ _ _ _ _ w6.drew
 generalize w6.drew=w7 at *
 clear x0 x1 x2 x3 c0 c1 c2 c3
 refine zan (i:=2) rfl (by kernel_rfl) rfl ?_
 unfold zar
 simp only [zad,zac,zaa,zX1,zX2,zX3]
 go_wp2
 refine zab ⟨⟨⟨_,hb7⟩,rfl⟩,?_⟩
 have RDX7:=RDX w7 bb ((HR7.keep hb7).mono hb7.size)
 change Calls Tryz.prog 94 #[.agg #[.int .i64 rl,.int .i64 wn,.bool tb,.func (.func f) #[] #[]],.slice (some ⟨bb,1,none⟩) nr nr] w7 _ at RDX7
 clear RDX
 refine zan (i:=3) rfl (by kernel_rfl) rfl ?_
 unfold zar
 simp only [zad,zac,zaa,zX1,zX2,zX3]
 go_wp2_with (go_at_call 94;refine RDX7.mono ?_;rintro e w8 ⟨A8,c8,rfl,ho8,hb8⟩)
 have hbf:=hb7.trans (hb8.mono hb7.size)
 refine zab ⟨⟨⟨_,hbf⟩,rfl⟩,?_⟩
 have HW8:=Lib.hid ho8
 clear ho8
 refine zao [4,5,6,7] 1 rfl (by kernel_rfl) ?_
 simp only [zad,zac,zaa,zX1,zX2,zX3]
 repeat (go_big_quiet_step (fail))
 refine wpQuiet_nil ?_
 refine zau rfl (by kernel_rfl) ?_
 simp only [zad,zac,zaa,zX1,zX2,zX3]
 have H8:=H6.keep hbf
 have k8:=zes hbf k6
 have k8a:=zes hbf k6a
 have hbx8:=hbx6.trans (hbf.mono hx6)
 have hx8:x≤w8.heap.size:=Nat.le_trans hx6 hbf.size
 clear H6 k6 k6a hbf hb8 hb7 RDX7 HR7 HR6 hbx6
 go_wp2
 refine zab ?_
 obtain ⟨c0,c1,c2,c3⟩:_∧_∧_∧_:=zbo (W:=w8) (r:=ya) (t:=217) (a0:=.int .i64 rl) (a1:=.int .i64 wn) (a2:=.bool tb) (a3:=.func (.func f) #[] #[]) k8a
 obtain ⟨pb,po,hpA,hpb,p0,p1⟩:=Rd.sw H8.r.house.people.2 hy
 have d24:=H8.house 24 (u:=V.h.pp.v) rfl
 simp only [SlV.v,hpA] at d24
 have hkn:k<V.h.pp.n:=by rw [← H8.r.house.people.1];exact (List.getElem?_eq_some_iff.1 hy).1
 have hpn9:V.h.pp.n≤1000:=by rw [← H8.r.house.people.1];exact hS.people.1
 generalize V.h.pp.n=pn at *
 go_upto_region 9 with (fail)
 have x0:=fun y:Xt w8=>y.cell c0
 have x1:=fun y:Xt w8=>y.cell d24
 have x2:=fun y:Xt w8=>y.cell p1
 refine zak [17] (fun w'=>∃ y:Xt w8,w'=y.1) (by kernel_rfl) ⟨⟨w8.drew,(Below.refl _ _).drew⟩,rfl⟩ ?_
 refine zao [0,1,2,3,4,5,6,7,8,9,10,11,13] 5 rfl (by kernel_rfl) ?_
 simp only [zad,zac,zaa,zX1,zX2,zX3]
 repeat (go_big_quiet_step (fail))
 refine wpQuiet_nil ?_
 have hb9:Below w8.heap.size w8 w8.drew:=(Below.refl _ _).drew
 show wpE _ _ _ _ _ _ _ _ _ w8.drew
 generalize w8.drew=w9 at *
 clear x0 x1 x2 d24 p0 p1 c0 c1 c2 c3
 refine zan (i:=12) rfl (by kernel_rfl) rfl ?_
 unfold zar
 simp only [zad,zac,zaa,zX1,zX2,zX3]
 go_wp2_with (go_at_call 48;refine (U0 _ _).mono ?_;rintro e w' ⟨rfl,rfl⟩)
 refine zab ⟨⟨⟨_,hb9⟩,rfl⟩,?_⟩
 refine zan (i:=14) rfl (by kernel_rfl) rfl ?_
 unfold zar
 simp only [zad,zac,zaa,zX1,zX2,zX3]
 go_wp2_with (go_at_call 48;refine (U0 _ _).mono ?_;rintro e w' ⟨rfl,rfl⟩)
 refine zab ⟨⟨⟨_,hb9⟩,rfl⟩,?_⟩
 refine zan (i:=15) rfl (by kernel_rfl) rfl ?_
 unfold zar
 simp only [zad,zac,zaa,zX1,zX2,zX3]
 go_wp2
 have hbn:=hB1 w9 (.cells #[.int .i64 0,.int .i64 0] 60)
 have kq:=hA1 w9 (.cells #[.int .i64 0,.int .i64 0] 60)
 have hbg:=hb9.trans (hbn.mono hb9.size)
 refine zab ⟨⟨⟨_,hbg⟩,rfl⟩,?_⟩
 refine zan (i:=16) rfl (by kernel_rfl) rfl ?_
 unfold zar
 simp only [zad,zac,zaa,zX1,zX2,zX3]
 go_wp2_with (go_at_call 47;refine (zde _ 0 0).mono ?_;rintro e w' ⟨rfl,rfl⟩)
 refine zab ⟨⟨⟨_,hbg⟩,rfl⟩,?_⟩
 refine zau rfl (by kernel_rfl) ?_
 simp only [zad,zac,zaa,zX1,zX2,zX3]
 have HA:=H8.keep hbg
 have kA:=zes hbg k8
 have kAa:=zes hbg k8a
 have hbxA:=hbx8.trans (hbg.mono hx8)
 have hxA:x≤(w9.alloc (.cells #[.int .i64 0,.int .i64 0] 60)).heap.size:=Nat.le_trans hx8 hbg.size
 have HWA:=(HW8.out.keep hbg).mono hbg.size
 have hsA:=hbg.size
 have hkA:=lt_of_block kA
 clear H8 k8 k8a hbg hbn kq hb9 hpA HW8 hbx8
 generalize w9.alloc (.cells #[.int .i64 0,.int .i64 0] 60)=wA at *
 obtain ⟨_,_,_,c3⟩:_∧_∧_∧_:=zbo (W:=wA) (r:=ya) (t:=217) (a0:=.int .i64 rl) (a1:=.int .i64 wn) (a2:=.bool tb) (a3:=.func (.func f) #[] #[]) kAa
 have DOA:=DO wA A8 c8 HA (HTT.out wA hbxA) hxA HWA
 clear DO
 go_wp2
 refine zab ?_
 have hxb:=HA.xb
 have HA1:=Lib.hid HA
 clear HA HWA
 go_upto_region 13 with (refine DOA.mono ?_;rintro e wB ⟨E9,V9,hP9,rfl,hB9,hb9,hK9⟩)
 by_cases hE9:E9=0
 rotate_left
 · go_wp2
   go_ret
   exact ⟨E9,V9,hP9,rfl,hbxA.trans hb9,fun _=>hB9,fun h=>absurd h hE9⟩
 subst hE9
 have hbxB:=hbxA.trans hb9
 have hxB:=hb9.size
 have kE:wB.heap[bw]?=some (.cells #[.string by_,.string tx] 58 (0,0)):=hK9 bw _ kA
 have hlg:=hB9.log
 obtain ⟨hL1,hL2⟩:=hP 0 V9 hP9
 rw [hL1,hL2] at hlg
 obtain ⟨i1,hi1,hy0,hy1,hy2⟩:=info_parts zjh
 obtain ⟨e0,e1⟩:_∧_:=zaz kE
 have d25:=hB9.cell (i:=25) (u:=V9.lg.v) rfl
 rw [hL1] at d25
 simp only [SlV.v] at d25
 have HP9:=Lib.hid hP9
 have hbwB:=lt_of_block kE
 have hlb:=hB9.lt
 have hxb9:=hB9.xb
 have hln9:V.lg.n≤100:=by rw [← hlg.1];exact hlog
 have HL12:=Lib.hid (And.intro hL1 hL2)
 clear hP9 hb9 DOA hK9 hL1 hL2
 go_upto_region 15 with (fail)
 have x1:=fun q:Xk2 x b bw wB=>(zf3 q.2.2.1).trans d25
 have x2:=fun q:Xk2 x b bw wB=>(zf3 q.2.2.2).trans e0
 have x3:=fun q:Xk2 x b bw wB=>(zf3 q.2.2.2).trans e1
 refine zak [8,9,10] (fun w'=>∃ y:Xk2 x b bw wB,w'=y.1) (by kernel_rfl) ⟨⟨wB.drew,⟨(Below.refl _ _).drew,rfl,rfl⟩⟩,rfl⟩ ?_
 refine zao [0,1,2,3,4,5] 5 rfl (by kernel_rfl) ?_
 simp only [zad,zac,zaa,zX1,zX2,zX3]
 repeat (go_big_quiet_step (fail))
 refine wpQuiet_nil ?_
 have hbC:Below wB.heap.size wB wB.drew:=(Below.refl _ _).drew
 show wpE _ _ _ _ _ _ _ _ _ wB.drew
 generalize wB.drew=wC at *
 clear x1 x2 x3 d25 e0 e1
 have hBC:=hB9.keep hbC
 have hxC:=hbC.size
 have hxxB:x≤wB.heap.size:=Nat.le_trans hxb9 (Nat.le_of_lt hlb)
 have hE0:Below x wB wC∧wC.heap[b]?=wB.heap[b]?∧wC.heap[bw]?=wB.heap[bw]?:=⟨hbC.mono hxxB,hbC.block b hlb,hbC.block bw hbwB⟩
 have hba:=hB1 wC (.cells #[.string by_,.string tx] 58)
 have hE1:Below x wB (wC.alloc (.cells #[.string by_,.string tx] 58))∧(wC.alloc (.cells #[.string by_,.string tx] 58)).heap[b]?=wB.heap[b]?∧(wC.alloc (.cells #[.string by_,.string tx] 58)).heap[bw]?=wB.heap[bw]?:=⟨hE0.1.alloc (by omega) _,by rw [zae,if_neg (by omega)];exact hE0.2.1,by rw [zae,if_neg (by omega)];exact hE0.2.2⟩
 refine zan (i:=6) rfl (by kernel_rfl) rfl ?_
 unfold zar
 simp only [zad,zac,zaa,zX1,zX2,zX3]
 go_wp2
 refine zab ⟨⟨⟨_,hE1⟩,rfl⟩,?_⟩
 refine zan (i:=7) rfl (by kernel_rfl) rfl ?_
 unfold zar
 simp only [zad,zac,zaa,zX1,zX2,zX3]
 have hown1:=zaf (zaf hlg.2 hbC) hba
 refine wpList_append_lies _ rfl _ _ 55 rfl x 58 i1 _ 2 32 Tryz.underlying55 hi1 hy0 hy1 hy2 rfl (by omega) (.slice V.lg.A V.lg.n V.lg.c) V.lg.n _ rfl hown1 ⟨wC.heap.size,0,none⟩ 1 1 [.string by_,.string tx] rfl rfl (zey (f:=(0,0)) (t:=58) (by rw [zae,if_pos rfl])) (by simp [Value.oneCell']) (by omega) (by simp only [maxLen];omega) (by omega) (by simp;omega) _ rfl ?_
 intro gg cap wD hown6 hgrow6 _ _
 have hBD:=hBC.keep hba
 have hblD:wD.heap[b]?=some (.cells (zbd V9).toArray 111 (0,0)):=zer hown1 hgrow6 hBD.blk (fun cur e=>by cases e)
 have hbxD:Below x (wC.alloc (.cells #[.string by_,.string tx] 58)) wD:=(Below.refl _ _).grown hgrow6 (by simp;omega) (fun j hj=>(zbi hown1 hj).1)
 have hMD:wD.ownsRow x 136 1 V9.ms.v V9.ms.s.n (zel V9.ms.chs):=zbc hBD.ms.2 (fun k cur hk=>(zer hown1 hgrow6 hk (fun cur' e=>by cases e)).trans hk.symm)
 have hRD:BkR wD x V9:=hBD.r.but hbxD (fun k' o hko ho=>zer hown1 hgrow6 hko (fun cur e=>by
  rcases ho with ⟨m9,c9,h9⟩ | ⟨cs,t9,ht9,h9⟩
  · rw [h9] at e;cases e
  · rw [h9] at e
    cases e
    rcases ht9 with h8 | h8 <;> cases h8))
 have hbwD:wD.heap[bw]?=(wC.alloc (.cells #[.string by_,.string tx] 58)).heap[bw]?:=hgrow6.block bw (by simp;omega) (fun he=>Nat.lt_irrefl bw (hog bw he.symm))
 have hE3:Below x wB wD∧wD.heap[b]?=wB.heap[b]?∧wD.heap[bw]?=wB.heap[bw]?:=⟨hE1.1.trans hbxD,hblD.trans hB9.blk.symm,hbwD.trans hE1.2.2⟩
 clear hgrow6 hbxD hbwD hBD hE0 hE1 hba hown1 hBC
 go_wp2
 refine zab ⟨⟨⟨_,hE3⟩,rfl⟩,?_⟩
 refine zau rfl (by kernel_rfl) ?_
 simp only [zad,zac,zaa,zX1,zX2,zX3]
 have hBe:BkAt wD x b V9→True:=fun _=>trivial
 have f25:=frozen_of_row wD b 25 _ _ hblD
 have c25:=(cell_of_row wD b 25 _ _ _ hblD).trans (by rfl:_=some V9.lg.v)
 rw [HL12.out.1] at c25
 simp only [SlV.v] at c25
 have HS9:Hid (wD.setCell ⟨b,25,none⟩ (.slice (some ⟨gg,0,none⟩) (V.lg.n+1) cap)=wD.setRow b (zbd { V9 with lg:=⟨some ⟨gg,0,none⟩,V.lg.n+1,cap⟩,log:=V.log++[(by_,tx)] }).toArray):=(setCell_eq_setRow wD b 25 _ 111 (0,0) _ hblD).trans (congrArg (wD.setRow b) rfl)
 have HB8:=Lib.hid (bk_put (V':={ V9 with lg:=⟨some ⟨gg,0,none⟩,V.lg.n+1,cap⟩,log:=V.log++[(by_,tx)] }) hblD hxb9 ⟨hRD.house,hRD.lk,hRD.pl,hRD.rn,hRD.se,hRD.ne,hRD.wk⟩ ⟨by rw [List.length_append,hlg.1];rfl,by rw [zeh];exact hown6⟩ ⟨hB9.ms.1,hMD⟩)
 have HBL:=Lib.hid (below_setRow (hbxB.trans hE3.1) hxb9 (zbd { V9 with lg:=⟨some ⟨gg,0,none⟩,V.lg.n+1,cap⟩,log:=V.log++[(by_,tx)] }).toArray)
 clear hblD hRD hMD hown6 hE3 hB9 hlg
 go_wp2
 refine zab ?_
 go_wp2
 go_ret
 exact ⟨0,V9,HP9.out,rfl,by rw [HS9.out];exact HBL.out,fun h=>absurd rfl h,fun _=>⟨some ⟨gg,0,none⟩,cap,by rw [HS9.out,HL12.out.2];exact HB8.out⟩⟩
theorem zeg {rl wn:Int} {tb:Bool} {f:Nat} {w:World} {x b:Nat} {V:BookV} {by_ tx wd:ByteArray} {rest:List ByteArray} {nr k:Nat} {y:Sw} (H:EnH rl wn tb f w x b V by_ tx wd rest nr k y) (P:BookV→Prop) (hP:∀ V',P V'→V'.lg=V.lg∧V'.log=V.log) {na:Nat} {args:List ByteArray} (RDX:RdxH rl wn tb f nr na rest args)
 (DO:∀ (W:World) (A:Option Addr) (c:Nat),BkAt W x b V→CtAt W→x≤W.heap.size→Rd W W.heap.size A (strCells args)→Calls Tryz.prog f #[.pointer (some ⟨b,0,none⟩),.slice A na c] W (fun e w'=>∃ V',P V'∧e=.returned (.int .i64 0)∧BkAt w' x b V'∧Below x W w'∧K64 W w')) :
 Calls Tryz.prog 53 #[.pointer (some ⟨b,0,none⟩),.agg #[.string by_,.string tx]] w fun e w'=>∃ V' A c,P V'∧e=.returned (.int .i64 0)∧BkAt w' x b { V' with lg:=⟨A,V.lg.n+1,c⟩,log:=V.log++[(by_,tx)] }∧Below x w w':=
 (enter_any H (fun E V'=>E=0∧P V') (fun E V' h=>hP V' h.2) RDX fun W A c h1 h2 h3 h4=>(DO W A c h1 h2 h3 h4).mono fun _ _ ⟨V',p,q⟩=>⟨0,V',⟨rfl,p⟩,q⟩).mono fun e w' ⟨E,V',⟨e0,p⟩,he,hb,_,h0⟩=>by
  subst e0
  obtain ⟨A,c,hB⟩:=h0 rfl
  exact ⟨V',A,c,p,he,by rw [← (hP V' p).2];exact hB,hb⟩
theorem enter_no {rl wn:Int} {tb:Bool} {f:Nat} {w:World} {x b:Nat} {V:BookV} {by_ tx wd:ByteArray} {rest:List ByteArray} {nr k:Nat} {y:Sw} (H:EnH rl wn tb f w x b V by_ tx wd rest nr k y) (E:Int) (hE:E≠0) {na:Nat} {args:List ByteArray} (RDX:RdxH rl wn tb f nr na rest args)
 (DO:∀ (W:World) (A:Option Addr) (c:Nat),BkAt W x b V→CtAt W→x≤W.heap.size→Rd W W.heap.size A (strCells args)→Calls Tryz.prog f #[.pointer (some ⟨b,0,none⟩),.slice A na c] W (fun e w'=>e=.returned (.int .i64 E)∧BkAt w' x b V∧Below x W w'∧K64 W w')) :
 Calls Tryz.prog 53 #[.pointer (some ⟨b,0,none⟩),.agg #[.string by_,.string tx]] w fun e w'=>e=.returned (.int .i64 E)∧BkAt w' x b V∧Below x w w':=
 (enter_any H (fun E' V'=>E'=E∧V'=V) (fun E V' h=>by rw [h.2];exact ⟨rfl,rfl⟩) RDX fun W A c h1 h2 h3 h4=>(DO W A c h1 h2 h3 h4).mono fun _ _ q=>⟨E,V,⟨rfl,rfl⟩,q⟩).mono fun e w' ⟨E',V',⟨e0,e1⟩,he,hb,hn,_⟩=>by
  subst e0 e1
  exact ⟨he,hn hE,hb⟩
end Go.Proofs.YtoodbfkbbchjiaaGreatDoor
