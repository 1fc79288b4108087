import Derived.Test.YtoodbfkbbchjiaaGreatDoorf3R3
import Derived.Test.YtoodbfkbbchjiaaGreatDoorf3C7
import Derived.Test.YtoodbfkbbchjiaaGreatDoorf3C1
set_option maxRecDepth 100000
set_option maxHeartbeats 16000000
namespace Go.Proofs.YtoodbfkbbchjiaaGreatDoor
open Go.RowKit
theorem zfh (W:World):Sem.run Tryz.prog (binOp BinOp.eql 136 (.chan none) (.chan none)) W=.ok (.bool true) W:=by kernel_rfl
theorem run_eql_some (c:Nat) (W:World):Sem.run Tryz.prog (binOp BinOp.eql 136 (.chan (some c)) (.chan none)) W=.ok (.bool false) W:=by kernel_rfl
theorem ms_at {w:World} {x b:Nat} {V:BookV} (h:BkAt w x b V) {i ci:Nat} (hc:V.ms.chs[i]?=some ci):∃ mb mo,V.ms.s.A=some ⟨mb,mo,none⟩∧i<V.ms.s.n∧w.cell? ⟨mb,mo+i,none⟩=some (.chan (some ci)):=by
 obtain ⟨mb,mo,e,_,z⟩:=(za7 h.ms.2).at_ (zhq hc)
 exact ⟨mb,mo,e,by rw [← h.ms.1];exact (List.getElem?_eq_some_iff.1 hc).1,z⟩
theorem join_ok (w:World) (x b:Nat) (V:BookV) (h:BkAt w x b V) (hS:HouseS V.h) (hxw:x≤w.heap.size) (A:Option Addr) (c B:Nat) (s r:ByteArray) (hr:Rd w B A (strCells [s,r])) (t i:Nat) (ht:zh9 V.h.plant.trains s=(t:Nat)) (hi:zh9 V.h.masts r=(i:Nat)) (him:i<V.h.masts.length) (hs:zht V t none):Calls Tryz.prog 163 #[.pointer (some ⟨b,0,none⟩),.slice A 2 c] w (zih w x b { V with se:=⟨V.se.m,zlk V.ms.chs t V.se.c (some (i,none)),V.se.c+1⟩ }):=by
 have hls:=look_none V t hs
 obtain ⟨⟨born,he⟩,hnd,hlen⟩:=hs
 obtain ⟨ci,hci⟩:∃ ci,V.ms.chs[i]?=some ci:=⟨_,List.getElem?_eq_getElem (by rw [hlen];exact him)⟩
 have HSE:=Lib.hid (And.intro he hci)
 clear he hnd hlen him hci
 have TR:=fun W (hW:Below w.heap.size w W)=>zc3 W x b V (h.keep hW) hS s
 have MA:=fun W (hW:Below w.heap.size w W)=>zlw W x b V (h.keep hW) hS r
 rw [ht] at TR
 rw [hi] at MA
 obtain ⟨sb,so,rfl,hsb,z0⟩:=hr.at_ (k:=0) (u:=.string s) rfl
 have z1:=zby hr (k:=1) (u:=.string r) rfl
 rw [Nat.add_zero] at z0
 have HH:=Lib.hid h
 have ht0:(0:Int)≤(t:Int):=Int.natCast_nonneg _
 have hi0:(0:Int)≤(i:Int):=Int.natCast_nonneg _
 clear hr h ht hi
 go_enter Tryz.func163,Tryz.ntmps163
 go_upto_region 1 with (fail)
 have x0:=fun y:Xt w=>y.cell z0
 have x1:=fun y:Xt w=>y.cell z1
 refine zak [11] (fun w'=>∃ y:Xt w,w'=y.1) (by kernel_rfl) ⟨⟨w.drew,(Below.refl _ _).drew⟩,rfl⟩ ?_
 refine zao [0,1,2,3,5,6,7,8] 4 rfl (by kernel_rfl) ?_
 simp only [zad,zac,zaa,zX1,zX2,zX3]
 repeat (go_big_quiet_step (fail))
 refine wpQuiet_nil ?_
 have hbd:Below w.heap.size w w.drew:=(Below.refl _ _).drew
 show wpE _ _ _ _ _ _ _ _ _ w.drew
 generalize w.drew=wd at *
 clear x0 x1 z0 z1
 have TRd:=TR wd hbd
 have MAd:=MA wd hbd
 refine zan (i:=4) rfl (by kernel_rfl) rfl ?_
 unfold zar
 simp only [zad,zac,zaa,zX1,zX2,zX3]
 go_wp2_with (go_at_call 46;refine TRd.mono ?_;rintro e w' ⟨rfl,rfl⟩)
 refine zab ⟨⟨⟨_,hbd⟩,rfl⟩,?_⟩
 refine zan (i:=9) rfl (by kernel_rfl) rfl ?_
 unfold zar
 simp only [zad,zac,zaa,zX1,zX2,zX3]
 go_wp2_with (go_at_call 218;refine MAd.mono ?_;rintro e w' ⟨rfl,rfl⟩)
 refine zab ⟨⟨⟨_,hbd⟩,rfl⟩,?_⟩
 refine zao [10] 1 rfl (by kernel_rfl) ?_
 simp only [zad,zac,zaa,zX1,zX2,zX3]
 repeat (go_big_quiet_step (fail))
 refine wpQuiet_nil ?_
 refine zau rfl (by kernel_rfl) ?_
 simp only [zad,zac,zaa,zX1,zX2,zX3]
 have Hd:=HH.out.keep hbd
 clear TR MA TRd MAd
 go_wp2
 refine zab ?_
 have d34:=Hd.cell (i:=34) (u:=.map (some V.se.m)) rfl
 have hlk:=zin (t:=108) (e:=138) Tryz.underlying108 Hd.r.se (t:Int) (zero138 wd) hls
 go_wp2_with (with_reducible refine zas 138 ?_)
 have hba:=hB1 wd (.cells #[.chan none,.chan none] 138)
 have k3:=hA1 wd (.cells #[.chan none,.chan none] 138)
 unfold Stp
 refine wpList_store_row rfl 138 _ _ rfl wd.heap.size #[.chan none,.chan none] rfl rfl 138 _ k3 (by kernel_rfl) rfl (by kernel_rfl) ?_
 have k4:=setRow_heap (wd.alloc (.cells #[.chan none,.chan none] 138)) wd.heap.size _ #[.chan none,.chan none] 138 (0,0) k3
 have hb4:Below wd.heap.size wd ((wd.alloc (.cells #[.chan none,.chan none] 138)).setRow wd.heap.size #[.chan none,.chan none]):=below_setRow hba (Nat.le_refl _) _
 have hx4:wd.heap.size<((wd.alloc (.cells #[.chan none,.chan none] 138)).setRow wd.heap.size #[.chan none,.chan none]).heap.size:=lt_of_block k4
 clear k3 hba hlk d34
 go_upto_region 3 with (fail)
 generalize (wd.alloc (.cells #[.chan none,.chan none] 138)).setRow wd.heap.size #[.chan none,.chan none]=w1 at *
 have hyw:w.heap.size≤wd.heap.size:=hbd.size
 generalize hy9:wd.heap.size=yb at *
 clear hy9
 have U0:=fun e W=>zbk true e 0 rfl W
 have hbz:=hbd.trans (hb4.mono hyw)
 have H1:=HH.out.keep hbz
 go_upto_region 5 with (first | (go_at_call 48;refine (U0 _ _).mono ?_;rintro e w' ⟨rfl,rfl⟩) | (go_at_call 47;refine (zde _ 0 0).mono ?_;rintro e w' ⟨rfl,rfl⟩))
 have hbn:=hbz.alloc hbz.size (.cells #[.int .i64 0,.int .i64 0] 60)
 have HBN:=Lib.hid hbn
 have H2:=HH.out.keep hbn
 clear hbn hbz H1 hb4 hx4 k4 Hd hls
 generalize w1.alloc (.cells #[.int .i64 0,.int .i64 0] 60)=w2 at *
 obtain ⟨mb,mo,hA,hin,zm⟩:=ms_at H2 HSE.out.2
 have d34:=H2.cell (i:=34) (u:=.map (some V.se.m)) rfl
 have d33:=H2.cell (i:=33) (u:=V.ms.s.v) rfl
 simp only [SlV.v,hA] at d33
 have x0:=fun y:Xt w2=>y.cell d34
 have x1:=fun y:Xt w2=>y.cell d33
 have x2:=fun y:Xt w2=>y.cell zm
 clear hA
 refine zak [13] (fun w'=>∃ y:Xt w2,w'=y.1) (by kernel_rfl) ⟨⟨w2.drew,(Below.refl _ _).drew⟩,rfl⟩ ?_
 refine zao [0,1,2,3,4,5,6,7,8,9,10,11] 2 rfl (by kernel_rfl) ?_
 simp only [zad,zac,zaa,zX1,zX2,zX3]
 repeat (go_big_quiet_step (fail))
 refine wpQuiet_nil ?_
 have hbv:Below w2.heap.size w2 w2.drew:=(Below.refl _ _).drew
 show wpE _ _ _ _ _ _ _ _ _ w2.drew
 generalize w2.drew=wv at *
 clear x0 x1 x2 d34 d33 zm
 have H9:=H2.keep hbv
 have hse:=H9.r.se
 rw [HSE.out.1] at hse
 have hmu:=run_mapNew wv V.se.m V.se.c (t:Int) (.agg #[.chan (some ci),.chan none]) hse
 have HBV:=Lib.hid (HBN.out.trans (hbv.mono HBN.out.size))
 have HM9:=Lib.hid (H9.sesd #[⟨.int .i64 (t:Int),.agg #[.chan (some ci),.chan none],V.se.c⟩] (V.se.c+1))
 have HK9:=Lib.hid ((K64.below HBV.out).trans (K64.mapAt hse (es:=#[⟨.int .i64 (t:Int),.agg #[.chan (some ci),.chan none],V.se.c⟩]) (c:=V.se.c+1)))
 have HBW:=Lib.hid (zcr (HBV.out.mono hxw) H9.r.ne.2.2.1 #[⟨.int .i64 (t:Int),.agg #[.chan (some ci),.chan none],V.se.c⟩] (V.se.c+1))
 clear H9 H2 hse
 refine zan (i:=12) rfl (by kernel_rfl) rfl ?_
 unfold zar
 simp only [zad,zac,zaa,zX1,zX2,zX3]
 go_wp2
 refine zab ⟨⟨⟨_,hbv⟩,rfl⟩,?_⟩
 refine zau rfl (by kernel_rfl) ?_
 simp only [zad,zac,zaa,zX1,zX2,zX3]
 clear hbv
 go_wp2
 refine zab ?_
 go_wp2
 go_ret
 refine ⟨rfl,?_,HBW.out,HK9.out⟩
 rw [zlk,HSE.out.2]
 exact HM9.out
theorem hand_no (w:World) (x b:Nat) (V:BookV) (h:BkAt w x b V) (hS:HouseS V.h) (hxw:x≤w.heap.size) (A:Option Addr) (c B:Nat) (s r:ByteArray) (hr:Rd w B A (strCells [s,r])) (t i:Nat) (ht:zh9 V.h.plant.trains s=(t:Nat)) (hi:zh9 V.h.masts r=(i:Nat)) (him:i<V.h.masts.length) (k:Nat) (hs:zht V t (some (k,none))) (hk:k<V.ms.chs.length) (hm9:V.ms.chs.length≤100) (hfar:i≠k+1∧k≠i+1):Calls Tryz.prog 164 #[.pointer (some ⟨b,0,none⟩),.slice A 2 c] w fun e w'=>e=.returned (.int .i64 13)∧BkAt w' x b V∧Below x w w'∧K64 w w':=by
 have hls:=zfk V t k none hs
 obtain ⟨⟨born,he⟩,hnd,hlen⟩:=hs
 have hkm:k<V.ms.chs.length:=hk
 obtain ⟨ck,hck⟩:∃ ck,V.ms.chs[k]?=some ck:=⟨_,List.getElem?_eq_getElem hkm⟩
 obtain ⟨ci,hci⟩:∃ ci,V.ms.chs[i]?=some ci:=⟨_,List.getElem?_eq_getElem (by rw [hlen];exact him)⟩
 rw [hck] at hls
 simp only [Option.bind_none] at hls
 have HSE:=Lib.hid (And.intro he (And.intro hci (And.intro hck hnd)))
 have hi9:(i:Int)≤100:=by omega
 have hk9:(k:Int)≤100:=by omega
 clear he hnd hlen him hci hck hk hkm
 have TR:=fun W (hW:Below w.heap.size w W)=>zc3 W x b V (h.keep hW) hS s
 have MA:=fun W (hW:Below w.heap.size w W)=>zlw W x b V (h.keep hW) hS r
 rw [ht] at TR
 rw [hi] at MA
 obtain ⟨sb,so,rfl,hsb,z0⟩:=hr.at_ (k:=0) (u:=.string s) rfl
 have z1:=zby hr (k:=1) (u:=.string r) rfl
 rw [Nat.add_zero] at z0
 have HH:=Lib.hid h
 have ht0:(0:Int)≤(t:Int):=Int.natCast_nonneg _
 have hi0:(0:Int)≤(i:Int):=Int.natCast_nonneg _
 clear hr h ht hi
 go_enter Tryz.func164,Tryz.ntmps164
 go_upto_region 1 with (fail)
 have x0:=fun y:Xt w=>y.cell z0
 have x1:=fun y:Xt w=>y.cell z1
 refine zak [11] (fun w'=>∃ y:Xt w,w'=y.1) (by kernel_rfl) ⟨⟨w.drew,(Below.refl _ _).drew⟩,rfl⟩ ?_
 refine zao [0,1,2,3,5,6,7,8] 4 rfl (by kernel_rfl) ?_
 simp only [zad,zac,zaa,zX1,zX2,zX3]
 repeat (go_big_quiet_step (fail))
 refine wpQuiet_nil ?_
 have hbd:Below w.heap.size w w.drew:=(Below.refl _ _).drew
 show wpE _ _ _ _ _ _ _ _ _ w.drew
 generalize w.drew=wd at *
 clear x0 x1 z0 z1
 have TRd:=TR wd hbd
 have MAd:=MA wd hbd
 refine zan (i:=4) rfl (by kernel_rfl) rfl ?_
 unfold zar
 simp only [zad,zac,zaa,zX1,zX2,zX3]
 go_wp2_with (go_at_call 46;refine TRd.mono ?_;rintro e w' ⟨rfl,rfl⟩)
 refine zab ⟨⟨⟨_,hbd⟩,rfl⟩,?_⟩
 refine zan (i:=9) rfl (by kernel_rfl) rfl ?_
 unfold zar
 simp only [zad,zac,zaa,zX1,zX2,zX3]
 go_wp2_with (go_at_call 218;refine MAd.mono ?_;rintro e w' ⟨rfl,rfl⟩)
 refine zab ⟨⟨⟨_,hbd⟩,rfl⟩,?_⟩
 refine zao [10] 1 rfl (by kernel_rfl) ?_
 simp only [zad,zac,zaa,zX1,zX2,zX3]
 repeat (go_big_quiet_step (fail))
 refine wpQuiet_nil ?_
 refine zau rfl (by kernel_rfl) ?_
 simp only [zad,zac,zaa,zX1,zX2,zX3]
 have Hd:=HH.out.keep hbd
 clear TR MA TRd MAd
 go_wp2
 refine zab ?_
 have d34:=Hd.cell (i:=34) (u:=.map (some V.se.m)) rfl
 have hlk:=zd0 (t:=108) (e:=138) Tryz.underlying108 Hd.r.se (t:Int) hls
 go_wp2_with (with_reducible refine zas 138 ?_)
 have hba:=hB1 wd (.cells #[.chan none,.chan none] 138)
 have k3:=hA1 wd (.cells #[.chan none,.chan none] 138)
 unfold Stp
 refine wpList_store_row rfl 138 _ _ rfl wd.heap.size #[.chan (some ck),.chan none] rfl rfl 138 _ k3 (by kernel_rfl) rfl (by kernel_rfl) ?_
 have k4:=setRow_heap (wd.alloc (.cells #[.chan none,.chan none] 138)) wd.heap.size _ #[.chan (some ck),.chan none] 138 (0,0) k3
 have hb4:Below wd.heap.size wd ((wd.alloc (.cells #[.chan none,.chan none] 138)).setRow wd.heap.size #[.chan (some ck),.chan none]):=below_setRow hba (Nat.le_refl _) _
 have hx4:wd.heap.size<((wd.alloc (.cells #[.chan none,.chan none] 138)).setRow wd.heap.size #[.chan (some ck),.chan none]).heap.size:=lt_of_block k4
 clear k3 hba hlk d34
 go_upto_region 3 with (fail)
 generalize (wd.alloc (.cells #[.chan none,.chan none] 138)).setRow wd.heap.size #[.chan (some ck),.chan none]=w1 at *
 have hyw:w.heap.size≤wd.heap.size:=hbd.size
 generalize hy9:wd.heap.size=yb at *
 clear hy9
 have hq0:=zfh
 have U0:=fun e W=>zbk true e 0 rfl W
 have hbz:=hbd.trans (hb4.mono hyw)
 obtain ⟨e0,e1⟩:_∧_:=zaz k4
 have x0:=fun y:Xt w1=>y.cell e1
 refine zak [15] (fun w'=>∃ y:Xt w1,w'=y.1) (by kernel_rfl) ⟨⟨w1.drew,(Below.refl _ _).drew⟩,rfl⟩ ?_
 refine zao [0,1,2,3,4,5,7,9,10,11] 6 rfl (by kernel_rfl) ?_
 simp only [zad,zac,zaa,zX1,zX2,zX3]
 repeat (go_big_quiet_step (fail))
 refine wpQuiet_nil ?_
 have hbe:Below w1.heap.size w1 w1.drew:=(Below.refl _ _).drew
 show wpE _ _ _ _ _ _ _ _ _ w1.drew
 generalize w1.drew=we at *
 clear x0 e0 e1 hq0
 refine zan (i:=6) rfl (by kernel_rfl) rfl ?_
 unfold zar
 simp only [zad,zac,zaa,zX1,zX2,zX3]
 go_wp2_with (go_at_call 48;refine (U0 _ _).mono ?_;rintro e w' ⟨rfl,rfl⟩)
 refine zab ⟨⟨⟨_,hbe⟩,rfl⟩,?_⟩
 refine zan (i:=8) rfl (by kernel_rfl) rfl ?_
 unfold zar
 simp only [zad,zac,zaa,zX1,zX2,zX3]
 go_wp2_with (go_at_call 48;refine (U0 _ _).mono ?_;rintro e w' ⟨rfl,rfl⟩)
 refine zab ⟨⟨⟨_,hbe⟩,rfl⟩,?_⟩
 refine zan (i:=12) rfl (by kernel_rfl) rfl ?_
 unfold zar
 simp only [zad,zac,zaa,zX1,zX2,zX3]
 go_wp2_with (go_at_call 48;refine (U0 _ _).mono ?_;rintro e w' ⟨rfl,rfl⟩)
 refine zab ⟨⟨⟨_,hbe⟩,rfl⟩,?_⟩
 refine zan (i:=13) rfl (by kernel_rfl) rfl ?_
 unfold zar
 simp only [zad,zac,zaa,zX1,zX2,zX3]
 go_wp2
 refine zab ⟨⟨⟨_,hbe.alloc hbe.size _⟩,rfl⟩,?_⟩
 refine zan (i:=14) rfl (by kernel_rfl) rfl ?_
 unfold zar
 simp only [zad,zac,zaa,zX1,zX2,zX3]
 go_wp2_with (go_at_call 47;refine (zf2 _ 0 0 0).mono ?_;rintro e w' ⟨rfl,rfl⟩)
 refine zab ⟨⟨⟨_,hbe.alloc hbe.size _⟩,rfl⟩,?_⟩
 refine zau rfl (by kernel_rfl) ?_
 simp only [zad,zac,zaa,zX1,zX2,zX3]
 have hbf:=hbe.alloc hbe.size (.cells #[.int .i64 0,.int .i64 0,.int .i64 0] 60)
 have hbz2:=hbz.trans (hbf.mono hbz.size)
 have H3:=HH.out.keep hbz2
 have k5:=zes hbf k4
 clear hbe hbf k4 Hd hb4 hx4
 generalize we.alloc (.cells #[.int .i64 0,.int .i64 0,.int .i64 0] 60)=w3 at *
 go_wp2
 refine zab ?_
 go_upto_region 6 with (fail)
 obtain ⟨e0,e1⟩:_∧_:=zaz k5
 have d33:=H3.cell (i:=33) (u:=V.ms.s.v) rfl
 simp only [SlV.v] at d33
 have x0:=fun y:Xt w3=>y.cell e0
 have x1:=fun y:Xt w3=>y.cell d33
 refine zak [9] (fun w'=>∃ y:Xt w3,w'=y.1) (by kernel_rfl) ⟨⟨w3.drew,(Below.refl _ _).drew⟩,rfl⟩ ?_
 refine zao [0,1,2,3,4,5,6] 3 rfl (by kernel_rfl) ?_
 simp only [zad,zac,zaa,zX1,zX2,zX3]
 repeat (go_big_quiet_step (fail))
 refine wpQuiet_nil ?_
 have hbg:Below w3.heap.size w3 w3.drew:=(Below.refl _ _).drew
 show wpE _ _ _ _ _ _ _ _ _ w3.drew
 generalize w3.drew=wg at *
 have hbz3:=hbz2.trans (hbg.mono hbz2.size)
 have H4:=HH.out.keep hbz3
 have k6:=zes hbg k5
 have IM:=zhu V.ms.s.A V.ms.s.n V.ms.s.c wg.heap.size V.ms.chs k ck HSE.out.2.2.1 HSE.out.2.2.2 wg H4.ms.1 (by rw [← H4.ms.1];omega) (za7 H4.ms.2)
 clear x0 x1 e0 e1 d33
 refine zan (i:=7) rfl (by kernel_rfl) rfl ?_
 unfold zar
 simp only [zad,zac,zaa,zX1,zX2,zX3]
 go_wp2_with (go_at_call 49;refine IM.mono ?_;rintro e w' ⟨rfl,rfl⟩)
 refine zab ⟨⟨⟨_,hbg⟩,rfl⟩,?_⟩
 refine zao [8] 1 rfl (by kernel_rfl) ?_
 simp only [zad,zac,zaa,zX1,zX2,zX3]
 repeat (go_big_quiet_step (fail))
 refine wpQuiet_nil ?_
 refine zau rfl (by kernel_rfl) ?_
 simp only [zad,zac,zaa,zX1,zX2,zX3]
 clear IM H3 k5 hbz2
 go_wp2
 refine zab ?_
 have q1:¬ ((i:Int) - (k:Int)=1):=by omega
 have q2:¬ ((i:Int) - (k:Int)=-1):=by omega
 have q3:(((i:Int) - (k:Int)) != 1)=true:=by simpa using q1
 have q4:(((i:Int) - (k:Int)) != -1)=true:=by simpa using q2
 go_wp2
 go_ret
 exact ⟨rfl,H4,hbz3.mono hxw,K64.below hbz3⟩
theorem hand_ok (w:World) (x b:Nat) (V:BookV) (h:BkAt w x b V) (hS:HouseS V.h) (hxw:x≤w.heap.size) (A:Option Addr) (c B:Nat) (s r:ByteArray) (hr:Rd w B A (strCells [s,r])) (t i:Nat) (ht:zh9 V.h.plant.trains s=(t:Nat)) (hi:zh9 V.h.masts r=(i:Nat)) (him:i<V.h.masts.length) (k:Nat) (hs:zht V t (some (k,none))) (hk:k<V.ms.chs.length) (hm9:V.ms.chs.length≤100) (hnear:i=k+1∨k=i+1):Calls Tryz.prog 164 #[.pointer (some ⟨b,0,none⟩),.slice A 2 c] w (zih w x b { V with se:=⟨V.se.m,zlk V.ms.chs t (V.se.es[0]!.born) (some (k,some i)),V.se.c⟩ }):=by
 have hls:=zfk V t k none hs
 obtain ⟨⟨born,he⟩,hnd,hlen⟩:=hs
 have hkm:k<V.ms.chs.length:=hk
 obtain ⟨ck,hck⟩:∃ ck,V.ms.chs[k]?=some ck:=⟨_,List.getElem?_eq_getElem hkm⟩
 obtain ⟨ci,hci⟩:∃ ci,V.ms.chs[i]?=some ci:=⟨_,List.getElem?_eq_getElem (by rw [hlen];exact him)⟩
 rw [hck] at hls
 simp only [Option.bind_none] at hls
 have HSE:=Lib.hid (And.intro he (And.intro hci (And.intro hck hnd)))
 have hb0:V.se.es[0]!.born=born:=by rw [he];rfl
 rw [hb0]
 clear hb0
 have hi9:(i:Int)≤100:=by omega
 have hk9:(k:Int)≤100:=by omega
 clear he hnd hlen him hci hck hk hkm
 have TR:=fun W (hW:Below w.heap.size w W)=>zc3 W x b V (h.keep hW) hS s
 have MA:=fun W (hW:Below w.heap.size w W)=>zlw W x b V (h.keep hW) hS r
 rw [ht] at TR
 rw [hi] at MA
 obtain ⟨sb,so,rfl,hsb,z0⟩:=hr.at_ (k:=0) (u:=.string s) rfl
 have z1:=zby hr (k:=1) (u:=.string r) rfl
 rw [Nat.add_zero] at z0
 have HH:=Lib.hid h
 have ht0:(0:Int)≤(t:Int):=Int.natCast_nonneg _
 have hi0:(0:Int)≤(i:Int):=Int.natCast_nonneg _
 clear hr h ht hi
 go_enter Tryz.func164,Tryz.ntmps164
 go_upto_region 1 with (fail)
 have x0:=fun y:Xt w=>y.cell z0
 have x1:=fun y:Xt w=>y.cell z1
 refine zak [11] (fun w'=>∃ y:Xt w,w'=y.1) (by kernel_rfl) ⟨⟨w.drew,(Below.refl _ _).drew⟩,rfl⟩ ?_
 refine zao [0,1,2,3,5,6,7,8] 4 rfl (by kernel_rfl) ?_
 simp only [zad,zac,zaa,zX1,zX2,zX3]
 repeat (go_big_quiet_step (fail))
 refine wpQuiet_nil ?_
 have hbd:Below w.heap.size w w.drew:=(Below.refl _ _).drew
 show wpE _ _ _ _ _ _ _ _ _ w.drew
 generalize w.drew=wd at *
 clear x0 x1 z0 z1
 have TRd:=TR wd hbd
 have MAd:=MA wd hbd
 refine zan (i:=4) rfl (by kernel_rfl) rfl ?_
 unfold zar
 simp only [zad,zac,zaa,zX1,zX2,zX3]
 go_wp2_with (go_at_call 46;refine TRd.mono ?_;rintro e w' ⟨rfl,rfl⟩)
 refine zab ⟨⟨⟨_,hbd⟩,rfl⟩,?_⟩
 refine zan (i:=9) rfl (by kernel_rfl) rfl ?_
 unfold zar
 simp only [zad,zac,zaa,zX1,zX2,zX3]
 go_wp2_with (go_at_call 218;refine MAd.mono ?_;rintro e w' ⟨rfl,rfl⟩)
 refine zab ⟨⟨⟨_,hbd⟩,rfl⟩,?_⟩
 refine zao [10] 1 rfl (by kernel_rfl) ?_
 simp only [zad,zac,zaa,zX1,zX2,zX3]
 repeat (go_big_quiet_step (fail))
 refine wpQuiet_nil ?_
 refine zau rfl (by kernel_rfl) ?_
 simp only [zad,zac,zaa,zX1,zX2,zX3]
 have Hd:=HH.out.keep hbd
 clear TR MA TRd MAd
 go_wp2
 refine zab ?_
 have d34:=Hd.cell (i:=34) (u:=.map (some V.se.m)) rfl
 have hlk:=zd0 (t:=108) (e:=138) Tryz.underlying108 Hd.r.se (t:Int) hls
 go_wp2_with (with_reducible refine zas 138 ?_)
 have hba:=hB1 wd (.cells #[.chan none,.chan none] 138)
 have k3:=hA1 wd (.cells #[.chan none,.chan none] 138)
 unfold Stp
 refine wpList_store_row rfl 138 _ _ rfl wd.heap.size #[.chan (some ck),.chan none] rfl rfl 138 _ k3 (by kernel_rfl) rfl (by kernel_rfl) ?_
 have k4:=setRow_heap (wd.alloc (.cells #[.chan none,.chan none] 138)) wd.heap.size _ #[.chan (some ck),.chan none] 138 (0,0) k3
 have hb4:Below wd.heap.size wd ((wd.alloc (.cells #[.chan none,.chan none] 138)).setRow wd.heap.size #[.chan (some ck),.chan none]):=below_setRow hba (Nat.le_refl _) _
 have hx4:wd.heap.size<((wd.alloc (.cells #[.chan none,.chan none] 138)).setRow wd.heap.size #[.chan (some ck),.chan none]).heap.size:=lt_of_block k4
 clear k3 hba hlk d34
 go_upto_region 3 with (fail)
 generalize (wd.alloc (.cells #[.chan none,.chan none] 138)).setRow wd.heap.size #[.chan (some ck),.chan none]=w1 at *
 have hyw:w.heap.size≤wd.heap.size:=hbd.size
 generalize hy9:wd.heap.size=yb at *
 clear hy9
 have hyb:=hyw
 have hq0:=zfh
 have U0:=fun e W=>zbk true e 0 rfl W
 have hbz:=hbd.trans (hb4.mono hyw)
 obtain ⟨e0,e1⟩:_∧_:=zaz k4
 have x0:=fun y:Xt w1=>y.cell e1
 refine zak [15] (fun w'=>∃ y:Xt w1,w'=y.1) (by kernel_rfl) ⟨⟨w1.drew,(Below.refl _ _).drew⟩,rfl⟩ ?_
 refine zao [0,1,2,3,4,5,7,9,10,11] 6 rfl (by kernel_rfl) ?_
 simp only [zad,zac,zaa,zX1,zX2,zX3]
 repeat (go_big_quiet_step (fail))
 refine wpQuiet_nil ?_
 have hbe:Below w1.heap.size w1 w1.drew:=(Below.refl _ _).drew
 show wpE _ _ _ _ _ _ _ _ _ w1.drew
 generalize w1.drew=we at *
 clear x0 e0 e1 hq0
 refine zan (i:=6) rfl (by kernel_rfl) rfl ?_
 unfold zar
 simp only [zad,zac,zaa,zX1,zX2,zX3]
 go_wp2_with (go_at_call 48;refine (U0 _ _).mono ?_;rintro e w' ⟨rfl,rfl⟩)
 refine zab ⟨⟨⟨_,hbe⟩,rfl⟩,?_⟩
 refine zan (i:=8) rfl (by kernel_rfl) rfl ?_
 unfold zar
 simp only [zad,zac,zaa,zX1,zX2,zX3]
 go_wp2_with (go_at_call 48;refine (U0 _ _).mono ?_;rintro e w' ⟨rfl,rfl⟩)
 refine zab ⟨⟨⟨_,hbe⟩,rfl⟩,?_⟩
 refine zan (i:=12) rfl (by kernel_rfl) rfl ?_
 unfold zar
 simp only [zad,zac,zaa,zX1,zX2,zX3]
 go_wp2_with (go_at_call 48;refine (U0 _ _).mono ?_;rintro e w' ⟨rfl,rfl⟩)
 refine zab ⟨⟨⟨_,hbe⟩,rfl⟩,?_⟩
 refine zan (i:=13) rfl (by kernel_rfl) rfl ?_
 unfold zar
 simp only [zad,zac,zaa,zX1,zX2,zX3]
 go_wp2
 refine zab ⟨⟨⟨_,hbe.alloc hbe.size _⟩,rfl⟩,?_⟩
 refine zan (i:=14) rfl (by kernel_rfl) rfl ?_
 unfold zar
 simp only [zad,zac,zaa,zX1,zX2,zX3]
 go_wp2_with (go_at_call 47;refine (zf2 _ 0 0 0).mono ?_;rintro e w' ⟨rfl,rfl⟩)
 refine zab ⟨⟨⟨_,hbe.alloc hbe.size _⟩,rfl⟩,?_⟩
 refine zau rfl (by kernel_rfl) ?_
 simp only [zad,zac,zaa,zX1,zX2,zX3]
 have hbf:=hbe.alloc hbe.size (.cells #[.int .i64 0,.int .i64 0,.int .i64 0] 60)
 have hbz2:=hbz.trans (hbf.mono hbz.size)
 have H3:=HH.out.keep hbz2
 have k5:=zes hbf k4
 clear hbe hbf k4 Hd hb4 hx4
 generalize we.alloc (.cells #[.int .i64 0,.int .i64 0,.int .i64 0] 60)=w3 at *
 go_wp2
 refine zab ?_
 go_upto_region 6 with (fail)
 obtain ⟨e0,e1⟩:_∧_:=zaz k5
 have d33:=H3.cell (i:=33) (u:=V.ms.s.v) rfl
 simp only [SlV.v] at d33
 have x0:=fun y:Xt w3=>y.cell e0
 have x1:=fun y:Xt w3=>y.cell d33
 refine zak [9] (fun w'=>∃ y:Xt w3,w'=y.1) (by kernel_rfl) ⟨⟨w3.drew,(Below.refl _ _).drew⟩,rfl⟩ ?_
 refine zao [0,1,2,3,4,5,6] 3 rfl (by kernel_rfl) ?_
 simp only [zad,zac,zaa,zX1,zX2,zX3]
 repeat (go_big_quiet_step (fail))
 refine wpQuiet_nil ?_
 have hbg:Below w3.heap.size w3 w3.drew:=(Below.refl _ _).drew
 show wpE _ _ _ _ _ _ _ _ _ w3.drew
 generalize w3.drew=wg at *
 have hbz3:=hbz2.trans (hbg.mono hbz2.size)
 have H4:=HH.out.keep hbz3
 have k6:=zes hbg k5
 have IM:=zhu V.ms.s.A V.ms.s.n V.ms.s.c wg.heap.size V.ms.chs k ck HSE.out.2.2.1 HSE.out.2.2.2 wg H4.ms.1 (by rw [← H4.ms.1];omega) (za7 H4.ms.2)
 clear x0 x1 e0 e1 d33
 refine zan (i:=7) rfl (by kernel_rfl) rfl ?_
 unfold zar
 simp only [zad,zac,zaa,zX1,zX2,zX3]
 go_wp2_with (go_at_call 49;refine IM.mono ?_;rintro e w' ⟨rfl,rfl⟩)
 refine zab ⟨⟨⟨_,hbg⟩,rfl⟩,?_⟩
 refine zao [8] 1 rfl (by kernel_rfl) ?_
 simp only [zad,zac,zaa,zX1,zX2,zX3]
 repeat (go_big_quiet_step (fail))
 refine wpQuiet_nil ?_
 refine zau rfl (by kernel_rfl) ?_
 simp only [zad,zac,zaa,zX1,zX2,zX3]
 clear IM H3 k5 hbz2
 go_wp2
 refine zab ?_
 have qa:((i:Int) - (k:Int)=1)∨(¬ ((i:Int) - (k:Int)=1)∧(i:Int) - (k:Int)=-1):=by omega
 rcases qa with q1 | ⟨q1,q2⟩
 all_goals
  go_upto_region 9 with (fail)
  obtain ⟨ub,uo,hA,hin,zm⟩:=ms_at H4 HSE.out.2.1
  obtain ⟨e0,e1⟩:_∧_:=zaz k6
  have d33:=H4.cell (i:=33) (u:=V.ms.s.v) rfl
  simp only [SlV.v,hA] at d33
  have f1:=frozen_of_row wg yb 1 _ _ k6
  have hsf:(store (⟨yb,1,none⟩:Addr) (.chan (some ci))).run Tryz.prog wg=.ok () (wg.setCell ⟨yb,1,none⟩ (.chan (some ci))):=by
   rw [run_store _ _ _ _ _ rfl,e1,f1]
   rfl
  clear hA
  go_upto_region 10 with (fail)
  have HSC:=Lib.hid (setCell_eq_setRow wg yb 1 _ 138 (0,0) (.chan (some ci)) k6)
  rw [HSC.out]
  have hse0:(#[.chan (some ck),.chan none]:Array Value).setIfInBounds 1 (.chan (some ci))=#[.chan (some ck),.chan (some ci)]:=rfl
  rw [hse0]
  clear HSC hse0 e0 e1 d33 f1 zm hsf
  have hyx:=hyb
  have hbu:Below w.heap.size w (wg.setRow yb #[.chan (some ck),.chan (some ci)]):=below_setRow hbz3 hyx _
  have k7:=setRow_heap wg yb _ #[.chan (some ck),.chan (some ci)] 138 (0,0) k6
  have H5:=HH.out.keep hbu
  clear H4 k6 hbz3
  generalize wg.setRow yb #[.chan (some ck),.chan (some ci)]=w4 at *
  obtain ⟨e0,e1⟩:_∧_:=zaz k7
  have d34:=H5.cell (i:=34) (u:=.map (some V.se.m)) rfl
  have x0:=fun y:Xt w4=>y.cell e0
  have x1:=fun y:Xt w4=>y.cell e1
  have x2:=fun y:Xt w4=>y.cell d34
  refine zak [6] (fun w'=>∃ y:Xt w4,w'=y.1) (by kernel_rfl) ⟨⟨w4.drew,(Below.refl _ _).drew⟩,rfl⟩ ?_
  refine zao [0,1,2,3,4,5] 1 rfl (by kernel_rfl) ?_
  simp only [zad,zac,zaa,zX1,zX2,zX3]
  repeat (go_big_quiet_step (fail))
  refine wpQuiet_nil ?_
  have hbv:Below w4.heap.size w4 w4.drew:=(Below.refl _ _).drew
  show wpE _ _ _ _ _ _ _ _ _ w4.drew
  generalize w4.drew=wv at *
  clear x0 x1 x2 d34 e0 e1
  have H9:=H5.keep hbv
  have hse:=H9.r.se
  rw [HSE.out.1,zlk,HSE.out.2.2.1] at hse
  have hmu:=zkl wv V.se.m V.se.c born (t:Int) (.agg #[.chan (some ck),.chan (some ci)]) _ hse
  have HBV:=Lib.hid (hbu.trans (hbv.mono hbu.size))
  have HM9:=Lib.hid (H9.sesd #[⟨.int .i64 (t:Int),.agg #[.chan (some ck),.chan (some ci)],born⟩] V.se.c)
  have HK9:=Lib.hid ((K64.below HBV.out).trans (K64.mapAt hse (es:=#[⟨.int .i64 (t:Int),.agg #[.chan (some ck),.chan (some ci)],born⟩]) (c:=V.se.c)))
  have HBW:=Lib.hid (zcr (HBV.out.mono hxw) H9.r.ne.2.2.1 #[⟨.int .i64 (t:Int),.agg #[.chan (some ck),.chan (some ci)],born⟩] V.se.c)
  clear H9 H5 hse hbu
  refine zau rfl (by kernel_rfl) ?_
  simp only [zad,zac,zaa,zX1,zX2,zX3]
  go_wp2
  refine zab ?_
  go_wp2
  go_ret
  refine ⟨rfl,?_,HBW.out,HK9.out⟩
  rw [zlk,HSE.out.2.2.1];simp only [Option.bind_some];rw [HSE.out.2.1]
  exact HM9.out
theorem drop_last (w:World) (x b:Nat) (V:BookV) (h:BkAt w x b V) (hS:HouseS V.h) (hxw:x≤w.heap.size) (A:Option Addr) (c B:Nat) (s:ByteArray) (hr:Rd w B A (strCells [s])) (t:Nat) (ht:zh9 V.h.plant.trains s=(t:Nat)) (k:Nat) (hs:zht V t (some (k,none))) (hk:k<V.ms.chs.length):Calls Tryz.prog 165 #[.pointer (some ⟨b,0,none⟩),.slice A 1 c] w (zih w x b { V with se:=⟨V.se.m,#[],V.se.c⟩ }):=by
 have hls:=zfk V t k none hs
 obtain ⟨⟨born,he⟩,hnd,hlen⟩:=hs
 obtain ⟨ck,hck⟩:∃ ck,V.ms.chs[k]?=some ck:=⟨_,List.getElem?_eq_getElem hk⟩
 rw [hck] at hls
 simp only [Option.bind_none] at hls
 have HSE:=Lib.hid (And.intro he hck)
 clear he hnd hlen hck hk
 have TR:=fun W (hW:Below w.heap.size w W)=>zc3 W x b V (h.keep hW) hS s
 rw [ht] at TR
 obtain ⟨sb,so,rfl,hsb,z0⟩:=hr.at_ (k:=0) (u:=.string s) rfl
 rw [Nat.add_zero] at z0
 have HH:=Lib.hid h
 have ht0:(0:Int)≤(t:Int):=Int.natCast_nonneg _
 clear hr h ht
 go_enter Tryz.func165,Tryz.ntmps165
 have hbd:Below w.heap.size w w:=Below.refl _ _
 have TRd:=TR w hbd
 go_upto_region 2 with (go_at_call 46;refine TRd.mono ?_;rintro e w' ⟨rfl,rfl⟩)
 have Hd:=HH.out
 clear TR TRd z0
 have d34:=Hd.cell (i:=34) (u:=.map (some V.se.m)) rfl
 have hlk:=zd0 (t:=108) (e:=138) Tryz.underlying108 Hd.r.se (t:Int) hls
 go_wp2_with (with_reducible refine zas 138 ?_)
 have hba:=hB1 w (.cells #[.chan none,.chan none] 138)
 have k3:=hA1 w (.cells #[.chan none,.chan none] 138)
 unfold Stp
 refine wpList_store_row rfl 138 _ _ rfl w.heap.size #[.chan (some ck),.chan none] rfl rfl 138 _ k3 (by kernel_rfl) rfl (by kernel_rfl) ?_
 have k4:=setRow_heap (w.alloc (.cells #[.chan none,.chan none] 138)) w.heap.size _ #[.chan (some ck),.chan none] 138 (0,0) k3
 have hb4:Below w.heap.size w ((w.alloc (.cells #[.chan none,.chan none] 138)).setRow w.heap.size #[.chan (some ck),.chan none]):=below_setRow hba (Nat.le_refl _) _
 have hx4:w.heap.size<((w.alloc (.cells #[.chan none,.chan none] 138)).setRow w.heap.size #[.chan (some ck),.chan none]).heap.size:=lt_of_block k4
 clear k3 hba hlk d34
 go_upto_region 3 with (fail)
 generalize (w.alloc (.cells #[.chan none,.chan none] 138)).setRow w.heap.size #[.chan (some ck),.chan none]=w1 at *
 have U0:=fun e W=>zbk true e 0 rfl W
 have hbz:=hb4
 go_upto_region 6 with (first | (go_at_call 48;refine (U0 _ _).mono ?_;rintro e w' ⟨rfl,rfl⟩) | (go_at_call 47;refine (zde _ 0 0).mono ?_;rintro e w' ⟨rfl,rfl⟩))
 have hbn:=hbz.alloc hbz.size (.cells #[.int .i64 0,.int .i64 0] 60)
 have hbl:=hB1 w1 (.cells #[.int .i64 0,.int .i64 0] 60)
 have H2:=HH.out.keep hbn
 have k5:=zes hbl k4
 clear hbz hb4 hx4 k4 Hd hls hbl
 generalize w1.alloc (.cells #[.int .i64 0,.int .i64 0] 60)=w2 at *
 obtain ⟨e0,e1⟩:_∧_:=zaz k5
 have d34:=H2.cell (i:=34) (u:=.map (some V.se.m)) rfl
 have hse:=H2.r.se
 rw [HSE.out.1,zlk,HSE.out.2] at hse
 have hmu:=run_mapDel w2 V.se.m V.se.c born
 have hmd:=fun ty=>hmu ty (t:Int) _ hse
 have hq0:=zfh
 have HM9:=Lib.hid (H2.sesd #[] V.se.c)
 have HK9:=Lib.hid ((K64.below hbn).trans (K64.mapAt hse (es:=#[]) (c:=V.se.c)))
 have HBW:=Lib.hid (zcr (hbn.mono hxw) H2.r.ne.2.2.1 #[] V.se.c)
 clear H2 hbn hse hmu
 go_wp2
 go_ret
 exact ⟨rfl,HM9.out,HBW.out,HK9.out⟩
theorem drop_hand (w:World) (x b:Nat) (V:BookV) (h:BkAt w x b V) (hS:HouseS V.h) (hxw:x≤w.heap.size) (A:Option Addr) (c B:Nat) (s:ByteArray) (hr:Rd w B A (strCells [s])) (t:Nat) (ht:zh9 V.h.plant.trains s=(t:Nat)) (k:Nat) (i:Nat) (hi:i<V.ms.chs.length) (hs:zht V t (some (k,(some i)))) (hk:k<V.ms.chs.length):Calls Tryz.prog 165 #[.pointer (some ⟨b,0,none⟩),.slice A 1 c] w (zih w x b { V with se:=⟨V.se.m,zlk V.ms.chs t (V.se.es[0]!.born) (some (i,none)),V.se.c⟩ }):=by
 have hls:=zfk V t k (some i) hs
 obtain ⟨⟨born,he⟩,hnd,hlen⟩:=hs
 obtain ⟨ck,hck⟩:∃ ck,V.ms.chs[k]?=some ck:=⟨_,List.getElem?_eq_getElem hk⟩
 obtain ⟨ci,hci⟩:∃ ci,V.ms.chs[i]?=some ci:=⟨_,List.getElem?_eq_getElem hi⟩
 rw [hck] at hls
 simp only [Option.bind_some,hci] at hls
 have hb0:V.se.es[0]!.born=born:=by rw [he];rfl
 rw [hb0]
 have HSE:=Lib.hid (And.intro he (And.intro hck hci))
 clear he hnd hlen hck hk hi hci hb0
 have TR:=fun W (hW:Below w.heap.size w W)=>zc3 W x b V (h.keep hW) hS s
 rw [ht] at TR
 obtain ⟨sb,so,rfl,hsb,z0⟩:=hr.at_ (k:=0) (u:=.string s) rfl
 rw [Nat.add_zero] at z0
 have HH:=Lib.hid h
 have ht0:(0:Int)≤(t:Int):=Int.natCast_nonneg _
 clear hr h ht
 go_enter Tryz.func165,Tryz.ntmps165
 have hbd:Below w.heap.size w w:=Below.refl _ _
 have TRd:=TR w hbd
 go_upto_region 2 with (go_at_call 46;refine TRd.mono ?_;rintro e w' ⟨rfl,rfl⟩)
 have Hd:=HH.out
 clear TR TRd z0
 have d34:=Hd.cell (i:=34) (u:=.map (some V.se.m)) rfl
 have hlk:=zd0 (t:=108) (e:=138) Tryz.underlying108 Hd.r.se (t:Int) hls
 go_wp2_with (with_reducible refine zas 138 ?_)
 have hba:=hB1 w (.cells #[.chan none,.chan none] 138)
 have k3:=hA1 w (.cells #[.chan none,.chan none] 138)
 unfold Stp
 refine wpList_store_row rfl 138 _ _ rfl w.heap.size #[.chan (some ck),.chan (some ci)] rfl rfl 138 _ k3 (by kernel_rfl) rfl (by kernel_rfl) ?_
 have k4:=setRow_heap (w.alloc (.cells #[.chan none,.chan none] 138)) w.heap.size _ #[.chan (some ck),.chan (some ci)] 138 (0,0) k3
 have hb4:Below w.heap.size w ((w.alloc (.cells #[.chan none,.chan none] 138)).setRow w.heap.size #[.chan (some ck),.chan (some ci)]):=below_setRow hba (Nat.le_refl _) _
 have hx4:w.heap.size<((w.alloc (.cells #[.chan none,.chan none] 138)).setRow w.heap.size #[.chan (some ck),.chan (some ci)]).heap.size:=lt_of_block k4
 clear k3 hba hlk d34
 go_upto_region 3 with (fail)
 generalize (w.alloc (.cells #[.chan none,.chan none] 138)).setRow w.heap.size #[.chan (some ck),.chan (some ci)]=w1 at *
 have U0:=fun e W=>zbk true e 0 rfl W
 have hbz:=hb4
 go_upto_region 6 with (first | (go_at_call 48;refine (U0 _ _).mono ?_;rintro e w' ⟨rfl,rfl⟩) | (go_at_call 47;refine (zde _ 0 0).mono ?_;rintro e w' ⟨rfl,rfl⟩))
 have hbn:=hbz.alloc hbz.size (.cells #[.int .i64 0,.int .i64 0] 60)
 have hbl:=hB1 w1 (.cells #[.int .i64 0,.int .i64 0] 60)
 have H2:=HH.out.keep hbn
 have k5:=zes hbl k4
 clear hbz hb4 hx4 k4 Hd hls hbl
 generalize w1.alloc (.cells #[.int .i64 0,.int .i64 0] 60)=w2 at *
 obtain ⟨e0,e1⟩:_∧_:=zaz k5
 have d34:=H2.cell (i:=34) (u:=.map (some V.se.m)) rfl
 have hq0:=run_eql_some ci
 go_upto_region 8 with (fail)
 clear hq0
 have x0:=fun y:Xt w2=>y.cell e1
 have x1:=fun y:Xt w2=>y.cell d34
 refine zak [8] (fun w'=>∃ y:Xt w2,w'=y.1) (by kernel_rfl) ⟨⟨w2.drew,(Below.refl _ _).drew⟩,rfl⟩ ?_
 refine zao [0,1,2,3,4,5,6] 2 rfl (by kernel_rfl) ?_
 simp only [zad,zac,zaa,zX1,zX2,zX3]
 repeat (go_big_quiet_step (fail))
 refine wpQuiet_nil ?_
 have hbv:Below w2.heap.size w2 w2.drew:=(Below.refl _ _).drew
 show wpE _ _ _ _ _ _ _ _ _ w2.drew
 generalize w2.drew=wv at *
 clear x0 x1 d34 e0 e1
 have H9:=H2.keep hbv
 have hse:=H9.r.se
 rw [HSE.out.1,zlk,HSE.out.2.1] at hse
 have hmu:=zkl wv V.se.m V.se.c born (t:Int) (.agg #[.chan (some ci),.chan none]) _ hse
 have HBV:=Lib.hid (hbn.trans (hbv.mono hbn.size))
 have HM9:=Lib.hid (H9.sesd #[⟨.int .i64 (t:Int),.agg #[.chan (some ci),.chan none],born⟩] V.se.c)
 have HK9:=Lib.hid ((K64.below HBV.out).trans (K64.mapAt hse (es:=#[⟨.int .i64 (t:Int),.agg #[.chan (some ci),.chan none],born⟩]) (c:=V.se.c)))
 have HBW:=Lib.hid (zcr (HBV.out.mono hxw) H9.r.ne.2.2.1 #[⟨.int .i64 (t:Int),.agg #[.chan (some ci),.chan none],born⟩] V.se.c)
 clear H9 H2 hse hbn
 refine zan (i:=7) rfl (by kernel_rfl) rfl ?_
 unfold zar
 simp only [zad,zac,zaa,zX1,zX2,zX3]
 go_wp2
 refine zab ⟨⟨⟨_,hbv⟩,rfl⟩,?_⟩
 refine zau rfl (by kernel_rfl) ?_
 simp only [zad,zac,zaa,zX1,zX2,zX3]
 go_wp2
 refine zab ?_
 go_wp2
 go_ret
 refine ⟨rfl,?_,HBW.out,HK9.out⟩
 rw [zlk,HSE.out.2.2];simp only [Option.bind_none]
 exact HM9.out
theorem run_neq_chan (c:Nat) (W:World):Sem.run Tryz.prog (binOp BinOp.neq 136 (.chan (some c)) (.chan none)) W=.ok (.bool true) W:=by kernel_rfl
theorem zll (W:World):Sem.run Tryz.prog (binOp BinOp.neq 136 (.chan none) (.chan none)) W=.ok (.bool false) W:=by kernel_rfl
theorem zhz (a b:Option Nat) (W:World):Sem.run Tryz.prog (Instr.index 142 (.agg #[.chan a,.chan b]) (.int .i64 0)) W=.ok (.chan a) W∧Sem.run Tryz.prog (Instr.index 142 (.agg #[.chan a,.chan b]) (.int .i64 1)) W=.ok (.chan b) W:=⟨by kernel_rfl,by kernel_rfl⟩
theorem zej {l:List ByteArray} {i:Nat} {s:ByteArray} (h:l[i]?=some s):(strCells l)[i]?=some (.string s):=by simp [strCells,h]
theorem strs_snoc (l:List ByteArray) (s:ByteArray):strCells (l++[s])=strCells l++[.string s]:=by simp [strCells]
def zd4 (masts:List ByteArray) (l:List (Option Nat)):List ByteArray:=l.filterMap fun o=>o.bind fun i=>masts[i]?
def MsRel (x:Nat) (masts:List ByteArray) (L:List (Option Nat)) (w1:World) (u10 u40:Value) (wr:World):Prop:=∃ (k:Nat) (A:Option Addr) (n c:Nat),k≤2∧u40=.int .i64 k∧u10=.slice A n c∧(zd4 masts (L.take k)).length=n∧n≤k∧wr.ownsRow x 9 1 (.slice A n c) n (strCells (zd4 masts (L.take k)))∧Below x w1 wr
def MsPost (w:World) (l:List ByteArray) (e:Ending) (w':World):Prop:=∃ (A:Option Addr) (n c:Nat),e=.returned (.tuple #[.slice A n c,.int .i64 0])∧l.length=n∧Rd w' w'.heap.size A (strCells l)∧Below w.heap.size w w'
theorem masts_at (w:World) (x b:Nat) (V:BookV) (h:BkAt w x b V) (hS:HouseS V.h) (s:ByteArray) (t:Nat) (ht:zh9 V.h.plant.trains s=(t:Nat)) (k0:Nat) (nx:Option Nat) (hs:zht V t (some (k0,nx))) (hk0:k0<V.h.masts.length) (hnx:∀ j,nx=some j→j<V.h.masts.length) (hm100:V.h.masts.length≤100) :
 Calls Tryz.prog 24 #[.pointer (some ⟨b,0,none⟩),.string s] w (MsPost w (zd4 V.h.masts [some k0,nx])):=by
 have TR:=zc3 w x b V h hS s
 rw [ht] at TR
 have d34:=h.cell (i:=34) (u:=.map (some V.se.m)) rfl
 have hls:=zfk V t k0 nx hs
 have hlk:=zd0 (t:=108) (e:=138) Tryz.underlying108 h.r.se (t:Int) hls
 have ht0:(0:Int)≤(t:Int):=Int.natCast_nonneg _
 obtain ⟨c0,hc0⟩:∃ c,V.ms.chs[k0]?=some c:=⟨_,List.getElem?_eq_getElem (by rw [hs.2.2];exact hk0)⟩
 rw [hc0] at hlk
 have HS:=Lib.hid hs
 have HNX:=Lib.hid hnx
 obtain ⟨cn,hcn⟩:∃ cn,(nx.bind fun j=>V.ms.chs[j]?)=cn:=⟨_,rfl⟩
 rw [hcn] at hlk
 have HCN:=Lib.hid (And.intro hc0 (And.intro hcn hk0))
 have HH:=Lib.hid h
 clear ht h hS hls hs hnx hc0 hcn hk0
 go_enter Tryz.func24,Tryz.ntmps24
 go_upto_region 2 with (go_at_call 46;refine TR.mono ?_;rintro e w' ⟨rfl,rfl⟩)
 go_wp2_with (with_reducible refine zas 138 ?_)
 have hba:=hB1 w (.cells #[.chan none,.chan none] 138)
 have k3:=hA1 w (.cells #[.chan none,.chan none] 138)
 unfold Stp
 refine wpList_store_row rfl 138 _ _ rfl w.heap.size #[.chan (some c0),.chan cn] rfl rfl 138 _ k3 (by kernel_rfl) rfl (by kernel_rfl) ?_
 have k4:=setRow_heap (w.alloc (.cells #[.chan none,.chan none] 138)) w.heap.size _ #[.chan (some c0),.chan cn] 138 (0,0) k3
 have hb4:Below w.heap.size w ((w.alloc (.cells #[.chan none,.chan none] 138)).setRow w.heap.size #[.chan (some c0),.chan cn]):=below_setRow hba (Nat.le_refl _) _
 clear k3 hba TR hlk d34
 go_upto_region 3 with (fail)
 generalize (w.alloc (.cells #[.chan none,.chan none] 138)).setRow w.heap.size #[.chan (some c0),.chan cn]=w1 at *
 generalize hbw:w.heap.size=bw at *
 have HBW:=Lib.hid hbw
 have U0:=fun e W=>zbk true e 0 rfl W
 have hsz1:=hb4.size
 rw [hbw] at hsz1
 clear hbw
 go_upto_region 6 with (first | (go_at_call 48;refine (U0 _ _).mono ?_;rintro e w' ⟨rfl,rfl⟩) | (go_at_call 47;refine (zde _ 0 0).mono ?_;rintro e w' ⟨rfl,rfl⟩))
 have hbn:=hb4.alloc hsz1 (.cells #[.int .i64 0,.int .i64 0] 60)
 have hbl:=hB1 w1 (.cells #[.int .i64 0,.int .i64 0] 60)
 have k5:=zes hbl k4
 have HBN:=Lib.hid hbn
 clear hb4 hsz1 k4 hbl U0 hbn
 generalize w1.alloc (.cells #[.int .i64 0,.int .i64 0] 60)=w2 at *
 obtain ⟨e0,e1⟩:_∧_:=zaz k5
 clear k5
 go_upto_region 8 with (fail)
 clear e0 e1
 go_loopw [10,12,40] (fun u10 _ u40 wr=>MsRel bw V.h.masts [some k0,nx] w2 u10 u40 wr) (fun _ _ u40 _=>2 - (intOf u40).toNat)
 case atStart=>exact ⟨0,none,0,0,by decide,rfl,rfl,rfl,by decide,⟨rfl,.inl ⟨rfl,rfl⟩⟩,Below.refl _ _⟩
 case round =>
  obtain ⟨k,A,n,c,hk,rfl,rfl,hn,hnk,hown,hb⟩:=hrel
  have HBR:=Lib.hid (HBN.out.trans hb)
  have HBX:=Lib.hid hb
  clear hb
  by_cases hlt:k<2
  · have hlti:(k:Int)<2:=by omega
    obtain ⟨o,ho,hch⟩:∃ o:Option Nat,[some k0,nx][k]?=some o∧∀ W,Sem.run Tryz.prog (Instr.index 142 (.agg #[.chan (some c0),.chan cn]) (.int .i64 (k:Int))) W=.ok (.chan (o.bind fun j=>V.ms.chs[j]?)) W:=by
     rcases k with _ | _ | k
     · exact ⟨some k0,rfl,fun W=>by rw [show ((some k0).bind fun j=>V.ms.chs[j]?)=some c0 from HCN.out.1];exact (zhz _ _ W).1⟩
     · exact ⟨nx,rfl,fun W=>by rw [HCN.out.2.1];exact (zhz _ _ W).2⟩
     · omega
    have htk:[some k0,nx].take (k+1)=[some k0,nx].take k++[o]:=by rw [List.take_add_one,ho];rfl
    have hoL:∀ j,o=some j→j<V.h.masts.length:=fun j hj=>by
     subst hj
     rcases k with _ | _ | k
     · cases ho;exact HCN.out.2.2
     · exact HNX.out j (Option.some.inj ho)
     · omega
    rcases o with _ | i
    · have HNM:Hid (zd4 V.h.masts ([some k0,nx].take (k+1))=zd4 V.h.masts ([some k0,nx].take k)):=by
       rw [Hid,htk];simp [zd4]
      have hq:=zll
      have HOWN:=Lib.hid hown
      have hch0:∀ W,Sem.run Tryz.prog (Instr.index 142 (.agg #[.chan (some c0),.chan cn]) (.int .i64 (k:Int))) W=.ok (.chan none) W:=hch
      clear hch ho htk hoL hown
      go_wp2
      go_roundw
      case rel=>exact ⟨k+1,A,n,c,hlt,by go_num,rfl,by rw [HNM.out];exact hn,by omega,by rw [HNM.out];exact HOWN.out,HBX.out⟩
      case measure=>simp [intOf];omega
    · have hi:=hoL i rfl
      obtain ⟨ci,hci⟩:∃ c,V.ms.chs[i]?=some c:=⟨_,List.getElem?_eq_getElem (by rw [HS.out.2.2];exact hi)⟩
      obtain ⟨nm,hma⟩:∃ nm,V.h.masts[i]?=some nm:=⟨_,List.getElem?_eq_getElem hi⟩
      have HNM:Hid (zd4 V.h.masts ([some k0,nx].take (k+1))=zd4 V.h.masts ([some k0,nx].take k)++[nm]):=by
       rw [Hid,htk]
       unfold zd4
       rw [List.filterMap_append]
       congr 1
       show [some i].filterMap _=_
       simp only [List.filterMap_cons,List.filterMap_nil,Option.bind_some,hma]
      have hch0:∀ W,Sem.run Tryz.prog (Instr.index 142 (.agg #[.chan (some c0),.chan cn]) (.int .i64 (k:Int))) W=.ok (.chan (some ci)) W:=fun W=>by
       have:=hch W
       rw [show ((some i).bind fun j=>V.ms.chs[j]?)=some ci from hci] at this
       exact this
      have hq:=run_neq_chan ci
      have HI:=Lib.hid (And.intro hci hma)
      have HOWN:=Lib.hid hown
      clear hch ho htk hoL hown hci hma
      go_upto_region 11 with (fail)
      clear hch0 hq
      have H3:=HH.out.keep (by rw [HBW.out];exact HBR.out)
      have hbb:b<bw:=by rw [← HBW.out];exact HH.out.lt
      obtain ⟨nb,no,hA2,hnb,zn⟩:=H3.r.house.masts.2.at_ (zej HI.out.2)
      have hin:i<V.h.ms.n:=by rw [← H3.r.house.masts.1];exact hi
      have d6:=H3.house 23 (u:=V.h.ms.v) rfl
      have d33:=H3.cell (i:=33) (u:=V.ms.s.v) rfl
      simp only [SlV.v,hA2] at d6
      simp only [SlV.v] at d33
      have hxb:=H3.xb
      have x0:=fun y:Xb bw wr=>(y.2.cell (p:=⟨b,23,none⟩) hbb).trans d6
      have x1:=fun y:Xb bw wr=>(y.2.cell (p:=⟨b,33,none⟩) hbb).trans d33
      have x2:=fun y:Xb bw wr=>(y.2.cell (p:=⟨nb,no+i,none⟩) (Nat.lt_of_lt_of_le hnb (Nat.le_trans hxb (Nat.le_of_lt hbb)))).trans zn
      have hi9:(i:Int)<(V.h.ms.n:Int):=by omega
      have hszr:bw≤wr.heap.size:=by have:=HBR.out.size;rw [HBW.out] at this;exact this
      clear hA2 hnb zn d6 d33
      refine zak [16] (fun w'=>∃ y:Xb bw wr,w'=y.1) (by kernel_rfl) ⟨⟨wr.drew,(Below.refl _ _).drew⟩,rfl⟩ ?_
      refine zao [0,1,2,3,4,5,6,7,8,9,10] 6 rfl (by kernel_rfl) ?_
      simp only [zad,zac,zaa,zX1,zX2,zX3]
      repeat (go_big_quiet_step (fail))
      refine wpQuiet_nil ?_
      have hbd:Below wr.heap.size wr wr.drew:=(Below.refl _ _).drew
      show wpE _ _ _ _ _ _ _ _ _ wr.drew
      generalize wr.drew=wd at *
      have H4:=H3.keep hbd
      have hE0:Below bw wr wd:=hbd.mono hszr
      have hsd:=hbd.size
      have IM:=zhu V.ms.s.A V.ms.s.n V.ms.s.c wd.heap.size V.ms.chs i ci HI.out.1 HS.out.2.1 wd H4.ms.1 (by rw [← H4.ms.1,HS.out.2.2];omega) (za7 H4.ms.2)
      refine zan (i:=11) rfl (by kernel_rfl) rfl ?_
      unfold zar
      simp only [zad,zac,zaa,zX1,zX2,zX3]
      go_wp2_with (go_at_call 49;refine IM.mono ?_;rintro e w' ⟨rfl,rfl⟩)
      refine zab ⟨⟨⟨_,hE0⟩,rfl⟩,?_⟩
      refine zao [12,13] 3 rfl (by kernel_rfl) ?_
      simp only [zad,zac,zaa,zX1,zX2,zX3]
      repeat (go_big_quiet_step (fail))
      refine wpQuiet_nil ?_
      clear IM H4 x0 x1 x2
      have hba:=hB1 wd (.cells #[.string nm] 9)
      have hE1:Below bw wr (wd.alloc (.cells #[.string nm] 9)):=hE0.alloc (Nat.le_trans hszr hsd) _
      obtain ⟨i1,hi1,hy0,hy1,hy2⟩:=info_parts info9s
      refine zan (i:=14) rfl (by kernel_rfl) rfl ?_
      unfold zar
      simp only [zad,zac,zaa,zX1,zX2,zX3]
      go_wp2
      refine zab ⟨⟨⟨_,hE1⟩,rfl⟩,?_⟩
      refine zan (i:=15) rfl (by kernel_rfl) rfl ?_
      unfold zar
      simp only [zad,zac,zaa,zX1,zX2,zX3]
      have hown1:=zaf (zaf HOWN.out hbd) hba
      refine wpList_append_lies _ rfl _ _ 22 rfl bw 9 i1 _ 1 16 Tryz.underlying22 hi1 hy0 hy1 hy2 rfl (by omega) (.slice A n c) n _ rfl hown1 ⟨wd.heap.size,0,none⟩ 1 1 [.string nm] rfl rfl (zez (by simp)) (by simp [Value.oneCell']) (by omega) (by simp only [maxLen];omega) (by omega) (by simp;omega) _ rfl ?_
      intro gg cap w6 hown6 hgrow6 _ _
      have hE3:Below bw wr w6:=hE1.trans ((Below.refl _ _).grown hgrow6 (by simp;omega) (fun j hj=>(zbi hown1 hj).1))
      have HO:=Lib.hid hown6
      clear hgrow6 hown6 hown1 hba hE1 hE0 hi1 hy0 hy1 hy2
      go_wp2
      refine zab ⟨⟨⟨_,hE3⟩,rfl⟩,?_⟩
      refine zau rfl (by kernel_rfl) ?_
      simp only [zad,zac,zaa,zX1,zX2,zX3]
      have HE3:=Lib.hid (HBX.out.trans hE3)
      have HLN:=Lib.hid hn
      clear hE3 hn
      go_wp2
      refine zab ?_
      go_wp2
      go_roundw
      case rel =>
       have HREL:Hid (MsRel bw V.h.masts [some k0,nx] w2 (.slice (some ⟨gg,0,none⟩) (n+1) cap) (.int .i64 ((k:Int)+1)) w6):=⟨k+1,some ⟨gg,0,none⟩,n+1,cap,hlt,by go_num,rfl,by rw [HNM.out,List.length_append,HLN.out];rfl,by omega,by rw [HNM.out,strs_snoc];exact HO.out,HE3.out⟩
       repeat apply Exists.intro
       exact ⟨HREL.out,rfl⟩
      case measure=>simp [intOf];omega
  · obtain rfl:k=2:=by omega
    have HOWN:=Lib.hid hown
    clear hown
    go_wp2
    go_ret2
    exact ⟨A,n,c,rfl,hn,za7 HOWN.out,by rw [HBW.out];exact HBR.out⟩
theorem actJoin (w:World):Calls Tryz.prog 93 #[.string ⟨#[106,111,105,110]⟩] w (zif w 1 2 false 163):=by
 have hb0:=hB1 w (.cells #[.int .i64 0,.int .i64 0,.bool false,.nilFunc] 217)
 have HB:=Lib.hid hb0
 clear hb0
 go_enter Tryz.func93,Tryz.ntmps93
 go_upto_region 1 with (fail)
 generalize hw0:w.alloc (.cells #[.int .i64 0,.int .i64 0,.bool false,.nilFunc] 217)=w0 at *
 have k0:w0.heap[w.heap.size]?=some (.cells #[.int .i64 0,.int .i64 0,.bool false,.nilFunc] 217 (0,0)):=by rw [← hw0,zae,if_pos rfl]
 clear hw0
 generalize hbw:w.heap.size=bw at *
 have HBW:=Lib.hid hbw
 clear hbw
 go_wp2_with (with_reducible refine zas 217 ?_)
 unfold Stp
 refine wpList_store_row rfl 217 _ _ rfl bw (zbb 1 2 false 163) rfl rfl 217 _ k0 (by kernel_rfl) rfl (by kernel_rfl) ?_
 have kr:=setRow_heap w0 bw _ (zbb 1 2 false 163) 217 (0,0) k0
 have hbr:Below bw w (w0.setRow bw (zbb 1 2 false 163)):=below_setRow HB.out (Nat.le_refl _) _
 generalize w0.setRow bw (zbb 1 2 false 163)=w2 at *
 go_wp2
 have c0:=(cell_of_row w2 bw 0 _ _ _ kr).trans (by rfl:_=some (.int .i64 1))
 have c1:=(cell_of_row w2 bw 1 _ _ _ kr).trans (by rfl:_=some (.int .i64 2))
 have c2:=(cell_of_row w2 bw 2 _ _ _ kr).trans (by rfl:_=some (.bool false))
 have c3:=(cell_of_row w2 bw 3 _ _ _ kr).trans (by rfl:_=some (.func (.func 163) #[] #[]))
 refine bodyPost_ret (v:=.tuple #[.agg (zbb 1 2 false 163),.bool true]) (by simp [results,Tryz.results93,go_sem,c0,c1,c2,c3,zbb]) rfl ⟨rfl,by rw [HBW.out];exact hbr⟩
theorem actHand (w:World):Calls Tryz.prog 93 #[.string ⟨#[104,97,110,100]⟩] w (zif w 1 2 false 164):=by
 have hb0:=hB1 w (.cells #[.int .i64 0,.int .i64 0,.bool false,.nilFunc] 217)
 have HB:=Lib.hid hb0
 clear hb0
 go_enter Tryz.func93,Tryz.ntmps93
 go_upto_region 1 with (fail)
 generalize hw0:w.alloc (.cells #[.int .i64 0,.int .i64 0,.bool false,.nilFunc] 217)=w0 at *
 have k0:w0.heap[w.heap.size]?=some (.cells #[.int .i64 0,.int .i64 0,.bool false,.nilFunc] 217 (0,0)):=by rw [← hw0,zae,if_pos rfl]
 clear hw0
 generalize hbw:w.heap.size=bw at *
 have HBW:=Lib.hid hbw
 clear hbw
 go_wp2_with (with_reducible refine zas 217 ?_)
 unfold Stp
 refine wpList_store_row rfl 217 _ _ rfl bw (zbb 1 2 false 164) rfl rfl 217 _ k0 (by kernel_rfl) rfl (by kernel_rfl) ?_
 have kr:=setRow_heap w0 bw _ (zbb 1 2 false 164) 217 (0,0) k0
 have hbr:Below bw w (w0.setRow bw (zbb 1 2 false 164)):=below_setRow HB.out (Nat.le_refl _) _
 generalize w0.setRow bw (zbb 1 2 false 164)=w2 at *
 go_wp2
 have c0:=(cell_of_row w2 bw 0 _ _ _ kr).trans (by rfl:_=some (.int .i64 1))
 have c1:=(cell_of_row w2 bw 1 _ _ _ kr).trans (by rfl:_=some (.int .i64 2))
 have c2:=(cell_of_row w2 bw 2 _ _ _ kr).trans (by rfl:_=some (.bool false))
 have c3:=(cell_of_row w2 bw 3 _ _ _ kr).trans (by rfl:_=some (.func (.func 164) #[] #[]))
 refine bodyPost_ret (v:=.tuple #[.agg (zbb 1 2 false 164),.bool true]) (by simp [results,Tryz.results93,go_sem,c0,c1,c2,c3,zbb]) rfl ⟨rfl,by rw [HBW.out];exact hbr⟩
theorem actDrop (w:World):Calls Tryz.prog 93 #[.string ⟨#[100,114,111,112]⟩] w (zif w 1 1 false 165):=by
 have hb0:=hB1 w (.cells #[.int .i64 0,.int .i64 0,.bool false,.nilFunc] 217)
 have HB:=Lib.hid hb0
 clear hb0
 go_enter Tryz.func93,Tryz.ntmps93
 go_upto_region 1 with (fail)
 generalize hw0:w.alloc (.cells #[.int .i64 0,.int .i64 0,.bool false,.nilFunc] 217)=w0 at *
 have k0:w0.heap[w.heap.size]?=some (.cells #[.int .i64 0,.int .i64 0,.bool false,.nilFunc] 217 (0,0)):=by rw [← hw0,zae,if_pos rfl]
 clear hw0
 generalize hbw:w.heap.size=bw at *
 have HBW:=Lib.hid hbw
 clear hbw
 go_wp2_with (with_reducible refine zas 217 ?_)
 unfold Stp
 refine wpList_store_row rfl 217 _ _ rfl bw (zbb 1 1 false 165) rfl rfl 217 _ k0 (by kernel_rfl) rfl (by kernel_rfl) ?_
 have kr:=setRow_heap w0 bw _ (zbb 1 1 false 165) 217 (0,0) k0
 have hbr:Below bw w (w0.setRow bw (zbb 1 1 false 165)):=below_setRow HB.out (Nat.le_refl _) _
 generalize w0.setRow bw (zbb 1 1 false 165)=w2 at *
 go_wp2
 have c0:=(cell_of_row w2 bw 0 _ _ _ kr).trans (by rfl:_=some (.int .i64 1))
 have c1:=(cell_of_row w2 bw 1 _ _ _ kr).trans (by rfl:_=some (.int .i64 1))
 have c2:=(cell_of_row w2 bw 2 _ _ _ kr).trans (by rfl:_=some (.bool false))
 have c3:=(cell_of_row w2 bw 3 _ _ _ kr).trans (by rfl:_=some (.func (.func 165) #[] #[]))
 refine bodyPost_ret (v:=.tuple #[.agg (zbb 1 1 false 165),.bool true]) (by simp [results,Tryz.results93,go_sem,c0,c1,c2,c3,zbb]) rfl ⟨rfl,by rw [HBW.out];exact hbr⟩
theorem zgj {α:Type} (p:α→Bool):∀ (l:List α) (k i:Nat) (y:α),l[i]?=some y→p y=true→(∀ (j:Nat) (z:α),j<i→l[j]?=some z→p z=false)→za4 p l k=((k+i:Nat):Int)
 | [],_,_,_,h,_,_=>by simp at h
 | a :: l,k,0,y,h,hy,_=>by
  obtain rfl:a=y:=by simpa using h
  rw [za4,if_pos hy]
  rfl
 | a :: l,k,i+1,y,h,hy,hn=>by
  have h0:=hn 0 a (by omega) rfl
  rw [za4,if_neg (by rw [h0];decide),zgj p l (k+1) i y (by simpa using h) hy (fun j z hj hz=>hn (j+1) z (by omega) (by simpa using hz))]
  congr 1
  omega
theorem who_at {h:HouseV} (R:HouseR h) {p:Nat} {y:Sw} (hp:h.people[p]?=some y):za4 (fun q:Sw=>decide (q.1=y.1)) h.people 0=(p:Int):=by
 rw [zgj _ _ 0 p y hp (by simp) fun j z hj hz=>?_,Nat.zero_add]
 have:¬ z.1=y.1:=fun e=>by
  have:=R.people j p z y hz hp e
  omega
 simpa using this
theorem zho {l:List ByteArray} (h:za2 nmE [] l=0) {i:Nat} {s:ByteArray} (hi:l[i]?=some s):zh9 l s=(i:Nat):=by
 unfold zh9
 rw [zgj _ _ 0 i s hi (by simp) fun j z hj hz=>?_,Nat.zero_add]
 have h1:=(nmE_name (zg7 l [] h i s hi)).2
 rw [List.nil_append] at h1
 have h2:∀ a∈l.take i,(a.toList == s.toList)=false:=fun a ha=>by
  unfold zcu at h1
  exact (List.any_eq_false.1 h1 a ha) |> fun q=>by simpa using q
 have h3:=h2 z (List.mem_of_getElem? (by rw [List.getElem?_take,if_pos hj];exact hz))
 rw [Bool.eq_false_iff] at h3 ⊢
 intro h4
 exact h3 (by simpa using (by simpa using h4:s.toList=z.toList).symm)
theorem zjj {l:List ByteArray} (h:∀ s∈l,za3 s=true):zcu l ⟨#[]⟩=false:=by
 unfold zcu
 refine List.any_eq_false.2 fun a ha=>?_
 have h1:=(zc7 (h a ha)).2.1
 intro h2
 rw [eqT] at h2
 have h3:a=⟨#[]⟩:=by simpa using h2
 subst h3
 exact absurd h1 (by decide)
inductive REv
 | join (m:Nat)
 | hand (m:Nat)
 | drop
abbrev SesS:=Option (Nat × Option Nat)
def REv.step (n:Nat):REv→SesS→Option SesS
 | .join m,none=>if m<n then some (some (m,none)) else none
 | .hand m,some (k,none)=>if m<n∧(m=k+1∨k=m+1) then some (some (k,some m)) else none
 | .drop,some (_,some m)=>some (some (m,none))
 | .drop,some (_,none)=>some none
 | _,_=>none
def zii (n:Nat):SesS→List REv→Option SesS
 | s,[]=>some s
 | s,e :: l=>(e.step n s).bind fun s'=>zii n s' l
def sOk (n:Nat):SesS→Prop
 | none=>True
 | some (k,nx)=>k<n∧∀ m,nx=some m→m<n
theorem sOk_step {n:Nat} {e:REv} {s s':SesS} (h:sOk n s) (hs:e.step n s=some s'):sOk n s':=by
 rcases e with m | m | _ <;> rcases s with _ | ⟨k,_ | j⟩ <;> simp only [REv.step,reduceCtorEq] at hs
 · split at hs
   · next hm =>
     cases hs
     exact ⟨hm,fun _ h=>by cases h⟩
   · cases hs
 · split at hs
   · next hm =>
     cases hs
     exact ⟨h.1,fun j hj=>by cases hj;exact hm.1⟩
   · cases hs
 · cases hs
   trivial
 · cases hs
   exact ⟨h.2 j rfl,fun _ h=>by cases h⟩
def REv.tx (masts:List ByteArray) (tr:ByteArray):REv→ByteArray
 | .join m=>tx3 [106,111,105,110] tr (masts.getD m ⟨#[]⟩)
 | .hand m=>tx3 [104,97,110,100] tr (masts.getD m ⟨#[]⟩)
 | .drop=>tx2 [100,114,111,112] tr
theorem getD_at {l:List ByteArray} {m:Nat} (h:m<l.length):l[m]?=some (l.getD m ⟨#[]⟩):=by
 rw [List.getD_eq_getElem?_getD,List.getElem?_eq_getElem h]
 rfl
def RNext (V:BookV) (by_ tx:ByteArray) (t:Nat) (s':SesS) (V':BookV):Prop:=V'.h=V.h∧V'.log=V.log++[(by_,tx)]∧zht V' t s'
theorem enterR (w:World) (x b:Nat) (V:BookV) (h:BkAt w x b V) (R:HouseR V.h) (hS:HouseS V.h) (hT:∀ W,Below x w W→CtAt W) (hxw:x≤w.heap.size) (hlog:V.log.length≤100) (p:Nat) (y:Sw) (hp:V.h.people[p]?=some y) (hy:1≤y.2) (t:Nat) (tr:ByteArray) (ht:V.h.plant.trains[t]?=some tr) (e:REv) (s s':SesS) (hs:zht V t s) (hok:sOk V.h.masts.length s) (he:e.step V.h.masts.length s=some s') :
 Calls Tryz.prog 53 #[.pointer (some ⟨b,0,none⟩),.agg #[.string y.1,.string (e.tx V.h.masts tr)]] w fun e' w'=>∃ V',RNext V y.1 (e.tx V.h.masts tr) t s' V'∧e'=.returned (.int .i64 0)∧BkAt w' x b V'∧Below x w w':=by
 have hnt:=R.trains tr (List.mem_of_getElem? ht)
 have hit:=zho R.tchk ht
 have hlen:=hs.2.2
 have hnd:=hs.2.1
 have hm100:V.ms.chs.length≤100:=by have:=R.mast1.2;omega
 have fin:∀ (V':BookV),V'.h=V.h→V'.log=V.log→V'.ms=V.ms→(∃ born,V'.se.es=zlk V.ms.chs t born s')→∀ lg,RNext V y.1 (e.tx V.h.masts tr) t s' { V' with lg:=lg,log:=V.log++[(y.1,e.tx V.h.masts tr)] }:=fun V' h1 h2 h3 h4 lg=>⟨h1,rfl,by show (∃ born,V'.se.es=zlk V'.ms.chs t born s')∧V'.ms.chs.Nodup∧V'.ms.chs.length=V'.h.masts.length;rw [h1,h3];exact ⟨h4,hnd,hlen⟩⟩
 rcases e with m | m | _ <;> rcases s with _ | ⟨k,_ | j⟩ <;> simp only [REv.step,reduceCtorEq] at he
 · split at he
   · next hm =>
     cases he
     have hm0:=hm
     have hma:=getD_at hm0
     have hnm:=R.masts _ (List.mem_of_getElem? hma)
     have him:=zho R.mchk hma
     refine (zeg (show EnH 1 2 false 163 w x b V y.1 (tx3 [106,111,105,110] tr (V.h.masts.getD m ⟨#[]⟩)) ⟨#[106,111,105,110]⟩ [tr,V.h.masts.getD m ⟨#[]⟩] 2 p y from ⟨h,hS,hT,hxw,hlog,tx3_odd (by decide) hnt hnm,Nat.le_trans (zlb (by decide) hnt hnm) (by decide),tx3_spl (by decide) hnt hnm,rfl,by decide,by decide,hp,who_at R hp,hy,actJoin,fun _ _=>by kernel_rfl⟩) (fun V'=>V'={ V with se:=⟨V.se.m,zlk V.ms.chs t V.se.c (some (m,none)),V.se.c+1⟩ }) ?hP (zd2 1 163 2 _ rfl (by decide) (zjj (by simp;exact ⟨hnt,hnm⟩))) ?DO).mono ?fin
     case hP=>rintro V' rfl;exact ⟨rfl,rfl⟩
     case DO =>
      intro W A c hB hC hx hr
      refine (join_ok W x b V hB hS hx A c W.heap.size _ _ hr t m hit him hm0 hs).mono ?_
      rintro e w' ⟨he,hB',hb',hk'⟩
      exact ⟨_,rfl,he,hB',hb',hk'⟩
     case fin =>
      rintro e w' ⟨V',A,c,rfl,he,hB,hb⟩
      exact ⟨_,fin { V with se:=⟨V.se.m,zlk V.ms.chs t V.se.c (some (m,none)),V.se.c+1⟩ } rfl rfl rfl ⟨_,rfl⟩ _,he,hB,hb⟩
   · cases he
 · split at he
   · next hm =>
     cases he
     have hm0:=hm.1
     have hma:=getD_at hm0
     have hnm:=R.masts _ (List.mem_of_getElem? hma)
     have him:=zho R.mchk hma
     refine (zeg (show EnH 1 2 false 164 w x b V y.1 (tx3 [104,97,110,100] tr (V.h.masts.getD m ⟨#[]⟩)) ⟨#[104,97,110,100]⟩ [tr,V.h.masts.getD m ⟨#[]⟩] 2 p y from ⟨h,hS,hT,hxw,hlog,tx3_odd (by decide) hnt hnm,Nat.le_trans (zlb (by decide) hnt hnm) (by decide),tx3_spl (by decide) hnt hnm,rfl,by decide,by decide,hp,who_at R hp,hy,actHand,fun _ _=>by kernel_rfl⟩) (fun V'=>V'={ V with se:=⟨V.se.m,zlk V.ms.chs t (V.se.es[0]!.born) (some (k,some m)),V.se.c⟩ }) ?hP (zd2 1 164 2 _ rfl (by decide) (zjj (by simp;exact ⟨hnt,hnm⟩))) ?DO).mono ?fin
     case hP=>rintro V' rfl;exact ⟨rfl,rfl⟩
     case DO =>
      intro W A c hB hC hx hr
      refine (hand_ok W x b V hB hS hx A c W.heap.size _ _ hr t m hit him hm0 k hs (by rw [hlen];exact hok.1) hm100 hm.2).mono ?_
      rintro e w' ⟨he,hB',hb',hk'⟩
      exact ⟨_,rfl,he,hB',hb',hk'⟩
     case fin =>
      rintro e w' ⟨V',A,c,rfl,he,hB,hb⟩
      exact ⟨_,fin { V with se:=⟨V.se.m,zlk V.ms.chs t (V.se.es[0]!.born) (some (k,some m)),V.se.c⟩ } rfl rfl rfl ⟨_,rfl⟩ _,he,hB,hb⟩
   · cases he
 · cases he
   refine (zeg (show EnH 1 1 false 165 w x b V y.1 (tx2 [100,114,111,112] tr) ⟨#[100,114,111,112]⟩ [tr] 1 p y from ⟨h,hS,hT,hxw,hlog,tx2_odd (by decide) hnt,Nat.le_trans (tx2_size (by decide) hnt) (by decide),tx2_spl (by decide) hnt,rfl,by decide,by decide,hp,who_at R hp,hy,actDrop,fun _ _=>by kernel_rfl⟩) (fun V'=>V'={ V with se:=⟨V.se.m,#[],V.se.c⟩ }) ?hP (zd2 1 165 1 _ rfl (by decide) (zjj (by simp;exact hnt))) ?DO).mono ?fin
   case hP=>rintro V' rfl;exact ⟨rfl,rfl⟩
   case DO =>
    intro W A c hB hC hx hr
    refine (drop_last W x b V hB hS hx A c W.heap.size _ hr t hit k hs (by rw [hlen];exact hok.1)).mono ?_
    rintro e w' ⟨he,hB',hb',hk'⟩
    exact ⟨_,rfl,he,hB',hb',hk'⟩
   case fin =>
    rintro e w' ⟨V',A,c,rfl,he,hB,hb⟩
    exact ⟨_,fin { V with se:=⟨V.se.m,#[],V.se.c⟩ } rfl rfl rfl ⟨0,rfl⟩ _,he,hB,hb⟩
 · cases he
   refine (zeg (show EnH 1 1 false 165 w x b V y.1 (tx2 [100,114,111,112] tr) ⟨#[100,114,111,112]⟩ [tr] 1 p y from ⟨h,hS,hT,hxw,hlog,tx2_odd (by decide) hnt,Nat.le_trans (tx2_size (by decide) hnt) (by decide),tx2_spl (by decide) hnt,rfl,by decide,by decide,hp,who_at R hp,hy,actDrop,fun _ _=>by kernel_rfl⟩) (fun V'=>V'={ V with se:=⟨V.se.m,zlk V.ms.chs t (V.se.es[0]!.born) (some (j,none)),V.se.c⟩ }) ?hP (zd2 1 165 1 _ rfl (by decide) (zjj (by simp;exact hnt))) ?DO).mono ?fin
   case hP=>rintro V' rfl;exact ⟨rfl,rfl⟩
   case DO =>
    intro W A c hB hC hx hr
    refine (drop_hand W x b V hB hS hx A c W.heap.size _ hr t hit k j (by rw [hlen];exact hok.2 j rfl) hs (by rw [hlen];exact hok.1)).mono ?_
    rintro e w' ⟨he,hB',hb',hk'⟩
    exact ⟨_,rfl,he,hB',hb',hk'⟩
   case fin =>
    rintro e w' ⟨V',A,c,rfl,he,hB,hb⟩
    exact ⟨_,fin { V with se:=⟨V.se.m,zlk V.ms.chs t (V.se.es[0]!.born) (some (j,none)),V.se.c⟩ } rfl rfl rfl ⟨_,rfl⟩ _,he,hB,hb⟩
theorem enterFar (w:World) (x b:Nat) (V:BookV) (h:BkAt w x b V) (R:HouseR V.h) (hS:HouseS V.h) (hT:∀ W,Below x w W→CtAt W) (hxw:x≤w.heap.size) (hlog:V.log.length≤100) (p:Nat) (y:Sw) (hp:V.h.people[p]?=some y) (hy:1≤y.2) (t:Nat) (tr:ByteArray) (ht:V.h.plant.trains[t]?=some tr) (k m:Nat) (hs:zht V t (some (k,none))) (hk:k<V.h.masts.length) (hm0:m<V.h.masts.length) (hfar:m≠k+1∧k≠m+1) :
 Calls Tryz.prog 53 #[.pointer (some ⟨b,0,none⟩),.agg #[.string y.1,.string ((REv.hand m).tx V.h.masts tr)]] w fun e' w'=>e'=.returned (.int .i64 13)∧BkAt w' x b V∧Below x w w':=by
 have hnt:=R.trains tr (List.mem_of_getElem? ht)
 have hit:=zho R.tchk ht
 have hlen:=hs.2.2
 have hma:=getD_at hm0
 have hnm:=R.masts _ (List.mem_of_getElem? hma)
 have him:=zho R.mchk hma
 exact enter_no (show EnH 1 2 false 164 w x b V y.1 (tx3 [104,97,110,100] tr (V.h.masts.getD m ⟨#[]⟩)) ⟨#[104,97,110,100]⟩ [tr,V.h.masts.getD m ⟨#[]⟩] 2 p y from ⟨h,hS,hT,hxw,hlog,tx3_odd (by decide) hnt hnm,Nat.le_trans (zlb (by decide) hnt hnm) (by decide),tx3_spl (by decide) hnt hnm,rfl,by decide,by decide,hp,who_at R hp,hy,actHand,fun _ _=>by kernel_rfl⟩) 13 (by decide) (zd2 1 164 2 _ rfl (by decide) (zjj (by simp;exact ⟨hnt,hnm⟩))) fun W A c hB hC hx hr=>hand_no W x b V hB hS hx A c W.heap.size _ _ hr t m hit him hm0 k hs (by rw [hlen];exact hk) (by have:=R.mast1.2;omega) hfar
theorem zd3 (n:Nat):∀ (l:List REv) (s:SesS) (e:REv),zii n s (l++[e])=(zii n s l).bind fun s'=>e.step n s'
 | [],s,e=>by
  show (e.step n s).bind (fun s'=>some s')=e.step n s
  cases e.step n s <;> rfl
 | a :: l,s,e=>by
  rw [List.cons_append,zii,zii]
  cases a.step n s with
  | none=>rfl
  | some s'=>exact zd3 n l s' e
theorem rRun_take (n:Nat):∀ (l:List REv) (s s':SesS) (k:Nat),zii n s l=some s'→∃ s'',zii n s (l.take k)=some s''
 | l,s,s',0,_=>⟨s,by simp [zii]⟩
 | [],s,s',k+1,_=>⟨s,by simp [zii]⟩
 | a :: l,s,s',k+1,h=>by
  rw [zii] at h
  rw [List.take_succ_cons,zii]
  cases hc:a.step n s with
  | none=>rw [hc] at h;cases h
  | some s1 =>
   rw [hc] at h
   exact rRun_take n l s1 s' k h
theorem rRun_ok (n:Nat):∀ (l:List REv) (s s':SesS),sOk n s→zii n s l=some s'→sOk n s'
 | [],s,s',h,e=>by
  obtain rfl:=Option.some.inj e
  exact h
 | a :: l,s,s',h,e=>by
  rw [zii] at e
  cases hc:a.step n s with
  | none=>rw [hc] at e;cases e
  | some s1 =>
   rw [hc] at e
   exact rRun_ok n l s1 s' (sOk_step h hc) e
def zf8 (h:HouseV) (by_ tr:ByteArray) (evs:List REv):List EnV:=evs.map fun e=>(by_,e.tx h.masts tr)
structure RSt (h:HouseV) (by_ tr:ByteArray) (t:Nat) (evs:List REv) (k:Nat) (V:BookV):Prop where
 hv:V.h=h
 log:V.log=zf8 h by_ tr (evs.take k)
 ses:∃ s,zii h.masts.length none (evs.take k)=some s∧zht V t s
theorem RSt.begun {h:HouseV} {by_ tr:ByteArray} {t:Nat} {evs:List REv} {V:BookV} (b:Begun h V) (hm:h.ms.n=h.masts.length):RSt h by_ tr t evs 0 V:=
 ⟨b.h,b.log,none,rfl,⟨0,b.se.1⟩,b.ms.2,by rw [b.ms.1,b.h,hm]⟩
theorem stepR (h:HouseV) (hE:zcg h=(0,0,0)) (hS:HouseS h) (p:Nat) (y:Sw) (hp:h.people[p]?=some y) (hy:1≤y.2) (t:Nat) (tr:ByteArray) (ht:h.plant.trains[t]?=some tr) (evs:List REv) (sF:SesS) (hv:zii h.masts.length none evs=some sF) (hl:evs.length≤60):StepH (zf8 h y.1 tr evs) evs.length (RSt h y.1 tr t evs) CtAt:=by
 intro w x b k V z hk hz hV hB hT hxw
 obtain ⟨e,he⟩:∃ e,evs[k]?=some e:=⟨_,List.getElem?_eq_getElem hk⟩
 have hze:z=(y.1,e.tx h.masts tr):=by
  unfold zf8 at hz
  rw [List.getElem?_map,he] at hz
  exact (Option.some.inj hz).symm
 subst hze
 obtain ⟨s,hs,hsa⟩:=hV.ses
 have hVh:=hV.hv
 have htk:evs.take (k+1)=evs.take k++[e]:=by rw [List.take_add_one,he];rfl
 obtain ⟨s',hs'⟩:=rRun_take _ evs none sF (k+1) hv
 have hst:e.step h.masts.length s=some s':=by
  rw [htk,zd3,hs] at hs'
  exact hs'
 have hlog:V.log.length≤100:=by
  rw [hV.log]
  unfold zf8
  rw [List.length_map,List.length_take]
  omega
 subst hVh
 refine (enterR w x b V hB (houseR hE) hS hT hxw hlog p y hp hy t tr ht e s s' hsa (rRun_ok _ _ none s trivial hs) hst).mono ?_
 rintro e' w' ⟨V',⟨h1,h2,h3⟩,he',hB',hb'⟩
 refine ⟨V',⟨h1,?_,s',by rw [hs'],h3⟩,he',hB',hb'⟩
 rw [h2,hV.log,htk]
 unfold zf8
 rw [List.map_append]
 rfl
theorem open_R (w:World) (h:HouseV) (hE:zcg h=(0,0,0)) (hS:HouseS h) (p:Nat) (y:Sw) (hp:h.people[p]?=some y) (hy:1≤y.2) (t:Nat) (tr:ByteArray) (ht:h.plant.trains[t]?=some tr) (evs:List REv) (sF:SesS) (hv:zii h.masts.length none evs=some sF) (hl:evs.length≤60) (A:Option Addr) (c:Nat) (hH:HouseAt w w.heap.size h) (hr:Rd w w.heap.size A (zbe (zf8 h y.1 tr evs))) (hT:CtAt w) :
 Calls Tryz.prog 31 #[.agg (zah h).toArray,.slice A evs.length c] w (zf5 w (RSt h y.1 tr t evs evs.length)):=
 open_any w h (zf8 h y.1 tr evs) evs.length (by unfold zf8;rw [List.length_map]) (by omega) (RSt h y.1 tr t evs) hE hS (houseR hE).plant A c hH hr hT (fun V b=>RSt.begun b hH.masts.1.symm) (stepR h hE hS p y hp hy t tr ht evs sF hv hl)
theorem RSt.at_end {h:HouseV} {by_ tr:ByteArray} {t:Nat} {evs:List REv} {V:BookV} {sF:SesS} (r:RSt h by_ tr t evs evs.length V) (hv:zii h.masts.length none evs=some sF):zht V t sF:=by
 obtain ⟨s,hs,hsa⟩:=r.ses
 rw [List.take_of_length_le (Nat.le_refl _),hv] at hs
 obtain rfl:=Option.some.inj hs
 exact hsa
def MaP (masts:List ByteArray) (s:SesS) (v:Value) (E:Int) (w':World):Prop:=
 (s=none→v=.slice none 0 0∧E=12)∧∀ k nx,s=some (k,nx)→E=0∧∃ (A:Option Addr) (n c:Nat),v=.slice A n c∧(zd4 masts [some k,nx]).length=n∧Rd w' w'.heap.size A (strCells (zd4 masts [some k,nx]))
theorem mastsR (W:World) (x b:Nat) (V:BookV) (h:HouseV) (hE:zcg h=(0,0,0)) (hS:HouseS h) (by_ tr:ByteArray) (t:Nat) (ht:h.plant.trains[t]?=some tr) (evs:List REv) (sF:SesS) (hv:zii h.masts.length none evs=some sF) (hV:RSt h by_ tr t evs evs.length V) (hB:BkAt W x b V):Calls Tryz.prog 24 #[.pointer (some ⟨b,0,none⟩),.string tr] W (AskP (MaP h.masts sF) W):=by
 have R:=houseR hE
 have hsa:=hV.at_end hv
 have hok:=rRun_ok _ evs none sF trivial hv
 have hVh:=hV.hv
 subst hVh
 have hit:=zho R.tchk ht
 match sF,hsa,hok with
 | none,hsa,_ =>
  refine (masts_K W x b V hB hS tr (t:Nat) hit (Int.natCast_nonneg _) (look_none V t hsa)).mono ?_
  rintro e w' ⟨he,hb⟩
  exact ⟨_,_,he,⟨fun _=>⟨rfl,rfl⟩,fun k nx h=>by cases h⟩,hb⟩
 | some (k,nx),hsa,hok =>
  refine (masts_at W x b V hB hS tr t hit k nx hsa hok.1 hok.2 (by have:=R.mast1.2;omega)).mono ?_
  rintro e w' ⟨A,n,c,he,hn,hr,hb⟩
  exact ⟨_,_,he,⟨fun h=>(by cases h),fun k' nx' h=>(by cases h;exact ⟨rfl,A,n,c,rfl,hn,hr⟩)⟩,hb⟩
end Go.Proofs.YtoodbfkbbchjiaaGreatDoor
