import Derived.Test.YtfdmeojcopkaoaaGreatDoorf3B11
set_option maxRecDepth 100000
set_option maxHeartbeats 16000000
namespace Go.Proofs.YtfdmeojcopkaoaaGreatDoor
open Go.RowKit
theorem enterLock (w:World) (x b:Nat) (V:BookV) (P:BookV→Prop) (by_ tx wd:ByteArray) (rest:List ByteArray) (nr:Nat) (h:BkAt w x b V) (hS:HouseS V.h) (hT:∀ W,Below x w W→CtAt W) (hxw:x≤w.heap.size) (hlog:V.log.length≤100) (hP:∀ V',P V'→V'.lg=V.lg∧V'.log=V.log)
 (ho:oddB tx=false) (hz:tx.size≤80) (hsp:zkk tx=wd :: rest) (hnr:rest.length=nr) (hr0:0<nr) (hr1:nr≤100) (k:Nat) (y:Sw) (hy:V.h.people[k]?=some y) (hw:za0 (fun p:Sw=>decide (p.1=by_)) V.h.people 0=(k:Int)) (hro:1≤y.2) (AC:∀ W,Calls Tryz.prog 148 #[.string wd] W (zgy W 1 0 true 176)) (hk:0<nr) (hne:zcy (rest.take 0) ⟨#[]⟩=false)
 (DO:∀ (W:World) (A:Option Addr) (c:Nat),BkAt W x b V→CtAt W→x≤W.heap.size→Rd W W.heap.size A (strCells (rest.take 0++[ba (Lib.join ((rest.drop 0).map (·.data.toList)) [32])]))→Calls Tryz.prog 176 #[.pointer (some ⟨b,0,none⟩),.slice A (0+1) c] W (fun e w'=>∃ V',P V'∧e=.returned (.int .i64 0)∧BkAt w' x b V'∧Below x W w'∧K64 W w')) :
 Calls Tryz.prog 113 #[.pointer (some ⟨b,0,none⟩),.agg #[.string by_,.string tx]] w fun e w'=>∃ V' A c,P V'∧e=.returned (.int .i64 0)∧BkAt w' x b { V' with lg:=⟨A,V.lg.n+1,c⟩,log:=V.log++[(by_,tx)] }∧Below x w w':=by
 have hb0:=hB1 w (.cells #[.string by_,.string tx] 64)
 have k0:=hA1 w (.cells #[.string by_,.string tx] 64)
 have hs0:=hS1 w (.cells #[.string by_,.string tx] 64)
 have HH:=Lib.hid h
 have H0:=h.keep hb0
 have HB:=Lib.hid (hb0.mono hxw)
 have HTT:=Lib.hid hT
 have HKW:=Lib.hid hk
 have hog:∀ g',V.lg.v.ownBlock=some g'→g'<w.heap.size:=fun g' hg=>(zbf h.log.2 hg).2.1
 clear hb0 h hT hk
 go_enter Tryz.func113,Tryz.ntmps113
 go_upto_region 1 with (fail)
 generalize w.alloc (.cells #[.string by_,.string tx] 64)=w0 at *
 generalize hbw:w.heap.size=bw at *
 have HBW:=Lib.hid hbw
 clear hbw
 have IX:=zd2 V.h.pp.A V.h.pp.n V.h.pp.c x V.h.people (fun p:Sw=>decide (p.1=by_)) bw w0 (by have:=H0.r.house.people.1;have:=hS.people.1;omega) H0.r.house.people.1 H0.r.house.people.2 (by omega)
  (fun W z hb _=>zeh z by_ tx bw W (zcd hb k0))
 rw [hw] at IX
 unfold zax at IX
 have d24:=H0.house 24 (u:=V.h.pp.v) rfl
 simp only [SlV.v] at d24
 go_upto_region 2 with (go_at_call 90;refine IX.mono ?_;rintro e w1 ⟨rfl,hb1⟩)
 have H1:=H0.keep hb1
 have k1:=zcd hb1 k0
 have hbx1:=HB.out.trans (hb1.mono (show x≤w0.heap.size by omega))
 have hx1:x≤w1.heap.size:=by have:=hb1.size;omega
 obtain ⟨e0,e1⟩:_∧_:=zay k1
 have OD:=zif tx w1
 rw [ho] at OD
 clear IX d24 H0 hb1
 go_upto_region 3 with (go_at_call 146;refine OD.mono ?_;rintro e w2 ⟨rfl,hb2⟩)
 have H2:=H1.keep hb2
 have k2:=zcd hb2 k1
 have hbx2:=hbx1.trans (hb2.mono hx1)
 have hx2:x≤w2.heap.size:=Nat.le_trans hx1 hb2.size
 obtain ⟨f0,f1⟩:_∧_:=zay k2
 have SP:=zev tx (by omega) w2 (HTT.out w2 hbx2).txt
 rw [hsp] at SP
 rw [List.length_cons,hnr] at SP
 clear OD H1 k1 hb2 e0 e1
 go_upto_region 4 with (go_at_call 115;refine SP.mono ?_;rintro e w3 ⟨bb,rfl,hbB,hrd,hb3⟩)
 have H3:=H2.keep hb3
 have k3:=zcd hb3 k2
 have hbx3:=hbx2.trans (hb3.mono hx2)
 have hx3:x≤w3.heap.size:=Nat.le_trans hx2 hb3.size
 have z0:=zbz hrd (k:=0) (u:=.string wd) rfl
 rw [Nat.zero_add] at z0
 have HRT:=Lib.hid (zfh hrd)
 have AC3:=AC w3
 clear SP H2 k2 hb3 f0 f1 AC hrd k0
 go_wp2_with (first | (go_at_call 148;refine AC3.mono ?_;rintro e w4 ⟨rfl,hb4⟩) | (with_reducible refine zat 237 ?_))
 have hba:=hB1 w4 (.cells #[.int .i64 0,.int .i64 0,.bool false,.nilFunc] 237)
 have k5:=hA1 w4 (.cells #[.int .i64 0,.int .i64 0,.bool false,.nilFunc] 237)
 unfold Stp
 refine wpList_store_row rfl 237 _ _ rfl w4.heap.size (zbd 1 0 true 176) rfl rfl 237 _ k5 (by kernel_rfl) rfl (by kernel_rfl) ?_
 have ka:=setRow_heap _ w4.heap.size _ (zbd 1 0 true 176) 237 (0,0) k5
 have hb45:Below w3.heap.size w3 ((w4.alloc (.cells #[.int .i64 0,.int .i64 0,.bool false,.nilFunc] 237)).setRow w4.heap.size (zbd 1 0 true 176)):=below_setRow (hb4.trans (hba.mono hb4.size)) hb4.size _
 have hys:w4.heap.size<((w4.alloc (.cells #[.int .i64 0,.int .i64 0,.bool false,.nilFunc] 237)).setRow w4.heap.size (zbd 1 0 true 176)).heap.size:=lt_of_block ka
 clear AC3 k5 hba
 generalize (w4.alloc (.cells #[.int .i64 0,.int .i64 0,.bool false,.nilFunc] 237)).setRow w4.heap.size (zbd 1 0 true 176)=w5 at *
 generalize w4.heap.size=ya at *
 have H5:=H3.keep hb45
 have kb:=zcd hb45 k3
 have hbx5:=hbx3.trans (hb45.mono hx3)
 have hx5:x≤w5.heap.size:=Nat.le_trans hx3 hb45.size
 have HR5:=Lib.hid ((HRT.out.keep hb45).mono hb45.size)
 clear H3 k3 hb45 hb4 z0 HRT
 have hkpos:(0:Int)≤(k:Int):=Int.natCast_nonneg k
 have htz:((tx.size:Nat):Int)≤80:=by omega
 have U0:=fun e W=>zbq true e 0 rfl W
 obtain ⟨e0,e1⟩:_∧_:=zay kb
 go_upto_region 5 with (fail)
 have x1:=fun y:Xt w5=>y.cell e1
 refine zaj [15] (fun w'=>∃ y:Xt w5,w'=y.1) (by kernel_rfl) ⟨⟨w5.drew,(Below.refl _ _).drew⟩,rfl⟩ ?_
 refine zao [0,1,3,4,5,6,8,9,11] 7 rfl (by kernel_rfl) ?_
 simp only [zad,zac,zaa,zX1,zX2,zX3]
 repeat (go_big_quiet_step (fail))
 refine wpQuiet_nil ?_
 have hbd:Below w5.heap.size w5 w5.drew:=(Below.refl _ _).drew
 show wpE _ _ _ _ _ _ _ _ _ w5.drew
 generalize w5.drew=wd at *
 clear x1
 refine zak (i:=2) rfl (by kernel_rfl) rfl ?_
 unfold zap
 simp only [zad,zac,zaa,zX1,zX2,zX3]
 go_wp2_with (go_at_call 23;refine (U0 _ _).mono ?_;rintro e w' ⟨rfl,rfl⟩)
 refine zab ⟨⟨⟨_,hbd⟩,rfl⟩,?_⟩
 refine zak (i:=7) rfl (by kernel_rfl) rfl ?_
 unfold zap
 simp only [zad,zac,zaa,zX1,zX2,zX3]
 go_wp2_with (go_at_call 23;refine (U0 _ _).mono ?_;rintro e w' ⟨rfl,rfl⟩)
 refine zab ⟨⟨⟨_,hbd⟩,rfl⟩,?_⟩
 refine zak (i:=10) rfl (by kernel_rfl) rfl ?_
 unfold zap
 simp only [zad,zac,zaa,zX1,zX2,zX3]
 go_wp2_with (go_at_call 23;refine (U0 _ _).mono ?_;rintro e w' ⟨rfl,rfl⟩)
 refine zab ⟨⟨⟨_,hbd⟩,rfl⟩,?_⟩
 refine zak (i:=12) rfl (by kernel_rfl) rfl ?_
 unfold zap
 simp only [zad,zac,zaa,zX1,zX2,zX3]
 go_wp2_with (go_at_call 23;refine (U0 _ _).mono ?_;rintro e w' ⟨rfl,rfl⟩)
 refine zab ⟨⟨⟨_,hbd⟩,rfl⟩,?_⟩
 refine zak (i:=13) rfl (by kernel_rfl) rfl ?_
 unfold zap
 simp only [zad,zac,zaa,zX1,zX2,zX3]
 go_wp2
 have hbn:=hB1 wd (.cells #[.int .i64 0,.int .i64 0,.int .i64 0,.int .i64 0] 50)
 have kq:=hA1 wd (.cells #[.int .i64 0,.int .i64 0,.int .i64 0,.int .i64 0] 50)
 have hbe:=hbd.trans (hbn.mono hbd.size)
 refine zab ⟨⟨⟨_,hbe⟩,rfl⟩,?_⟩
 refine zak (i:=14) rfl (by kernel_rfl) rfl ?_
 unfold zap
 simp only [zad,zac,zaa,zX1,zX2,zX3]
 go_wp2_with (go_at_call 22;refine (zgq _ 0 0 0 0).mono ?_;rintro e w' ⟨rfl,rfl⟩)
 refine zab ⟨⟨⟨_,hbe⟩,rfl⟩,?_⟩
 refine zau rfl (by kernel_rfl) ?_
 simp only [zad,zac,zaa,zX1,zX2,zX3]
 have H6:=H5.keep hbe
 have k6:=zcd hbe kb
 have k6a:=zcd hbe ka
 have hbx6:=hbx5.trans (hbe.mono hx5)
 have hx6:x≤(wd.alloc (.cells #[.int .i64 0,.int .i64 0,.int .i64 0,.int .i64 0] 50)).heap.size:=Nat.le_trans hx5 hbe.size
 have HR6:=Lib.hid ((HR5.out.keep hbe).mono hbe.size)
 clear H5 kb ka hbe hbn kq hbd e0 e1 HR5 htz
 generalize wd.alloc (.cells #[.int .i64 0,.int .i64 0,.int .i64 0,.int .i64 0] 50)=w6 at *
 go_wp2
 refine zab ?_
 obtain ⟨c0,c1,c2,c3⟩:_∧_∧_∧_:=za9 (W:=w6) (r:=ya) (t:=237) (a0:=.int .i64 1) (a1:=.int .i64 0) (a2:=.bool true) (a3:=.func (.func 176) #[] #[]) k6a
 have HR7:=HR6.out
 rw [Nat.zero_add] at HR7
 go_upto_region 8 with (fail)
 have x0:=fun y:Xt w6=>y.cell c0
 have x1:=fun y:Xt w6=>y.cell c1
 have x2:=fun y:Xt w6=>y.cell c2
 have x3:=fun y:Xt w6=>y.cell c3
 refine zaj [8] (fun w'=>∃ y:Xt w6,w'=y.1) (by kernel_rfl) ⟨⟨w6.drew,(Below.refl _ _).drew⟩,rfl⟩ ?_
 refine zao [0,1] 7 rfl (by kernel_rfl) ?_
 simp only [zad,zac,zaa,zX1,zX2,zX3]
 repeat (go_big_quiet_step (fail))
 refine wpQuiet_nil ?_
 have hb7:Below w6.heap.size w6 w6.drew:=(Below.refl _ _).drew
 show wpE _ _ _ _ _ _ _ _ _ w6.drew
 generalize w6.drew=w7 at *
 clear x0 x1 x2 x3 c0 c1 c2 c3
 refine zak (i:=2) rfl (by kernel_rfl) rfl ?_
 unfold zap
 simp only [zad,zac,zaa,zX1,zX2,zX3]
 go_wp2
 refine zab ⟨⟨⟨_,hb7⟩,rfl⟩,?_⟩
 have RDX:=zfe 1 0 176 bb 1 nr nr rest w7 hnr (by omega) HKW.out (Nat.le_refl _) hne (fun s hs=>Nat.le_trans (zgb tx s (by rw [hsp];exact List.mem_cons_of_mem _ hs)) (by omega)) ((HR7.keep hb7).mono hb7.size)
 change Calls Tryz.prog 149 #[.agg #[.int .i64 1,.int .i64 0,.bool true,.func (.func 176) #[] #[]],.slice (some ⟨bb,1,none⟩) nr nr] w7 _ at RDX
 refine zak (i:=3) rfl (by kernel_rfl) rfl ?_
 unfold zap
 simp only [zad,zac,zaa,zX1,zX2,zX3]
 go_wp2_with (go_at_call 149;refine RDX.mono ?_;rintro e w8 ⟨A8,c8,rfl,ho8,hb8⟩)
 have hbf:=hb7.trans (hb8.mono hb7.size)
 refine zab ⟨⟨⟨_,hbf⟩,rfl⟩,?_⟩
 have HW8:=Lib.hid (zbe ho8)
 clear ho8
 refine zao [4,5,6,7] 1 rfl (by kernel_rfl) ?_
 simp only [zad,zac,zaa,zX1,zX2,zX3]
 repeat (go_big_quiet_step (fail))
 refine wpQuiet_nil ?_
 refine zau rfl (by kernel_rfl) ?_
 simp only [zad,zac,zaa,zX1,zX2,zX3]
 have H8:=H6.keep hbf
 have k8:=zcd hbf k6
 have k8a:=zcd hbf k6a
 have hbx8:=hbx6.trans (hbf.mono hx6)
 have hx8:x≤w8.heap.size:=Nat.le_trans hx6 hbf.size
 clear H6 k6 k6a hbf hb8 hb7 RDX HR7 HR6 hbx6
 go_wp2
 refine zab ?_
 obtain ⟨c0,c1,c2,c3⟩:_∧_∧_∧_:=za9 (W:=w8) (r:=ya) (t:=237) (a0:=.int .i64 1) (a1:=.int .i64 0) (a2:=.bool true) (a3:=.func (.func 176) #[] #[]) k8a
 obtain ⟨pb,po,hpA,hpb,p0,p1⟩:=Rd.sw H8.r.house.people.2 hy
 have d24:=H8.house 24 (u:=V.h.pp.v) rfl
 simp only [SlV.v,hpA] at d24
 have hkn:k<V.h.pp.n:=by rw [← H8.r.house.people.1];exact (List.getElem?_eq_some_iff.1 hy).1
 have hpn9:V.h.pp.n≤1000:=by rw [← H8.r.house.people.1];exact hS.people.1
 generalize V.h.pp.n=pn at *
 go_upto_region 9 with (fail)
 have x0:=fun y:Xt w8=>y.cell c0
 have x1:=fun y:Xt w8=>y.cell d24
 have x2:=fun y:Xt w8=>y.cell p1
 refine zaj [17] (fun w'=>∃ y:Xt w8,w'=y.1) (by kernel_rfl) ⟨⟨w8.drew,(Below.refl _ _).drew⟩,rfl⟩ ?_
 refine zao [0,1,2,3,4,5,6,7,8,9,10,11,13] 5 rfl (by kernel_rfl) ?_
 simp only [zad,zac,zaa,zX1,zX2,zX3]
 repeat (go_big_quiet_step (fail))
 refine wpQuiet_nil ?_
 have hb9:Below w8.heap.size w8 w8.drew:=(Below.refl _ _).drew
 show wpE _ _ _ _ _ _ _ _ _ w8.drew
 generalize w8.drew=w9 at *
 clear x0 x1 x2 d24 p0 p1 c0 c1 c2 c3
 refine zak (i:=12) rfl (by kernel_rfl) rfl ?_
 unfold zap
 simp only [zad,zac,zaa,zX1,zX2,zX3]
 go_wp2_with (go_at_call 23;refine (U0 _ _).mono ?_;rintro e w' ⟨rfl,rfl⟩)
 refine zab ⟨⟨⟨_,hb9⟩,rfl⟩,?_⟩
 refine zak (i:=14) rfl (by kernel_rfl) rfl ?_
 unfold zap
 simp only [zad,zac,zaa,zX1,zX2,zX3]
 go_wp2_with (go_at_call 23;refine (U0 _ _).mono ?_;rintro e w' ⟨rfl,rfl⟩)
 refine zab ⟨⟨⟨_,hb9⟩,rfl⟩,?_⟩
 refine zak (i:=15) rfl (by kernel_rfl) rfl ?_
 unfold zap
 simp only [zad,zac,zaa,zX1,zX2,zX3]
 go_wp2
 have hbn:=hB1 w9 (.cells #[.int .i64 0,.int .i64 0] 50)
 have kq:=hA1 w9 (.cells #[.int .i64 0,.int .i64 0] 50)
 have hbg:=hb9.trans (hbn.mono hb9.size)
 refine zab ⟨⟨⟨_,hbg⟩,rfl⟩,?_⟩
 refine zak (i:=16) rfl (by kernel_rfl) rfl ?_
 unfold zap
 simp only [zad,zac,zaa,zX1,zX2,zX3]
 go_wp2_with (go_at_call 22;refine (zdd _ 0 0).mono ?_;rintro e w' ⟨rfl,rfl⟩)
 refine zab ⟨⟨⟨_,hbg⟩,rfl⟩,?_⟩
 refine zau rfl (by kernel_rfl) ?_
 simp only [zad,zac,zaa,zX1,zX2,zX3]
 have HA:=H8.keep hbg
 have kA:=zcd hbg k8
 have kAa:=zcd hbg k8a
 have hbxA:=hbx8.trans (hbg.mono hx8)
 have hxA:x≤(w9.alloc (.cells #[.int .i64 0,.int .i64 0] 50)).heap.size:=Nat.le_trans hx8 hbg.size
 have HWA:=(HW8.out.keep hbg).mono hbg.size
 have hsA:=hbg.size
 have hkA:=lt_of_block kA
 clear H8 k8 k8a hbg hbn kq hb9 hpA HW8 hbx8
 generalize w9.alloc (.cells #[.int .i64 0,.int .i64 0] 50)=wA at *
 obtain ⟨_,_,_,c3⟩:_∧_∧_∧_:=za9 (W:=wA) (r:=ya) (t:=237) (a0:=.int .i64 1) (a1:=.int .i64 0) (a2:=.bool true) (a3:=.func (.func 176) #[] #[]) kAa
 have DOA:=DO wA A8 c8 HA (HTT.out wA hbxA) hxA HWA
 clear DO
 go_wp2
 refine zab ?_
 have hxb:=HA.xb
 have HA1:=Lib.hid HA
 clear HA HWA
 go_upto_region 13 with (go_at_call 176;refine DOA.mono ?_;rintro e wB ⟨V9,hP9,rfl,hB9,hb9,hK9⟩)
 have hbxB:=hbxA.trans hb9
 have hxB:=hb9.size
 have kE:wB.heap[bw]?=some (.cells #[.string by_,.string tx] 64 (0,0)):=hK9 bw _ kA
 have hlg:=hB9.log
 obtain ⟨hL1,hL2⟩:=hP V9 hP9
 rw [hL1,hL2] at hlg
 obtain ⟨i1,hi1,hy0,hy1,hy2⟩:=info_parts zkz
 obtain ⟨e0,e1⟩:_∧_:=zay kE
 have d25:=hB9.cell (i:=25) (u:=V9.lg.v) rfl
 rw [hL1] at d25
 simp only [SlV.v] at d25
 have HP9:=Lib.hid hP9
 have hbwB:=lt_of_block kE
 have hlb:=hB9.lt
 have hxb9:=hB9.xb
 have hln9:V.lg.n≤100:=by rw [← hlg.1];exact hlog
 have HL12:=Lib.hid (And.intro hL1 hL2)
 clear hP9 hb9 DOA hK9 hL1 hL2
 go_upto_region 15 with (fail)
 have x1:=fun q:Xk2 x b bw wB=>(zbw q.2.2.1).trans d25
 have x2:=fun q:Xk2 x b bw wB=>(zbw q.2.2.2).trans e0
 have x3:=fun q:Xk2 x b bw wB=>(zbw q.2.2.2).trans e1
 refine zaj [8,9,10] (fun w'=>∃ y:Xk2 x b bw wB,w'=y.1) (by kernel_rfl) ⟨⟨wB.drew,⟨(Below.refl _ _).drew,rfl,rfl⟩⟩,rfl⟩ ?_
 refine zao [0,1,2,3,4,5] 5 rfl (by kernel_rfl) ?_
 simp only [zad,zac,zaa,zX1,zX2,zX3]
 repeat (go_big_quiet_step (fail))
 refine wpQuiet_nil ?_
 have hbC:Below wB.heap.size wB wB.drew:=(Below.refl _ _).drew
 show wpE _ _ _ _ _ _ _ _ _ wB.drew
 generalize wB.drew=wC at *
 clear x1 x2 x3 d25 e0 e1
 have hBC:=hB9.keep hbC
 have hxC:=hbC.size
 have hxxB:x≤wB.heap.size:=Nat.le_trans hxb9 (Nat.le_of_lt hlb)
 have hE0:Below x wB wC∧wC.heap[b]?=wB.heap[b]?∧wC.heap[bw]?=wB.heap[bw]?:=⟨hbC.mono hxxB,hbC.block b hlb,hbC.block bw hbwB⟩
 have hba:=hB1 wC (.cells #[.string by_,.string tx] 64)
 have hE1:Below x wB (wC.alloc (.cells #[.string by_,.string tx] 64))∧(wC.alloc (.cells #[.string by_,.string tx] 64)).heap[b]?=wB.heap[b]?∧(wC.alloc (.cells #[.string by_,.string tx] 64)).heap[bw]?=wB.heap[bw]?:=⟨hE0.1.alloc (by omega) _,by rw [zae,if_neg (by omega)];exact hE0.2.1,by rw [zae,if_neg (by omega)];exact hE0.2.2⟩
 refine zak (i:=6) rfl (by kernel_rfl) rfl ?_
 unfold zap
 simp only [zad,zac,zaa,zX1,zX2,zX3]
 go_wp2
 refine zab ⟨⟨⟨_,hE1⟩,rfl⟩,?_⟩
 refine zak (i:=7) rfl (by kernel_rfl) rfl ?_
 unfold zap
 simp only [zad,zac,zaa,zX1,zX2,zX3]
 have hown1:=zag (zag hlg.2 hbC) hba
 refine wpList_append_lies _ rfl _ _ 59 rfl x 64 i1 _ 2 32 Tryz.underlying59 hi1 hy0 hy1 hy2 rfl (by omega) (.slice V.lg.A V.lg.n V.lg.c) V.lg.n _ rfl hown1 ⟨wC.heap.size,0,none⟩ 1 1 [.string by_,.string tx] rfl rfl (zen (f:=(0,0)) (t:=64) (by rw [zae,if_pos rfl])) (by simp [Value.oneCell']) (by omega) (by simp only [maxLen];omega) (by omega) (by simp;omega) _ rfl ?_
 intro gg cap wD hown6 hgrow6 _ _
 have hBD:=hBC.keep hba
 have hblD:wD.heap[b]?=some (.cells (za3 V9).toArray 141 (0,0)):=zct hown1 hgrow6 hBD.blk (fun cur e=>by cases e)
 have hbxD:Below x (wC.alloc (.cells #[.string by_,.string tx] 64)) wD:=(Below.refl _ _).grown hgrow6 (by simp;omega) (fun j hj=>(zbf hown1 hj).1)
 have hRD:BkR wD x V9:=hBD.r.but hbxD (fun k' o hko ho=>zct hown1 hgrow6 hko (fun cur e=>by
  rcases ho with ⟨m9,c9,h9⟩ | ⟨cs,t9,ht9,h9⟩
  · rw [h9] at e;cases e
  · rw [h9] at e
    cases e
    rcases ht9 with h8 | h8 <;> cases h8))
 have hbwD:wD.heap[bw]?=(wC.alloc (.cells #[.string by_,.string tx] 64)).heap[bw]?:=hgrow6.block bw (by simp;omega) (fun he=>Nat.lt_irrefl bw (hog bw he.symm))
 have hE3:Below x wB wD∧wD.heap[b]?=wB.heap[b]?∧wD.heap[bw]?=wB.heap[bw]?:=⟨hE1.1.trans hbxD,hblD.trans hB9.blk.symm,hbwD.trans hE1.2.2⟩
 clear hgrow6 hbxD hbwD hBD hE0 hE1 hba hown1 hBC
 go_wp2
 refine zab ⟨⟨⟨_,hE3⟩,rfl⟩,?_⟩
 refine zau rfl (by kernel_rfl) ?_
 simp only [zad,zac,zaa,zX1,zX2,zX3]
 have hBe:BkAt wD x b V9→True:=fun _=>trivial
 have f25:=frozen_of_row wD b 25 _ _ hblD
 have c25:=(cell_of_row wD b 25 _ _ _ hblD).trans (by rfl:_=some V9.lg.v)
 rw [HL12.out.1] at c25
 simp only [SlV.v] at c25
 have HS9:Hid (wD.setCell ⟨b,25,none⟩ (.slice (some ⟨gg,0,none⟩) (V.lg.n+1) cap)=wD.setRow b (za3 { V9 with lg:=⟨some ⟨gg,0,none⟩,V.lg.n+1,cap⟩,log:=V.log++[(by_,tx)] }).toArray):=(setCell_eq_setRow wD b 25 _ 141 (0,0) _ hblD).trans (congrArg (wD.setRow b) rfl)
 have HB8:=Lib.hid (bk_log hblD hxb9 hRD ⟨some ⟨gg,0,none⟩,V.lg.n+1,cap⟩ (V.log++[(by_,tx)]) (by rw [List.length_append,hlg.1];rfl) (by rw [zd9];exact hown6))
 have HBL:=Lib.hid (below_setRow (hbxB.trans hE3.1) hxb9 (za3 { V9 with lg:=⟨some ⟨gg,0,none⟩,V.lg.n+1,cap⟩,log:=V.log++[(by_,tx)] }).toArray)
 clear hblD hRD hown6 hE3 hB9 hlg
 go_wp2
 refine zab ?_
 go_wp2
 go_ret
 exact ⟨V9,some ⟨gg,0,none⟩,cap,HP9.out,rfl,by rw [HS9.out];exact HB8.out,by rw [HS9.out];exact HBL.out⟩
theorem enterWorks (w:World) (x b:Nat) (V:BookV) (P:BookV→Prop) (by_ tx wd:ByteArray) (rest:List ByteArray) (nr:Nat) (h:BkAt w x b V) (hS:HouseS V.h) (hT:∀ W,Below x w W→CtAt W) (hxw:x≤w.heap.size) (hlog:V.log.length≤100) (hP:∀ V',P V'→V'.lg=V.lg∧V'.log=V.log)
 (ho:oddB tx=false) (hz:tx.size≤80) (hsp:zkk tx=wd :: rest) (hnr:rest.length=nr) (hr0:0<nr) (hr1:nr≤100) (k:Nat) (y:Sw) (hy:V.h.people[k]?=some y) (hw:za0 (fun p:Sw=>decide (p.1=by_)) V.h.people 0=(k:Int)) (hro:2≤y.2) (AC:∀ W,Calls Tryz.prog 148 #[.string wd] W (zgy W 2 1 false 183)) (hk:(1:Int)=nr) (hne:zcy rest ⟨#[]⟩=false)
 (DO:∀ (W:World) (A:Option Addr) (c:Nat),BkAt W x b V→CtAt W→x≤W.heap.size→Rd W W.heap.size A (strCells rest)→Calls Tryz.prog 183 #[.pointer (some ⟨b,0,none⟩),.slice A (nr) c] W (fun e w'=>∃ V',P V'∧e=.returned (.int .i64 0)∧BkAt w' x b V'∧Below x W w'∧K64 W w')) :
 Calls Tryz.prog 113 #[.pointer (some ⟨b,0,none⟩),.agg #[.string by_,.string tx]] w fun e w'=>∃ V' A c,P V'∧e=.returned (.int .i64 0)∧BkAt w' x b { V' with lg:=⟨A,V.lg.n+1,c⟩,log:=V.log++[(by_,tx)] }∧Below x w w':=by
 have hb0:=hB1 w (.cells #[.string by_,.string tx] 64)
 have k0:=hA1 w (.cells #[.string by_,.string tx] 64)
 have hs0:=hS1 w (.cells #[.string by_,.string tx] 64)
 have HH:=Lib.hid h
 have H0:=h.keep hb0
 have HB:=Lib.hid (hb0.mono hxw)
 have HTT:=Lib.hid hT
 have HKW:=Lib.hid hk
 have hog:∀ g',V.lg.v.ownBlock=some g'→g'<w.heap.size:=fun g' hg=>(zbf h.log.2 hg).2.1
 clear hb0 h hT hk
 go_enter Tryz.func113,Tryz.ntmps113
 go_upto_region 1 with (fail)
 generalize w.alloc (.cells #[.string by_,.string tx] 64)=w0 at *
 generalize hbw:w.heap.size=bw at *
 have HBW:=Lib.hid hbw
 clear hbw
 have IX:=zd2 V.h.pp.A V.h.pp.n V.h.pp.c x V.h.people (fun p:Sw=>decide (p.1=by_)) bw w0 (by have:=H0.r.house.people.1;have:=hS.people.1;omega) H0.r.house.people.1 H0.r.house.people.2 (by omega)
  (fun W z hb _=>zeh z by_ tx bw W (zcd hb k0))
 rw [hw] at IX
 unfold zax at IX
 have d24:=H0.house 24 (u:=V.h.pp.v) rfl
 simp only [SlV.v] at d24
 go_upto_region 2 with (go_at_call 90;refine IX.mono ?_;rintro e w1 ⟨rfl,hb1⟩)
 have H1:=H0.keep hb1
 have k1:=zcd hb1 k0
 have hbx1:=HB.out.trans (hb1.mono (show x≤w0.heap.size by omega))
 have hx1:x≤w1.heap.size:=by have:=hb1.size;omega
 obtain ⟨e0,e1⟩:_∧_:=zay k1
 have OD:=zif tx w1
 rw [ho] at OD
 clear IX d24 H0 hb1
 go_upto_region 3 with (go_at_call 146;refine OD.mono ?_;rintro e w2 ⟨rfl,hb2⟩)
 have H2:=H1.keep hb2
 have k2:=zcd hb2 k1
 have hbx2:=hbx1.trans (hb2.mono hx1)
 have hx2:x≤w2.heap.size:=Nat.le_trans hx1 hb2.size
 obtain ⟨f0,f1⟩:_∧_:=zay k2
 have SP:=zev tx (by omega) w2 (HTT.out w2 hbx2).txt
 rw [hsp] at SP
 rw [List.length_cons,hnr] at SP
 clear OD H1 k1 hb2 e0 e1
 go_upto_region 4 with (go_at_call 115;refine SP.mono ?_;rintro e w3 ⟨bb,rfl,hbB,hrd,hb3⟩)
 have H3:=H2.keep hb3
 have k3:=zcd hb3 k2
 have hbx3:=hbx2.trans (hb3.mono hx2)
 have hx3:x≤w3.heap.size:=Nat.le_trans hx2 hb3.size
 have z0:=zbz hrd (k:=0) (u:=.string wd) rfl
 rw [Nat.zero_add] at z0
 have HRT:=Lib.hid (zfh hrd)
 have AC3:=AC w3
 clear SP H2 k2 hb3 f0 f1 AC hrd k0
 go_wp2_with (first | (go_at_call 148;refine AC3.mono ?_;rintro e w4 ⟨rfl,hb4⟩) | (with_reducible refine zat 237 ?_))
 have hba:=hB1 w4 (.cells #[.int .i64 0,.int .i64 0,.bool false,.nilFunc] 237)
 have k5:=hA1 w4 (.cells #[.int .i64 0,.int .i64 0,.bool false,.nilFunc] 237)
 unfold Stp
 refine wpList_store_row rfl 237 _ _ rfl w4.heap.size (zbd 2 1 false 183) rfl rfl 237 _ k5 (by kernel_rfl) rfl (by kernel_rfl) ?_
 have ka:=setRow_heap _ w4.heap.size _ (zbd 2 1 false 183) 237 (0,0) k5
 have hb45:Below w3.heap.size w3 ((w4.alloc (.cells #[.int .i64 0,.int .i64 0,.bool false,.nilFunc] 237)).setRow w4.heap.size (zbd 2 1 false 183)):=below_setRow (hb4.trans (hba.mono hb4.size)) hb4.size _
 have hys:w4.heap.size<((w4.alloc (.cells #[.int .i64 0,.int .i64 0,.bool false,.nilFunc] 237)).setRow w4.heap.size (zbd 2 1 false 183)).heap.size:=lt_of_block ka
 clear AC3 k5 hba
 generalize (w4.alloc (.cells #[.int .i64 0,.int .i64 0,.bool false,.nilFunc] 237)).setRow w4.heap.size (zbd 2 1 false 183)=w5 at *
 generalize w4.heap.size=ya at *
 have H5:=H3.keep hb45
 have kb:=zcd hb45 k3
 have hbx5:=hbx3.trans (hb45.mono hx3)
 have hx5:x≤w5.heap.size:=Nat.le_trans hx3 hb45.size
 have HR5:=Lib.hid ((HRT.out.keep hb45).mono hb45.size)
 clear H3 k3 hb45 hb4 z0 HRT
 have hkpos:(0:Int)≤(k:Int):=Int.natCast_nonneg k
 have htz:((tx.size:Nat):Int)≤80:=by omega
 have U0:=fun e W=>zbq true e 0 rfl W
 obtain ⟨e0,e1⟩:_∧_:=zay kb
 go_upto_region 5 with (fail)
 have x1:=fun y:Xt w5=>y.cell e1
 refine zaj [15] (fun w'=>∃ y:Xt w5,w'=y.1) (by kernel_rfl) ⟨⟨w5.drew,(Below.refl _ _).drew⟩,rfl⟩ ?_
 refine zao [0,1,3,4,5,6,8,9,11] 7 rfl (by kernel_rfl) ?_
 simp only [zad,zac,zaa,zX1,zX2,zX3]
 repeat (go_big_quiet_step (fail))
 refine wpQuiet_nil ?_
 have hbd:Below w5.heap.size w5 w5.drew:=(Below.refl _ _).drew
 show wpE _ _ _ _ _ _ _ _ _ w5.drew
 generalize w5.drew=wd at *
 clear x1
 refine zak (i:=2) rfl (by kernel_rfl) rfl ?_
 unfold zap
 simp only [zad,zac,zaa,zX1,zX2,zX3]
 go_wp2_with (go_at_call 23;refine (U0 _ _).mono ?_;rintro e w' ⟨rfl,rfl⟩)
 refine zab ⟨⟨⟨_,hbd⟩,rfl⟩,?_⟩
 refine zak (i:=7) rfl (by kernel_rfl) rfl ?_
 unfold zap
 simp only [zad,zac,zaa,zX1,zX2,zX3]
 go_wp2_with (go_at_call 23;refine (U0 _ _).mono ?_;rintro e w' ⟨rfl,rfl⟩)
 refine zab ⟨⟨⟨_,hbd⟩,rfl⟩,?_⟩
 refine zak (i:=10) rfl (by kernel_rfl) rfl ?_
 unfold zap
 simp only [zad,zac,zaa,zX1,zX2,zX3]
 go_wp2_with (go_at_call 23;refine (U0 _ _).mono ?_;rintro e w' ⟨rfl,rfl⟩)
 refine zab ⟨⟨⟨_,hbd⟩,rfl⟩,?_⟩
 refine zak (i:=12) rfl (by kernel_rfl) rfl ?_
 unfold zap
 simp only [zad,zac,zaa,zX1,zX2,zX3]
 go_wp2_with (go_at_call 23;refine (U0 _ _).mono ?_;rintro e w' ⟨rfl,rfl⟩)
 refine zab ⟨⟨⟨_,hbd⟩,rfl⟩,?_⟩
 refine zak (i:=13) rfl (by kernel_rfl) rfl ?_
 unfold zap
 simp only [zad,zac,zaa,zX1,zX2,zX3]
 go_wp2
 have hbn:=hB1 wd (.cells #[.int .i64 0,.int .i64 0,.int .i64 0,.int .i64 0] 50)
 have kq:=hA1 wd (.cells #[.int .i64 0,.int .i64 0,.int .i64 0,.int .i64 0] 50)
 have hbe:=hbd.trans (hbn.mono hbd.size)
 refine zab ⟨⟨⟨_,hbe⟩,rfl⟩,?_⟩
 refine zak (i:=14) rfl (by kernel_rfl) rfl ?_
 unfold zap
 simp only [zad,zac,zaa,zX1,zX2,zX3]
 go_wp2_with (go_at_call 22;refine (zgq _ 0 0 0 0).mono ?_;rintro e w' ⟨rfl,rfl⟩)
 refine zab ⟨⟨⟨_,hbe⟩,rfl⟩,?_⟩
 refine zau rfl (by kernel_rfl) ?_
 simp only [zad,zac,zaa,zX1,zX2,zX3]
 have H6:=H5.keep hbe
 have k6:=zcd hbe kb
 have k6a:=zcd hbe ka
 have hbx6:=hbx5.trans (hbe.mono hx5)
 have hx6:x≤(wd.alloc (.cells #[.int .i64 0,.int .i64 0,.int .i64 0,.int .i64 0] 50)).heap.size:=Nat.le_trans hx5 hbe.size
 have HR6:=Lib.hid ((HR5.out.keep hbe).mono hbe.size)
 clear H5 kb ka hbe hbn kq hbd e0 e1 HR5 htz
 generalize wd.alloc (.cells #[.int .i64 0,.int .i64 0,.int .i64 0,.int .i64 0] 50)=w6 at *
 go_wp2
 refine zab ?_
 obtain ⟨c0,c1,c2,c3⟩:_∧_∧_∧_:=za9 (W:=w6) (r:=ya) (t:=237) (a0:=.int .i64 2) (a1:=.int .i64 1) (a2:=.bool false) (a3:=.func (.func 183) #[] #[]) k6a
 have HR7:=HR6.out
 rw [Nat.zero_add] at HR7
 go_upto_region 8 with (fail)
 have x0:=fun y:Xt w6=>y.cell c0
 have x1:=fun y:Xt w6=>y.cell c1
 have x2:=fun y:Xt w6=>y.cell c2
 have x3:=fun y:Xt w6=>y.cell c3
 refine zaj [8] (fun w'=>∃ y:Xt w6,w'=y.1) (by kernel_rfl) ⟨⟨w6.drew,(Below.refl _ _).drew⟩,rfl⟩ ?_
 refine zao [0,1] 7 rfl (by kernel_rfl) ?_
 simp only [zad,zac,zaa,zX1,zX2,zX3]
 repeat (go_big_quiet_step (fail))
 refine wpQuiet_nil ?_
 have hb7:Below w6.heap.size w6 w6.drew:=(Below.refl _ _).drew
 show wpE _ _ _ _ _ _ _ _ _ w6.drew
 generalize w6.drew=w7 at *
 clear x0 x1 x2 x3 c0 c1 c2 c3
 refine zak (i:=2) rfl (by kernel_rfl) rfl ?_
 unfold zap
 simp only [zad,zac,zaa,zX1,zX2,zX3]
 go_wp2
 refine zab ⟨⟨⟨_,hb7⟩,rfl⟩,?_⟩
 have RDX:=zgv 2 1 183 w7.heap.size (some ⟨bb,1,none⟩) nr nr rest w7 hnr (by omega) HKW.out hne ((HR7.keep hb7).mono hb7.size)
 change Calls Tryz.prog 149 #[.agg #[.int .i64 2,.int .i64 1,.bool false,.func (.func 183) #[] #[]],.slice (some ⟨bb,1,none⟩) nr nr] w7 _ at RDX
 refine zak (i:=3) rfl (by kernel_rfl) rfl ?_
 unfold zap
 simp only [zad,zac,zaa,zX1,zX2,zX3]
 go_wp2_with (go_at_call 149;refine RDX.mono ?_;rintro e w8 ⟨rfl,hb8⟩)
 have hbf:=hb7.trans (hb8.mono hb7.size)
 refine zab ⟨⟨⟨_,hbf⟩,rfl⟩,?_⟩
 have HW8:=Lib.hid ((HR7.keep hbf).mono hbf.size)
 refine zao [4,5,6,7] 1 rfl (by kernel_rfl) ?_
 simp only [zad,zac,zaa,zX1,zX2,zX3]
 repeat (go_big_quiet_step (fail))
 refine wpQuiet_nil ?_
 refine zau rfl (by kernel_rfl) ?_
 simp only [zad,zac,zaa,zX1,zX2,zX3]
 have H8:=H6.keep hbf
 have k8:=zcd hbf k6
 have k8a:=zcd hbf k6a
 have hbx8:=hbx6.trans (hbf.mono hx6)
 have hx8:x≤w8.heap.size:=Nat.le_trans hx6 hbf.size
 clear H6 k6 k6a hbf hb8 hb7 RDX HR7 HR6 hbx6
 go_wp2
 refine zab ?_
 obtain ⟨c0,c1,c2,c3⟩:_∧_∧_∧_:=za9 (W:=w8) (r:=ya) (t:=237) (a0:=.int .i64 2) (a1:=.int .i64 1) (a2:=.bool false) (a3:=.func (.func 183) #[] #[]) k8a
 obtain ⟨pb,po,hpA,hpb,p0,p1⟩:=Rd.sw H8.r.house.people.2 hy
 have d24:=H8.house 24 (u:=V.h.pp.v) rfl
 simp only [SlV.v,hpA] at d24
 have hkn:k<V.h.pp.n:=by rw [← H8.r.house.people.1];exact (List.getElem?_eq_some_iff.1 hy).1
 have hpn9:V.h.pp.n≤1000:=by rw [← H8.r.house.people.1];exact hS.people.1
 generalize V.h.pp.n=pn at *
 go_upto_region 9 with (fail)
 have x0:=fun y:Xt w8=>y.cell c0
 have x1:=fun y:Xt w8=>y.cell d24
 have x2:=fun y:Xt w8=>y.cell p1
 refine zaj [17] (fun w'=>∃ y:Xt w8,w'=y.1) (by kernel_rfl) ⟨⟨w8.drew,(Below.refl _ _).drew⟩,rfl⟩ ?_
 refine zao [0,1,2,3,4,5,6,7,8,9,10,11,13] 5 rfl (by kernel_rfl) ?_
 simp only [zad,zac,zaa,zX1,zX2,zX3]
 repeat (go_big_quiet_step (fail))
 refine wpQuiet_nil ?_
 have hb9:Below w8.heap.size w8 w8.drew:=(Below.refl _ _).drew
 show wpE _ _ _ _ _ _ _ _ _ w8.drew
 generalize w8.drew=w9 at *
 clear x0 x1 x2 d24 p0 p1 c0 c1 c2 c3
 refine zak (i:=12) rfl (by kernel_rfl) rfl ?_
 unfold zap
 simp only [zad,zac,zaa,zX1,zX2,zX3]
 go_wp2_with (go_at_call 23;refine (U0 _ _).mono ?_;rintro e w' ⟨rfl,rfl⟩)
 refine zab ⟨⟨⟨_,hb9⟩,rfl⟩,?_⟩
 refine zak (i:=14) rfl (by kernel_rfl) rfl ?_
 unfold zap
 simp only [zad,zac,zaa,zX1,zX2,zX3]
 go_wp2_with (go_at_call 23;refine (U0 _ _).mono ?_;rintro e w' ⟨rfl,rfl⟩)
 refine zab ⟨⟨⟨_,hb9⟩,rfl⟩,?_⟩
 refine zak (i:=15) rfl (by kernel_rfl) rfl ?_
 unfold zap
 simp only [zad,zac,zaa,zX1,zX2,zX3]
 go_wp2
 have hbn:=hB1 w9 (.cells #[.int .i64 0,.int .i64 0] 50)
 have kq:=hA1 w9 (.cells #[.int .i64 0,.int .i64 0] 50)
 have hbg:=hb9.trans (hbn.mono hb9.size)
 refine zab ⟨⟨⟨_,hbg⟩,rfl⟩,?_⟩
 refine zak (i:=16) rfl (by kernel_rfl) rfl ?_
 unfold zap
 simp only [zad,zac,zaa,zX1,zX2,zX3]
 go_wp2_with (go_at_call 22;refine (zdd _ 0 0).mono ?_;rintro e w' ⟨rfl,rfl⟩)
 refine zab ⟨⟨⟨_,hbg⟩,rfl⟩,?_⟩
 refine zau rfl (by kernel_rfl) ?_
 simp only [zad,zac,zaa,zX1,zX2,zX3]
 have HA:=H8.keep hbg
 have kA:=zcd hbg k8
 have kAa:=zcd hbg k8a
 have hbxA:=hbx8.trans (hbg.mono hx8)
 have hxA:x≤(w9.alloc (.cells #[.int .i64 0,.int .i64 0] 50)).heap.size:=Nat.le_trans hx8 hbg.size
 have HWA:=(HW8.out.keep hbg).mono hbg.size
 have hsA:=hbg.size
 have hkA:=lt_of_block kA
 clear H8 k8 k8a hbg hbn kq hb9 hpA HW8 hbx8
 generalize w9.alloc (.cells #[.int .i64 0,.int .i64 0] 50)=wA at *
 obtain ⟨_,_,_,c3⟩:_∧_∧_∧_:=za9 (W:=wA) (r:=ya) (t:=237) (a0:=.int .i64 2) (a1:=.int .i64 1) (a2:=.bool false) (a3:=.func (.func 183) #[] #[]) kAa
 have DOA:=DO wA (some ⟨bb,1,none⟩) nr HA (HTT.out wA hbxA) hxA HWA
 clear DO
 go_wp2
 refine zab ?_
 have hxb:=HA.xb
 have HA1:=Lib.hid HA
 clear HA HWA
 go_upto_region 13 with (go_at_call 183;refine DOA.mono ?_;rintro e wB ⟨V9,hP9,rfl,hB9,hb9,hK9⟩)
 have hbxB:=hbxA.trans hb9
 have hxB:=hb9.size
 have kE:wB.heap[bw]?=some (.cells #[.string by_,.string tx] 64 (0,0)):=hK9 bw _ kA
 have hlg:=hB9.log
 obtain ⟨hL1,hL2⟩:=hP V9 hP9
 rw [hL1,hL2] at hlg
 obtain ⟨i1,hi1,hy0,hy1,hy2⟩:=info_parts zkz
 obtain ⟨e0,e1⟩:_∧_:=zay kE
 have d25:=hB9.cell (i:=25) (u:=V9.lg.v) rfl
 rw [hL1] at d25
 simp only [SlV.v] at d25
 have HP9:=Lib.hid hP9
 have hbwB:=lt_of_block kE
 have hlb:=hB9.lt
 have hxb9:=hB9.xb
 have hln9:V.lg.n≤100:=by rw [← hlg.1];exact hlog
 have HL12:=Lib.hid (And.intro hL1 hL2)
 clear hP9 hb9 DOA hK9 hL1 hL2
 go_upto_region 15 with (fail)
 have x1:=fun q:Xk2 x b bw wB=>(zbw q.2.2.1).trans d25
 have x2:=fun q:Xk2 x b bw wB=>(zbw q.2.2.2).trans e0
 have x3:=fun q:Xk2 x b bw wB=>(zbw q.2.2.2).trans e1
 refine zaj [8,9,10] (fun w'=>∃ y:Xk2 x b bw wB,w'=y.1) (by kernel_rfl) ⟨⟨wB.drew,⟨(Below.refl _ _).drew,rfl,rfl⟩⟩,rfl⟩ ?_
 refine zao [0,1,2,3,4,5] 5 rfl (by kernel_rfl) ?_
 simp only [zad,zac,zaa,zX1,zX2,zX3]
 repeat (go_big_quiet_step (fail))
 refine wpQuiet_nil ?_
 have hbC:Below wB.heap.size wB wB.drew:=(Below.refl _ _).drew
 show wpE _ _ _ _ _ _ _ _ _ wB.drew
 generalize wB.drew=wC at *
 clear x1 x2 x3 d25 e0 e1
 have hBC:=hB9.keep hbC
 have hxC:=hbC.size
 have hxxB:x≤wB.heap.size:=Nat.le_trans hxb9 (Nat.le_of_lt hlb)
 have hE0:Below x wB wC∧wC.heap[b]?=wB.heap[b]?∧wC.heap[bw]?=wB.heap[bw]?:=⟨hbC.mono hxxB,hbC.block b hlb,hbC.block bw hbwB⟩
 have hba:=hB1 wC (.cells #[.string by_,.string tx] 64)
 have hE1:Below x wB (wC.alloc (.cells #[.string by_,.string tx] 64))∧(wC.alloc (.cells #[.string by_,.string tx] 64)).heap[b]?=wB.heap[b]?∧(wC.alloc (.cells #[.string by_,.string tx] 64)).heap[bw]?=wB.heap[bw]?:=⟨hE0.1.alloc (by omega) _,by rw [zae,if_neg (by omega)];exact hE0.2.1,by rw [zae,if_neg (by omega)];exact hE0.2.2⟩
 refine zak (i:=6) rfl (by kernel_rfl) rfl ?_
 unfold zap
 simp only [zad,zac,zaa,zX1,zX2,zX3]
 go_wp2
 refine zab ⟨⟨⟨_,hE1⟩,rfl⟩,?_⟩
 refine zak (i:=7) rfl (by kernel_rfl) rfl ?_
 unfold zap
 simp only [zad,zac,zaa,zX1,zX2,zX3]
 have hown1:=zag (zag hlg.2 hbC) hba
 refine wpList_append_lies _ rfl _ _ 59 rfl x 64 i1 _ 2 32 Tryz.underlying59 hi1 hy0 hy1 hy2 rfl (by omega) (.slice V.lg.A V.lg.n V.lg.c) V.lg.n _ rfl hown1 ⟨wC.heap.size,0,none⟩ 1 1 [.string by_,.string tx] rfl rfl (zen (f:=(0,0)) (t:=64) (by rw [zae,if_pos rfl])) (by simp [Value.oneCell']) (by omega) (by simp only [maxLen];omega) (by omega) (by simp;omega) _ rfl ?_
 intro gg cap wD hown6 hgrow6 _ _
 have hBD:=hBC.keep hba
 have hblD:wD.heap[b]?=some (.cells (za3 V9).toArray 141 (0,0)):=zct hown1 hgrow6 hBD.blk (fun cur e=>by cases e)
 have hbxD:Below x (wC.alloc (.cells #[.string by_,.string tx] 64)) wD:=(Below.refl _ _).grown hgrow6 (by simp;omega) (fun j hj=>(zbf hown1 hj).1)
 have hRD:BkR wD x V9:=hBD.r.but hbxD (fun k' o hko ho=>zct hown1 hgrow6 hko (fun cur e=>by
  rcases ho with ⟨m9,c9,h9⟩ | ⟨cs,t9,ht9,h9⟩
  · rw [h9] at e;cases e
  · rw [h9] at e
    cases e
    rcases ht9 with h8 | h8 <;> cases h8))
 have hbwD:wD.heap[bw]?=(wC.alloc (.cells #[.string by_,.string tx] 64)).heap[bw]?:=hgrow6.block bw (by simp;omega) (fun he=>Nat.lt_irrefl bw (hog bw he.symm))
 have hE3:Below x wB wD∧wD.heap[b]?=wB.heap[b]?∧wD.heap[bw]?=wB.heap[bw]?:=⟨hE1.1.trans hbxD,hblD.trans hB9.blk.symm,hbwD.trans hE1.2.2⟩
 clear hgrow6 hbxD hbwD hBD hE0 hE1 hba hown1 hBC
 go_wp2
 refine zab ⟨⟨⟨_,hE3⟩,rfl⟩,?_⟩
 refine zau rfl (by kernel_rfl) ?_
 simp only [zad,zac,zaa,zX1,zX2,zX3]
 have hBe:BkAt wD x b V9→True:=fun _=>trivial
 have f25:=frozen_of_row wD b 25 _ _ hblD
 have c25:=(cell_of_row wD b 25 _ _ _ hblD).trans (by rfl:_=some V9.lg.v)
 rw [HL12.out.1] at c25
 simp only [SlV.v] at c25
 have HS9:Hid (wD.setCell ⟨b,25,none⟩ (.slice (some ⟨gg,0,none⟩) (V.lg.n+1) cap)=wD.setRow b (za3 { V9 with lg:=⟨some ⟨gg,0,none⟩,V.lg.n+1,cap⟩,log:=V.log++[(by_,tx)] }).toArray):=(setCell_eq_setRow wD b 25 _ 141 (0,0) _ hblD).trans (congrArg (wD.setRow b) rfl)
 have HB8:=Lib.hid (bk_log hblD hxb9 hRD ⟨some ⟨gg,0,none⟩,V.lg.n+1,cap⟩ (V.log++[(by_,tx)]) (by rw [List.length_append,hlg.1];rfl) (by rw [zd9];exact hown6))
 have HBL:=Lib.hid (below_setRow (hbxB.trans hE3.1) hxb9 (za3 { V9 with lg:=⟨some ⟨gg,0,none⟩,V.lg.n+1,cap⟩,log:=V.log++[(by_,tx)] }).toArray)
 clear hblD hRD hown6 hE3 hB9 hlg
 go_wp2
 refine zab ?_
 go_wp2
 go_ret
 exact ⟨V9,some ⟨gg,0,none⟩,cap,HP9.out,rfl,by rw [HS9.out];exact HB8.out,by rw [HS9.out];exact HBL.out⟩
theorem enterLockNo (w:World) (x b:Nat) (V:BookV) (P:BookV→Prop) (by_ tx wd:ByteArray) (rest:List ByteArray) (nr:Nat) (h:BkAt w x b V) (hS:HouseS V.h) (hT:∀ W,Below x w W→CtAt W) (hxw:x≤w.heap.size) (hlog:V.log.length≤100) (hP:∀ V',P V'→V'.lg=V.lg∧V'.log=V.log)
 (ho:oddB tx=false) (hz:tx.size≤80) (hsp:zkk tx=wd :: rest) (hnr:rest.length=nr) (hr0:0<nr) (hr1:nr≤100) (k:Nat) (y:Sw) (hy:V.h.people[k]?=some y) (hw:za0 (fun p:Sw=>decide (p.1=by_)) V.h.people 0=(k:Int)) (hro:1≤y.2) (AC:∀ W,Calls Tryz.prog 148 #[.string wd] W (zgy W 1 0 true 176)) (hk:0<nr) (hne:zcy (rest.take 0) ⟨#[]⟩=false)
 (DO:∀ (W:World) (A:Option Addr) (c:Nat),BkAt W x b V→CtAt W→x≤W.heap.size→Rd W W.heap.size A (strCells (rest.take 0++[ba (Lib.join ((rest.drop 0).map (·.data.toList)) [32])]))→Calls Tryz.prog 176 #[.pointer (some ⟨b,0,none⟩),.slice A (0+1) c] W (fun e w'=>e=.returned (.int .i64 28)∧BkAt w' x b V∧Below x W w'∧K64 W w')) :
 Calls Tryz.prog 113 #[.pointer (some ⟨b,0,none⟩),.agg #[.string by_,.string tx]] w fun e w'=>e=.returned (.int .i64 28)∧BkAt w' x b V∧Below x w w':=by
 have hb0:=hB1 w (.cells #[.string by_,.string tx] 64)
 have k0:=hA1 w (.cells #[.string by_,.string tx] 64)
 have hs0:=hS1 w (.cells #[.string by_,.string tx] 64)
 have HH:=Lib.hid h
 have H0:=h.keep hb0
 have HB:=Lib.hid (hb0.mono hxw)
 have HTT:=Lib.hid hT
 have HKW:=Lib.hid hk
 have hog:∀ g',V.lg.v.ownBlock=some g'→g'<w.heap.size:=fun g' hg=>(zbf h.log.2 hg).2.1
 clear hb0 h hT hk
 go_enter Tryz.func113,Tryz.ntmps113
 go_upto_region 1 with (fail)
 generalize w.alloc (.cells #[.string by_,.string tx] 64)=w0 at *
 generalize hbw:w.heap.size=bw at *
 have HBW:=Lib.hid hbw
 clear hbw
 have IX:=zd2 V.h.pp.A V.h.pp.n V.h.pp.c x V.h.people (fun p:Sw=>decide (p.1=by_)) bw w0 (by have:=H0.r.house.people.1;have:=hS.people.1;omega) H0.r.house.people.1 H0.r.house.people.2 (by omega)
  (fun W z hb _=>zeh z by_ tx bw W (zcd hb k0))
 rw [hw] at IX
 unfold zax at IX
 have d24:=H0.house 24 (u:=V.h.pp.v) rfl
 simp only [SlV.v] at d24
 go_upto_region 2 with (go_at_call 90;refine IX.mono ?_;rintro e w1 ⟨rfl,hb1⟩)
 have H1:=H0.keep hb1
 have k1:=zcd hb1 k0
 have hbx1:=HB.out.trans (hb1.mono (show x≤w0.heap.size by omega))
 have hx1:x≤w1.heap.size:=by have:=hb1.size;omega
 obtain ⟨e0,e1⟩:_∧_:=zay k1
 have OD:=zif tx w1
 rw [ho] at OD
 clear IX d24 H0 hb1
 go_upto_region 3 with (go_at_call 146;refine OD.mono ?_;rintro e w2 ⟨rfl,hb2⟩)
 have H2:=H1.keep hb2
 have k2:=zcd hb2 k1
 have hbx2:=hbx1.trans (hb2.mono hx1)
 have hx2:x≤w2.heap.size:=Nat.le_trans hx1 hb2.size
 obtain ⟨f0,f1⟩:_∧_:=zay k2
 have SP:=zev tx (by omega) w2 (HTT.out w2 hbx2).txt
 rw [hsp] at SP
 rw [List.length_cons,hnr] at SP
 clear OD H1 k1 hb2 e0 e1
 go_upto_region 4 with (go_at_call 115;refine SP.mono ?_;rintro e w3 ⟨bb,rfl,hbB,hrd,hb3⟩)
 have H3:=H2.keep hb3
 have k3:=zcd hb3 k2
 have hbx3:=hbx2.trans (hb3.mono hx2)
 have hx3:x≤w3.heap.size:=Nat.le_trans hx2 hb3.size
 have z0:=zbz hrd (k:=0) (u:=.string wd) rfl
 rw [Nat.zero_add] at z0
 have HRT:=Lib.hid (zfh hrd)
 have AC3:=AC w3
 clear SP H2 k2 hb3 f0 f1 AC hrd k0
 go_wp2_with (first | (go_at_call 148;refine AC3.mono ?_;rintro e w4 ⟨rfl,hb4⟩) | (with_reducible refine zat 237 ?_))
 have hba:=hB1 w4 (.cells #[.int .i64 0,.int .i64 0,.bool false,.nilFunc] 237)
 have k5:=hA1 w4 (.cells #[.int .i64 0,.int .i64 0,.bool false,.nilFunc] 237)
 unfold Stp
 refine wpList_store_row rfl 237 _ _ rfl w4.heap.size (zbd 1 0 true 176) rfl rfl 237 _ k5 (by kernel_rfl) rfl (by kernel_rfl) ?_
 have ka:=setRow_heap _ w4.heap.size _ (zbd 1 0 true 176) 237 (0,0) k5
 have hb45:Below w3.heap.size w3 ((w4.alloc (.cells #[.int .i64 0,.int .i64 0,.bool false,.nilFunc] 237)).setRow w4.heap.size (zbd 1 0 true 176)):=below_setRow (hb4.trans (hba.mono hb4.size)) hb4.size _
 have hys:w4.heap.size<((w4.alloc (.cells #[.int .i64 0,.int .i64 0,.bool false,.nilFunc] 237)).setRow w4.heap.size (zbd 1 0 true 176)).heap.size:=lt_of_block ka
 clear AC3 k5 hba
 generalize (w4.alloc (.cells #[.int .i64 0,.int .i64 0,.bool false,.nilFunc] 237)).setRow w4.heap.size (zbd 1 0 true 176)=w5 at *
 generalize w4.heap.size=ya at *
 have H5:=H3.keep hb45
 have kb:=zcd hb45 k3
 have hbx5:=hbx3.trans (hb45.mono hx3)
 have hx5:x≤w5.heap.size:=Nat.le_trans hx3 hb45.size
 have HR5:=Lib.hid ((HRT.out.keep hb45).mono hb45.size)
 clear H3 k3 hb45 hb4 z0 HRT
 have hkpos:(0:Int)≤(k:Int):=Int.natCast_nonneg k
 have htz:((tx.size:Nat):Int)≤80:=by omega
 have U0:=fun e W=>zbq true e 0 rfl W
 obtain ⟨e0,e1⟩:_∧_:=zay kb
 go_upto_region 5 with (fail)
 have x1:=fun y:Xt w5=>y.cell e1
 refine zaj [15] (fun w'=>∃ y:Xt w5,w'=y.1) (by kernel_rfl) ⟨⟨w5.drew,(Below.refl _ _).drew⟩,rfl⟩ ?_
 refine zao [0,1,3,4,5,6,8,9,11] 7 rfl (by kernel_rfl) ?_
 simp only [zad,zac,zaa,zX1,zX2,zX3]
 repeat (go_big_quiet_step (fail))
 refine wpQuiet_nil ?_
 have hbd:Below w5.heap.size w5 w5.drew:=(Below.refl _ _).drew
 show wpE _ _ _ _ _ _ _ _ _ w5.drew
 generalize w5.drew=wd at *
 clear x1
 refine zak (i:=2) rfl (by kernel_rfl) rfl ?_
 unfold zap
 simp only [zad,zac,zaa,zX1,zX2,zX3]
 go_wp2_with (go_at_call 23;refine (U0 _ _).mono ?_;rintro e w' ⟨rfl,rfl⟩)
 refine zab ⟨⟨⟨_,hbd⟩,rfl⟩,?_⟩
 refine zak (i:=7) rfl (by kernel_rfl) rfl ?_
 unfold zap
 simp only [zad,zac,zaa,zX1,zX2,zX3]
 go_wp2_with (go_at_call 23;refine (U0 _ _).mono ?_;rintro e w' ⟨rfl,rfl⟩)
 refine zab ⟨⟨⟨_,hbd⟩,rfl⟩,?_⟩
 refine zak (i:=10) rfl (by kernel_rfl) rfl ?_
 unfold zap
 simp only [zad,zac,zaa,zX1,zX2,zX3]
 go_wp2_with (go_at_call 23;refine (U0 _ _).mono ?_;rintro e w' ⟨rfl,rfl⟩)
 refine zab ⟨⟨⟨_,hbd⟩,rfl⟩,?_⟩
 refine zak (i:=12) rfl (by kernel_rfl) rfl ?_
 unfold zap
 simp only [zad,zac,zaa,zX1,zX2,zX3]
 go_wp2_with (go_at_call 23;refine (U0 _ _).mono ?_;rintro e w' ⟨rfl,rfl⟩)
 refine zab ⟨⟨⟨_,hbd⟩,rfl⟩,?_⟩
 refine zak (i:=13) rfl (by kernel_rfl) rfl ?_
 unfold zap
 simp only [zad,zac,zaa,zX1,zX2,zX3]
 go_wp2
 have hbn:=hB1 wd (.cells #[.int .i64 0,.int .i64 0,.int .i64 0,.int .i64 0] 50)
 have kq:=hA1 wd (.cells #[.int .i64 0,.int .i64 0,.int .i64 0,.int .i64 0] 50)
 have hbe:=hbd.trans (hbn.mono hbd.size)
 refine zab ⟨⟨⟨_,hbe⟩,rfl⟩,?_⟩
 refine zak (i:=14) rfl (by kernel_rfl) rfl ?_
 unfold zap
 simp only [zad,zac,zaa,zX1,zX2,zX3]
 go_wp2_with (go_at_call 22;refine (zgq _ 0 0 0 0).mono ?_;rintro e w' ⟨rfl,rfl⟩)
 refine zab ⟨⟨⟨_,hbe⟩,rfl⟩,?_⟩
 refine zau rfl (by kernel_rfl) ?_
 simp only [zad,zac,zaa,zX1,zX2,zX3]
 have H6:=H5.keep hbe
 have k6:=zcd hbe kb
 have k6a:=zcd hbe ka
 have hbx6:=hbx5.trans (hbe.mono hx5)
 have hx6:x≤(wd.alloc (.cells #[.int .i64 0,.int .i64 0,.int .i64 0,.int .i64 0] 50)).heap.size:=Nat.le_trans hx5 hbe.size
 have HR6:=Lib.hid ((HR5.out.keep hbe).mono hbe.size)
 clear H5 kb ka hbe hbn kq hbd e0 e1 HR5 htz
 generalize wd.alloc (.cells #[.int .i64 0,.int .i64 0,.int .i64 0,.int .i64 0] 50)=w6 at *
 go_wp2
 refine zab ?_
 obtain ⟨c0,c1,c2,c3⟩:_∧_∧_∧_:=za9 (W:=w6) (r:=ya) (t:=237) (a0:=.int .i64 1) (a1:=.int .i64 0) (a2:=.bool true) (a3:=.func (.func 176) #[] #[]) k6a
 have HR7:=HR6.out
 rw [Nat.zero_add] at HR7
 go_upto_region 8 with (fail)
 have x0:=fun y:Xt w6=>y.cell c0
 have x1:=fun y:Xt w6=>y.cell c1
 have x2:=fun y:Xt w6=>y.cell c2
 have x3:=fun y:Xt w6=>y.cell c3
 refine zaj [8] (fun w'=>∃ y:Xt w6,w'=y.1) (by kernel_rfl) ⟨⟨w6.drew,(Below.refl _ _).drew⟩,rfl⟩ ?_
 refine zao [0,1] 7 rfl (by kernel_rfl) ?_
 simp only [zad,zac,zaa,zX1,zX2,zX3]
 repeat (go_big_quiet_step (fail))
 refine wpQuiet_nil ?_
 have hb7:Below w6.heap.size w6 w6.drew:=(Below.refl _ _).drew
 show wpE _ _ _ _ _ _ _ _ _ w6.drew
 generalize w6.drew=w7 at *
 clear x0 x1 x2 x3 c0 c1 c2 c3
 refine zak (i:=2) rfl (by kernel_rfl) rfl ?_
 unfold zap
 simp only [zad,zac,zaa,zX1,zX2,zX3]
 go_wp2
 refine zab ⟨⟨⟨_,hb7⟩,rfl⟩,?_⟩
 have RDX:=zfe 1 0 176 bb 1 nr nr rest w7 hnr (by omega) HKW.out (Nat.le_refl _) hne (fun s hs=>Nat.le_trans (zgb tx s (by rw [hsp];exact List.mem_cons_of_mem _ hs)) (by omega)) ((HR7.keep hb7).mono hb7.size)
 change Calls Tryz.prog 149 #[.agg #[.int .i64 1,.int .i64 0,.bool true,.func (.func 176) #[] #[]],.slice (some ⟨bb,1,none⟩) nr nr] w7 _ at RDX
 refine zak (i:=3) rfl (by kernel_rfl) rfl ?_
 unfold zap
 simp only [zad,zac,zaa,zX1,zX2,zX3]
 go_wp2_with (go_at_call 149;refine RDX.mono ?_;rintro e w8 ⟨A8,c8,rfl,ho8,hb8⟩)
 have hbf:=hb7.trans (hb8.mono hb7.size)
 refine zab ⟨⟨⟨_,hbf⟩,rfl⟩,?_⟩
 have HW8:=Lib.hid (zbe ho8)
 clear ho8
 refine zao [4,5,6,7] 1 rfl (by kernel_rfl) ?_
 simp only [zad,zac,zaa,zX1,zX2,zX3]
 repeat (go_big_quiet_step (fail))
 refine wpQuiet_nil ?_
 refine zau rfl (by kernel_rfl) ?_
 simp only [zad,zac,zaa,zX1,zX2,zX3]
 have H8:=H6.keep hbf
 have k8:=zcd hbf k6
 have k8a:=zcd hbf k6a
 have hbx8:=hbx6.trans (hbf.mono hx6)
 have hx8:x≤w8.heap.size:=Nat.le_trans hx6 hbf.size
 clear H6 k6 k6a hbf hb8 hb7 RDX HR7 HR6 hbx6
 go_wp2
 refine zab ?_
 obtain ⟨c0,c1,c2,c3⟩:_∧_∧_∧_:=za9 (W:=w8) (r:=ya) (t:=237) (a0:=.int .i64 1) (a1:=.int .i64 0) (a2:=.bool true) (a3:=.func (.func 176) #[] #[]) k8a
 obtain ⟨pb,po,hpA,hpb,p0,p1⟩:=Rd.sw H8.r.house.people.2 hy
 have d24:=H8.house 24 (u:=V.h.pp.v) rfl
 simp only [SlV.v,hpA] at d24
 have hkn:k<V.h.pp.n:=by rw [← H8.r.house.people.1];exact (List.getElem?_eq_some_iff.1 hy).1
 have hpn9:V.h.pp.n≤1000:=by rw [← H8.r.house.people.1];exact hS.people.1
 generalize V.h.pp.n=pn at *
 go_upto_region 9 with (fail)
 have x0:=fun y:Xt w8=>y.cell c0
 have x1:=fun y:Xt w8=>y.cell d24
 have x2:=fun y:Xt w8=>y.cell p1
 refine zaj [17] (fun w'=>∃ y:Xt w8,w'=y.1) (by kernel_rfl) ⟨⟨w8.drew,(Below.refl _ _).drew⟩,rfl⟩ ?_
 refine zao [0,1,2,3,4,5,6,7,8,9,10,11,13] 5 rfl (by kernel_rfl) ?_
 simp only [zad,zac,zaa,zX1,zX2,zX3]
 repeat (go_big_quiet_step (fail))
 refine wpQuiet_nil ?_
 have hb9:Below w8.heap.size w8 w8.drew:=(Below.refl _ _).drew
 show wpE _ _ _ _ _ _ _ _ _ w8.drew
 generalize w8.drew=w9 at *
 clear x0 x1 x2 d24 p0 p1 c0 c1 c2 c3
 refine zak (i:=12) rfl (by kernel_rfl) rfl ?_
 unfold zap
 simp only [zad,zac,zaa,zX1,zX2,zX3]
 go_wp2_with (go_at_call 23;refine (U0 _ _).mono ?_;rintro e w' ⟨rfl,rfl⟩)
 refine zab ⟨⟨⟨_,hb9⟩,rfl⟩,?_⟩
 refine zak (i:=14) rfl (by kernel_rfl) rfl ?_
 unfold zap
 simp only [zad,zac,zaa,zX1,zX2,zX3]
 go_wp2_with (go_at_call 23;refine (U0 _ _).mono ?_;rintro e w' ⟨rfl,rfl⟩)
 refine zab ⟨⟨⟨_,hb9⟩,rfl⟩,?_⟩
 refine zak (i:=15) rfl (by kernel_rfl) rfl ?_
 unfold zap
 simp only [zad,zac,zaa,zX1,zX2,zX3]
 go_wp2
 have hbn:=hB1 w9 (.cells #[.int .i64 0,.int .i64 0] 50)
 have kq:=hA1 w9 (.cells #[.int .i64 0,.int .i64 0] 50)
 have hbg:=hb9.trans (hbn.mono hb9.size)
 refine zab ⟨⟨⟨_,hbg⟩,rfl⟩,?_⟩
 refine zak (i:=16) rfl (by kernel_rfl) rfl ?_
 unfold zap
 simp only [zad,zac,zaa,zX1,zX2,zX3]
 go_wp2_with (go_at_call 22;refine (zdd _ 0 0).mono ?_;rintro e w' ⟨rfl,rfl⟩)
 refine zab ⟨⟨⟨_,hbg⟩,rfl⟩,?_⟩
 refine zau rfl (by kernel_rfl) ?_
 simp only [zad,zac,zaa,zX1,zX2,zX3]
 have HA:=H8.keep hbg
 have kA:=zcd hbg k8
 have kAa:=zcd hbg k8a
 have hbxA:=hbx8.trans (hbg.mono hx8)
 have hxA:x≤(w9.alloc (.cells #[.int .i64 0,.int .i64 0] 50)).heap.size:=Nat.le_trans hx8 hbg.size
 have HWA:=(HW8.out.keep hbg).mono hbg.size
 have hsA:=hbg.size
 have hkA:=lt_of_block kA
 clear H8 k8 k8a hbg hbn kq hb9 hpA HW8 hbx8
 generalize w9.alloc (.cells #[.int .i64 0,.int .i64 0] 50)=wA at *
 obtain ⟨_,_,_,c3⟩:_∧_∧_∧_:=za9 (W:=wA) (r:=ya) (t:=237) (a0:=.int .i64 1) (a1:=.int .i64 0) (a2:=.bool true) (a3:=.func (.func 176) #[] #[]) kAa
 have DOA:=DO wA A8 c8 HA (HTT.out wA hbxA) hxA HWA
 clear DO
 go_wp2
 refine zab ?_
 have hxb:=HA.xb
 have HA1:=Lib.hid HA
 clear HA HWA
 go_upto_region 13 with (go_at_call 176;refine DOA.mono ?_;rintro e wB ⟨rfl,hB9,hb9,_⟩)
 go_wp2
 go_ret
 exact ⟨rfl,hB9,hbxA.trans hb9⟩
end Go.Proofs.YtfdmeojcopkaoaaGreatDoor
