import Derived.Test.YtoodbfkbbchjiaaGreatDoorf3S9
import Derived.BigFrameIn
import Derived.BigGuardIn
import Derived.BigGuardPartIn
import Derived.BigRegionIn
import Derived.Test.YtoodbfkbbchjiaaGreatDoorf3KA
import Derived.Test.YtoodbfkbbchjiaaGreatDoorf3X9
import Derived.Test.YtoodbfkbbchjiaaGreatDoorf3U3
set_option maxRecDepth 100000
set_option maxHeartbeats 16000000
namespace Go.Proofs.YtoodbfkbbchjiaaGreatDoor
open Go Go.RowKit Go.Shelf
attribute [local go_sem] Oper.semAt_some
theorem report_K (w:World) (x b n:Nat) (V:BookV) (hV:Stage n 4 V) (h:BkAt w x b V) (ht:TxtAt w):Calls Tryz.prog 34 #[.pointer (some ⟨b,0,none⟩)] w fun e w'=>e=.returned (.tuple #[.string (ba tx4),.int .i64 0])∧Below w.heap.size w w':=by
 have hb0:Below w.heap.size w (((w.alloc (.cells #[.pointer (some ⟨b,0,none⟩)] 89)).alloc (.cells #[.pointer none,.slice none 0 0] 151)).alloc (.cells #[.func (.func 54) #[] #[.pointer (some ⟨w.heap.size+1,0,none⟩)]] 157)):=(((Below.refl _ _).alloc (Nat.le_refl _) _).alloc (by simp) _).alloc (by simp;omega) _
 have k2:(((w.alloc (.cells #[.pointer (some ⟨b,0,none⟩)] 89)).alloc (.cells #[.pointer none,.slice none 0 0] 151)).alloc (.cells #[.nilFunc] 157)).heap[w.heap.size+1+1]?=some (.cells #[.nilFunc] 157 (0,0)):=by rw [zae,if_pos (by simp)]
 have k0:(((w.alloc (.cells #[.pointer (some ⟨b,0,none⟩)] 89)).alloc (.cells #[.pointer none,.slice none 0 0] 151)).alloc (.cells #[.func (.func 54) #[] #[.pointer (some ⟨w.heap.size+1,0,none⟩)]] 157)).heap[w.heap.size]?=some (.cells #[.pointer (some ⟨b,0,none⟩)] 89 (0,0)):=by rw [zae,if_neg (by simp;omega),zae,if_neg (by simp),zae,if_pos rfl]
 have k1:(((w.alloc (.cells #[.pointer (some ⟨b,0,none⟩)] 89)).alloc (.cells #[.pointer none,.slice none 0 0] 151)).alloc (.cells #[.func (.func 54) #[] #[.pointer (some ⟨w.heap.size+1,0,none⟩)]] 157)).heap[w.heap.size+1]?=some (.cells #[.pointer none,.slice none 0 0] 151 (0,0)):=by rw [zae,if_neg (by simp),zae,if_pos (by simp)]
 have k3:(((w.alloc (.cells #[.pointer (some ⟨b,0,none⟩)] 89)).alloc (.cells #[.pointer none,.slice none 0 0] 151)).alloc (.cells #[.func (.func 54) #[] #[.pointer (some ⟨w.heap.size+1,0,none⟩)]] 157)).heap[w.heap.size+1+1]?=some (.cells #[.func (.func 54) #[] #[.pointer (some ⟨w.heap.size+1,0,none⟩)]] 157 (0,0)):=by rw [zae,if_pos (by simp)]
 have R0:RpSt w b w.heap.size [] [] (((w.alloc (.cells #[.pointer (some ⟨b,0,none⟩)] 89)).alloc (.cells #[.pointer none,.slice none 0 0] 151)).alloc (.cells #[.func (.func 54) #[] #[.pointer (some ⟨w.heap.size+1,0,none⟩)]] 157)):=⟨hb0,k0,.inl ⟨Nat.le_refl _,.slice none 0 0,k1,⟨rfl,.inl ⟨rfl,rfl⟩⟩,by simp [Value.ownBlock]⟩,k3,fun D hD=>by cases hD⟩
 have hsf:(store (⟨w.heap.size+1+1,0,none⟩:Addr) (.func (.func 54) #[] #[.pointer (some ⟨w.heap.size+1,0,none⟩)])).run Tryz.prog (((w.alloc (.cells #[.pointer (some ⟨b,0,none⟩)] 89)).alloc (.cells #[.pointer none,.slice none 0 0] 151)).alloc (.cells #[.nilFunc] 157))=.ok () ((((w.alloc (.cells #[.pointer (some ⟨b,0,none⟩)] 89)).alloc (.cells #[.pointer none,.slice none 0 0] 151)).alloc (.cells #[.nilFunc] 157)).setCell ⟨w.heap.size+1+1,0,none⟩ (.func (.func 54) #[] #[.pointer (some ⟨w.heap.size+1,0,none⟩)])):=by
  rw [run_store _ _ _ _ _ rfl,cell_of_row _ _ 0 _ _ _ k2,frozen_of_row _ _ 0 _ _ k2]
  rfl
 have HK:=Lib.hid (show ∀ W,Below w.heap.size w W→BkAt W x b V from fun W hW=>h.keep hW)
 have HT:=Lib.hid (show ∀ W,Below w.heap.size w W→TxtAt W from fun W hW=>ht.below hW)
 have hltb:=h.lt
 have HV:=Lib.hid hV
 have hS:HouseS V.h:=by rw [hV.h];exact zbg n
 clear hb0 k0 k1 k2 k3 ht h hV
 refine (callsIn_wide (n:=3)).1 ?_
 refine callsIn_of_wp_marks Tryz.func34 rfl trivial ?_ rfl
 refine wpIn_wide.2 ?_
 simp only [Tryz.ntmps34,List.size_toArray,List.length_cons,List.length_nil,Nat.reduceAdd,Nat.reduceSub,Array.replicate_succ,Array.replicate_zero,List.push_toArray,List.append_toArray,List.nil_append,List.cons_append]
 go_upto_region 3 with (fail)
 clear hsf
 generalize ((w.alloc (.cells #[.pointer (some ⟨b,0,none⟩)] 89)).alloc (.cells #[.pointer none,.slice none 0 0] 151)).alloc (.cells #[.func (.func 54) #[] #[.pointer (some ⟨w.heap.size+1,0,none⟩)]] 157)=w0 at *
 generalize hbw:w.heap.size=bw at *
 have HBW:=Lib.hid hbw
 clear hbw
 have hk0:=HK.out w0 R0.below
 have q0:=(cell_of_row w0 bw 0 _ _ _ R0.box).trans (by rfl:_=some (.pointer (some ⟨b,0,none⟩)))
 have q2:=(cell_of_row w0 (bw+1+1) 0 _ _ _ R0.fn).trans (by rfl:_=some (.func (.func 54) #[] #[.pointer (some ⟨bw+1,0,none⟩)]))
 have q26:=(hk0.cell (i:=26) (u:=.int .i64 V.day) rfl).trans (congrArg some (congrArg (Value.int .i64) (show V.day=3 from HV.out.day)))
 clear hk0
 have IT:=fun W (hW:Below w0.heap.size w0 W)=>zb8 3 (by decide) (by decide) W (HT.out W (R0.keep hW).below)
 rw [itoa_K.1] at IT
 have xq0:=fun y:Xt w0=>y.cell q0
 have xq2:=fun y:Xt w0=>y.cell q2
 have xq26:=fun y:Xt w0=>y.cell q26
 refine zak [7] (fun w'=>∃ y:Xt w0,w'=y.1) (by kernel_rfl) ⟨⟨w0.drew,(Below.refl _ _).drew⟩,rfl⟩ ?_
 refine zao [0,1,2,3,4] 3 rfl (by kernel_rfl) ?_
 simp only [zad,zac,zaa,zX1,zX2,zX3]
 repeat (go_big_quiet_step (fail))
 refine wpQuiet_nil ?_
 have hbd:Below w0.heap.size w0 w0.drew:=(Below.refl _ _).drew
 show wpE _ _ _ _ _ _ _ _ _ w0.drew
 generalize w0.drew=wd at *
 clear xq0 xq2 xq26 q0 q2 q26
 refine zan (i:=5) rfl (by kernel_rfl) rfl ?_
 unfold zar
 simp only [zad,zac,zaa,zX1,zX2,zX3]
 go_wp2_with (go_at_call 57;refine (IT _ hbd).mono ?_;rintro e we ⟨rfl,hbe0⟩)
 have hbe:=hbd.trans (hbe0.mono hbd.size)
 refine zab ⟨⟨⟨_,hbe⟩,rfl⟩,?_⟩
 refine zan (i:=6) rfl (by kernel_rfl) rfl ?_
 unfold zar
 simp only [zad,zac,zaa,zX1,zX2,zX3]
 go_wp2
 have hbn:=hB1 we (.cells #[.string ⟨#[100,97,121]⟩,.string ⟨#[51]⟩] 9)
 have kq:=hA1 we (.cells #[.string ⟨#[100,97,121]⟩,.string ⟨#[51]⟩] 9)
 have hbf:=hbe.trans (hbn.mono hbe.size)
 refine zab ⟨⟨⟨_,hbf⟩,rfl⟩,?_⟩
 have LN:=R0.call hbf [⟨#[100,97,121]⟩,⟨#[51]⟩] 2 (zbq (cs:=#[.string ⟨#[100,97,121]⟩,.string ⟨#[51]⟩]) kq) rfl (by decide) tx1 (by decide +kernel) (by decide)
 clear hbn kq
 refine zau rfl (by kernel_rfl) ?_
 simp only [zad,zac,zaa,zX1,zX2,zX3]
 go_wp2_with (go_at_call 54;refine LN.mono ?_;rintro e w1 ⟨rfl,R1,hbL,hfL⟩)
 refine zab ?_
 clear R0 hbe hbe0 hbf hbd LN IT hbL hfL
 go_upto_region 4 with (fail)
 have hk0:=HK.out w1 R1.below
 have q0:=(cell_of_row w1 bw 0 _ _ _ R1.box).trans (by rfl:_=some (.pointer (some ⟨b,0,none⟩)))
 have q2:=(cell_of_row w1 (bw+1+1) 0 _ _ _ R1.fn).trans (by rfl:_=some (.func (.func 54) #[] #[.pointer (some ⟨bw+1,0,none⟩)]))
 have q27:=hk0.cell (i:=27) (u:=V.q.sw.v) rfl
 have q28:=hk0.cell (i:=28) (u:=V.q.tr.v) rfl
 have q29:=hk0.cell (i:=29) (u:=.int .i64 V.q.ctr) rfl
 clear hk0
 have FS:∀ W,Below w1.heap.size w1 W→Calls Tryz.prog 58 #[.agg #[V.q.sw.v,V.q.tr.v,.int .i64 V.q.ctr]] W (zfw W (stTx V.q)):=fun W hW=>zjz W W.heap.size V.q (HK.out W (R1.keep hW).below).r.lk.at (Nat.le_refl _) (lsS_K HV.out.q) (st_ranges HV.out.q) (by rw [HV.out.q.1];decide) (HT.out W (R1.keep hW).below)
 rw [stTx_K HV.out.q] at FS
 have xq0:=fun y:Xt w1=>y.cell q0
 have xq2:=fun y:Xt w1=>y.cell q2
 have xq27:=fun y:Xt w1=>y.cell q27
 have xq28:=fun y:Xt w1=>y.cell q28
 have xq29:=fun y:Xt w1=>y.cell q29
 refine zak [7] (fun w'=>∃ y:Xt w1,w'=y.1) (by kernel_rfl) ⟨⟨w1.drew,(Below.refl _ _).drew⟩,rfl⟩ ?_
 refine zao [0,1,2,3,4] 3 rfl (by kernel_rfl) ?_
 simp only [zad,zac,zaa,zX1,zX2,zX3]
 repeat (go_big_quiet_step (fail))
 refine wpQuiet_nil ?_
 have hbd:Below w1.heap.size w1 w1.drew:=(Below.refl _ _).drew
 show wpE _ _ _ _ _ _ _ _ _ w1.drew
 generalize w1.drew=wd at *
 clear xq0 xq2 xq27 xq28 xq29 q0 q2 q27 q28 q29
 refine zan (i:=5) rfl (by kernel_rfl) rfl ?_
 unfold zar
 simp only [zad,zac,zaa,zX1,zX2,zX3]
 go_wp2_with (go_at_call 58;refine (FS _ hbd).mono ?_;rintro e we ⟨rfl,hbe0⟩)
 have hbe:=hbd.trans (hbe0.mono hbd.size)
 refine zab ⟨⟨⟨_,hbe⟩,rfl⟩,?_⟩
 refine zan (i:=6) rfl (by kernel_rfl) rfl ?_
 unfold zar
 simp only [zad,zac,zaa,zX1,zX2,zX3]
 go_wp2
 have hbn:=hB1 we (.cells #[.string ⟨#[108,111,99,107]⟩,.string ⟨#[48,32,48,32,49,58,48,32,45]⟩] 9)
 have kq:=hA1 we (.cells #[.string ⟨#[108,111,99,107]⟩,.string ⟨#[48,32,48,32,49,58,48,32,45]⟩] 9)
 have hbf:=hbe.trans (hbn.mono hbe.size)
 refine zab ⟨⟨⟨_,hbf⟩,rfl⟩,?_⟩
 have LN:=R1.call hbf [⟨#[108,111,99,107]⟩,⟨#[48,32,48,32,49,58,48,32,45]⟩] 2 (zbq (cs:=#[.string ⟨#[108,111,99,107]⟩,.string ⟨#[48,32,48,32,49,58,48,32,45]⟩]) kq) rfl (by decide) cT2 (by decide +kernel) (by decide)
 clear hbn kq
 refine zau rfl (by kernel_rfl) ?_
 simp only [zad,zac,zaa,zX1,zX2,zX3]
 go_wp2_with (go_at_call 54;refine LN.mono ?_;rintro e w2 ⟨rfl,R2,hbL,hfL⟩)
 refine zab ?_
 clear R1 hbe hbe0 hbf hbd LN FS hbL hfL
 have hk0:=HK.out w2 R2.below
 have q0:=(cell_of_row w2 bw 0 _ _ _ R2.box).trans (by rfl:_=some (.pointer (some ⟨b,0,none⟩)))
 have q2:=(cell_of_row w2 (bw+1+1) 0 _ _ _ R2.fn).trans (by rfl:_=some (.func (.func 54) #[] #[.pointer (some ⟨bw+1,0,none⟩)]))
 have q30:=hk0.cell (i:=30) (u:=.slice none 0 0) rfl
 clear hk0
 go_wp2
 clear q0 q2 q30
 go_loopw [48] (fun u48 wr=>u48=.int .i64 0∧wr=w2) (fun _ _=>0)
 case atStart=>exact ⟨rfl,rfl⟩
 case round =>
  obtain ⟨rfl,rfl⟩:=hrel
  have q0:=(cell_of_row wr bw 0 _ _ _ R2.box).trans (by rfl:_=some (.pointer (some ⟨b,0,none⟩)))
  go_wp2
  clear q0
  have htr:V.h.plant.trains=[⟨#[116]⟩,⟨#[117]⟩]:=by rw [HV.out.h];rfl
  have HTR:=Lib.hid htr
  have TG:∀ W,Below bw w W→SeqAll Fence.wide 2 Tryz.prog 60 #[.pointer (some ⟨b,0,none⟩)] trEnc (trNum 0 [⟨#[116]⟩,⟨#[117]⟩]) (Below bw) W:=fun W hW=>by
   have hk0:=HK.out W hW
   have hsz:=hW.size
   rw [HBW.out] at hsz
   have hxb:=hk0.xb
   have TG0:=trains_gives 2 (by decide) W bw b V.h.plant.ts.A V.h.plant.ts.n V.h.plant.ts.c V.h.plant.trains hsz hltb (hk0.house 1 (u:=V.h.plant.ts.v) rfl) (hk0.r.house.plant.trains.2.mono (by omega)) hk0.r.house.plant.trains.1 (by have:=hk0.r.house.plant.trains.1;have:=hS.plant.trains.1;omega)
   rw [HTR.out] at TG0
   exact TG0
  have HTG:=Lib.hid TG
  clear TG htr
  refine zk6 ?_
  refine zei (F:=Fence.wide) rfl (by omega) (gf:=60) (fb:=#[.pointer (some ⟨b,0,none⟩)]) rfl trivial (enters_of Tryz.func60 (by kernel_rfl) rfl)
   (HTG.out wr R2.below) (Below.refl _ _) (fun _=>rfl) (fun h1 h2=>Below.trans h1 h2)
   (fun W q o o' hq ho hc=>(Below.refl bw W).grown (grownBy_putObj' W q o') (by have:=(Array.getElem?_eq_some_iff.1 ho).1;have:=R2.size;omega) (fun k e=>by cases e;have:=R2.size;omega))
   (fun k W=>RpSt w b bw [] (if k=0 then cT2 else cT3) W)
   (fun k W W' row hs hg hr=>hs.grown hg (fun r e=>⟨by have:=(hr r e).1;have:=R2.size;omega,(fun D hD=>nomatch hD),(hr r e).2⟩))
   R2 ?round ?done
  case round =>
   rintro q k y W hq hy hI
   have hszr:=R2.size
   clear R2
   rcases k with _ | _ | k
   · obtain rfl:=Option.some.inj hy
     clear hy
     simp only [trEnc]
     gi_wp2
     refine ⟨KeepsFrom.refl _ _,Below.refl _ _,?_⟩
     intro o o' ho hc
     have R3:RpSt w b bw [] cT2 (W.putObj q o'):=hI.grown (grownBy_putObj' W q o') (fun r e=>by cases e;exact ⟨by omega,(fun D hD=>nomatch hD),o,ho,hc⟩)
     generalize W.putObj q o'=W2 at *
     clear hI ho hc
     have hk2:=HK.out W2 R3.below
     have d31:=hk2.cell (i:=31) (u:=.map (some V.mp)) rfl
     have hm:=hk2.r.pl
     rw [HV.out.pl] at hm
     have hlk:=zd0 (t:=105) Tryz.underlying105 hm 0 (j:=0) (v:=.agg #[.int .i64 0,.int .i64 3,.int .i64 1100,.int .i64 1199]) rfl
     have q0:=(cell_of_row W2 bw 0 _ _ _ R3.box).trans (by rfl:_=some (.pointer (some ⟨b,0,none⟩)))
     clear hk2 hm
     refine wpIn_block ?_
     refine wpIn_seq ?_
     refine zcl (by kernel_rfl) ?_
     go_wp2_with (with_reducible refine zas 167 ?_)
     have hba:=hB1 W2 (.cells #[.int .i64 0,.int .i64 0,.int .i64 0,.int .i64 0] 167)
     have k3:=hA1 W2 (.cells #[.int .i64 0,.int .i64 0,.int .i64 0,.int .i64 0] 167)
     unfold Stp
     refine wpList_store_row rfl 167 _ _ rfl W2.heap.size #[.int .i64 0,.int .i64 3,.int .i64 1100,.int .i64 1199] rfl rfl 167 _ k3 (by kernel_rfl) rfl (by kernel_rfl) ?_
     have k4:=setRow_heap _ W2.heap.size _ #[.int .i64 0,.int .i64 3,.int .i64 1100,.int .i64 1199] 167 (0,0) k3
     have hb4:Below W2.heap.size W2 ((W2.alloc (.cells #[.int .i64 0,.int .i64 0,.int .i64 0,.int .i64 0] 167)).setRow W2.heap.size #[.int .i64 0,.int .i64 3,.int .i64 1100,.int .i64 1199]):=below_setRow hba (Nat.le_refl _) _
     clear k3 hba hlk d31 q0
     go_wp2
     refine zab ?_
     generalize (W2.alloc (.cells #[.int .i64 0,.int .i64 0,.int .i64 0,.int .i64 0] 167)).setRow W2.heap.size #[.int .i64 0,.int .i64 3,.int .i64 1100,.int .i64 1199]=W3 at *
     have R4:=R3.keep hb4
     have HB4:=Lib.hid hb4
     clear hb4
     obtain ⟨_,c1,c2,c3⟩:_∧_∧_∧_:=zbo k4
     have q2:=(cell_of_row W3 (bw+1+1) 0 _ _ _ R4.fn).trans (by rfl:_=some (.func (.func 54) #[] #[.pointer (some ⟨bw+1,0,none⟩)]))
     clear k4
     gi_wp2
     have ITa:=fun W (hW:Below W3.heap.size W3 W)=>zb8 1100 (by decide) (by decide) W (HT.out W (R4.keep hW).below)
     have ITb:=fun W (hW:Below W3.heap.size W3 W)=>zb8 1199 (by decide) (by decide) W (HT.out W (R4.keep hW).below)
     have ITc:=fun W (hW:Below W3.heap.size W3 W)=>zb8 3 (by decide) (by decide) W (HT.out W (R4.keep hW).below)
     rw [itoa_K.2.1] at ITa
     rw [itoa_K.2.2] at ITb
     rw [itoa_K.1] at ITc
     have xq2:=fun y:Xt W3=>y.cell q2
     have xc1:=fun y:Xt W3=>y.cell c1
     have xc2:=fun y:Xt W3=>y.cell c2
     have xc3:=fun y:Xt W3=>y.cell c3
     refine zhf [14] (fun w'=>∃ y:Xt W3,w'=y.1) (by kernel_rfl) (by kernel_rfl) ⟨⟨W3.drew,(Below.refl _ _).drew⟩,rfl⟩ ?_
     refine zao [0,1,2,3,4,6,7,8,10,11] 5 rfl (by kernel_rfl) ?_
     simp only [zad,zac,zaa,zX1,zX2,zX3]
     repeat (go_big_quiet_step (fail))
     refine wpQuiet_nil ?_
     have hbd:Below W3.heap.size W3 W3.drew:=(Below.refl _ _).drew
     show wpE _ _ _ _ _ _ _ _ _ W3.drew
     generalize W3.drew=wd at *
     clear xq2 xc1 xc2 xc3 q2 c1 c2 c3
     refine zan (i:=5) rfl (by kernel_rfl) rfl ?_
     unfold zar
     simp only [zad,zac,zaa,zX1,zX2,zX3]
     go_wp2_with (go_at_call 57;refine (ITa _ hbd).mono ?_;rintro e we1 ⟨rfl,hbe1⟩)
     have hb5:=hbd.trans (hbe1.mono hbd.size)
     refine zab ⟨⟨⟨_,hb5⟩,rfl⟩,?_⟩
     refine zan (i:=9) rfl (by kernel_rfl) rfl ?_
     unfold zar
     simp only [zad,zac,zaa,zX1,zX2,zX3]
     go_wp2_with (go_at_call 57;refine (ITb _ hb5).mono ?_;rintro e we2 ⟨rfl,hbe2⟩)
     have hb9:=hb5.trans (hbe2.mono hb5.size)
     refine zab ⟨⟨⟨_,hb9⟩,rfl⟩,?_⟩
     refine zan (i:=12) rfl (by kernel_rfl) rfl ?_
     unfold zar
     simp only [zad,zac,zaa,zX1,zX2,zX3]
     go_wp2_with (go_at_call 57;refine (ITc _ hb9).mono ?_;rintro e we ⟨rfl,hbe3⟩)
     have hb12:=hb9.trans (hbe3.mono hb9.size)
     refine zab ⟨⟨⟨_,hb12⟩,rfl⟩,?_⟩
     refine zan (i:=13) rfl (by kernel_rfl) rfl ?_
     unfold zar
     simp only [zad,zac,zaa,zX1,zX2,zX3]
     go_wp2
     have hbn:=hB1 we (.cells #[.string ⟨#[112,108,97,99,101]⟩,.string ⟨#[116]⟩,.string ⟨#[49,49,48,48]⟩,.string ⟨#[49,49,57,57]⟩,.string ⟨#[51]⟩] 9)
     have kq:=hA1 we (.cells #[.string ⟨#[112,108,97,99,101]⟩,.string ⟨#[116]⟩,.string ⟨#[49,49,48,48]⟩,.string ⟨#[49,49,57,57]⟩,.string ⟨#[51]⟩] 9)
     have hbf:=hb12.trans (hbn.mono hb12.size)
     refine zab ⟨⟨⟨_,hbf⟩,rfl⟩,?_⟩
     have HBF:=Lib.hid hbf
     have LN:=R4.call hbf [⟨#[112,108,97,99,101]⟩,⟨#[116]⟩,⟨#[49,49,48,48]⟩,⟨#[49,49,57,57]⟩,⟨#[51]⟩] 5 (zbq (cs:=#[.string ⟨#[112,108,97,99,101]⟩,.string ⟨#[116]⟩,.string ⟨#[49,49,48,48]⟩,.string ⟨#[49,49,57,57]⟩,.string ⟨#[51]⟩]) kq) rfl (by decide) cT3 (by decide +kernel) (by decide)
     clear hbn kq
     refine zau rfl (by kernel_rfl) ?_
     simp only [zad,zac,zaa,zX1,zX2,zX3]
     go_wp2_with (go_at_call 54;refine LN.mono ?_;rintro e w9 ⟨rfl,R9,hbL,hfL⟩)
     refine zab ?_
     gi_wp2
     have hb2f:=HB4.out.trans (HBF.out.mono HB4.out.size)
     refine ⟨(by first | rfl | trivial),(zc8 hb2f).trans (keepsFrom_fr hfL hbL.size (by omega)),(hb2f.mono (by have:=R3.size;omega)).trans (hbL.mono (by omega)),R9⟩
   · obtain rfl:=Option.some.inj hy
     clear hy
     simp only [trEnc]
     gi_wp2
     refine ⟨KeepsFrom.refl _ _,Below.refl _ _,?_⟩
     intro o o' ho hc
     have R3:RpSt w b bw [] cT3 (W.putObj q o'):=hI.grown (grownBy_putObj' W q o') (fun r e=>by cases e;exact ⟨by omega,(fun D hD=>nomatch hD),o,ho,hc⟩)
     generalize W.putObj q o'=W2 at *
     clear hI ho hc
     have hk2:=HK.out W2 R3.below
     have d31:=hk2.cell (i:=31) (u:=.map (some V.mp)) rfl
     have hm:=hk2.r.pl
     rw [HV.out.pl] at hm
     have hlk:=zin (t:=105) (e:=167) Tryz.underlying105 hm 1 (zero167 W2) rfl
     have q0:=(cell_of_row W2 bw 0 _ _ _ R3.box).trans (by rfl:_=some (.pointer (some ⟨b,0,none⟩)))
     clear hk2 hm
     refine wpIn_block ?_
     refine wpIn_seq ?_
     refine zcl (by kernel_rfl) ?_
     go_wp2_with (with_reducible refine zas 167 ?_)
     have hba:=hB1 W2 (.cells #[.int .i64 0,.int .i64 0,.int .i64 0,.int .i64 0] 167)
     have k3:=hA1 W2 (.cells #[.int .i64 0,.int .i64 0,.int .i64 0,.int .i64 0] 167)
     unfold Stp
     refine wpList_store_row rfl 167 _ _ rfl W2.heap.size #[.int .i64 0,.int .i64 0,.int .i64 0,.int .i64 0] rfl rfl 167 _ k3 (by kernel_rfl) rfl (by kernel_rfl) ?_
     have hb4:Below W2.heap.size W2 ((W2.alloc (.cells #[.int .i64 0,.int .i64 0,.int .i64 0,.int .i64 0] 167)).setRow W2.heap.size #[.int .i64 0,.int .i64 0,.int .i64 0,.int .i64 0]):=below_setRow hba (Nat.le_refl _) _
     clear k3 hba hlk d31 q0
     go_wp2
     refine zab ?_
     generalize (W2.alloc (.cells #[.int .i64 0,.int .i64 0,.int .i64 0,.int .i64 0] 167)).setRow W2.heap.size #[.int .i64 0,.int .i64 0,.int .i64 0,.int .i64 0]=W3 at *
     have R4:=R3.keep hb4
     gi_wp2
     exact ⟨(by first | rfl | trivial),zc8 hb4,hb4.mono (by have:=R3.size;omega),R4⟩
   · cases hy
  case done =>
   rintro D1 W hD hI hK
   have R3:RpSt w b bw [D1] cT3 W:=RpSt.mark hI hK
   have hbD:bw≤D1:=by have:=R2.size;omega
   clear hI hK R2
   have q0:=(cell_of_row W bw 0 _ _ _ R3.box).trans (by rfl:_=some (.pointer (some ⟨b,0,none⟩)))
   have hdl:∀ D∈[D1],D<W.heap.size:=fun D hD=>lt_of_block (R3.ds D hD)
   go_wp2
   clear q0
   refine zk6 ?_
   refine zei (F:=Fence.wide) rfl (by omega) (gf:=60) (fb:=#[.pointer (some ⟨b,0,none⟩)]) rfl trivial (enters_of Tryz.func60 (by kernel_rfl) rfl)
    (HTG.out W R3.below) (Below.refl _ _) (fun _=>rfl) (fun h1 h2=>Below.trans h1 h2)
    (fun W q o o' hq ho hc=>(Below.refl bw W).grown (grownBy_putObj' W q o') (by have:=(Array.getElem?_eq_some_iff.1 ho).1;have:=R3.size;omega) (fun k e=>by cases e;have:=R3.size;omega))
    (fun k W=>RpSt w b bw [D1] cT3 W)
    (fun k W W' row hs hg hr=>hs.grown hg (fun r e=>⟨by have:=(hr r e).1;have:=R3.size;omega,fun D hD=>Nat.lt_of_lt_of_le (hdl D hD) (hr r e).1,(hr r e).2⟩))
    R3 ?round ?done
   case round =>
    rintro q k ⟨i,s⟩ W hq hy hI
    have hszr:=R3.size
    clear R3
    simp only [trEnc]
    gi_wp2
    refine ⟨KeepsFrom.refl _ _,Below.refl _ _,?_⟩
    intro o o' ho hc
    have R3:RpSt w b bw [D1] cT3 (W.putObj q o'):=hI.grown (grownBy_putObj' W q o') (fun r e=>by cases e;exact ⟨by omega,fun D hD=>Nat.lt_of_lt_of_le (hdl D hD) hq,o,ho,hc⟩)
    generalize W.putObj q o'=W2 at *
    clear hI ho hc
    have hk2:=HK.out W2 R3.below
    have d32:=hk2.cell (i:=32) (u:=.map (some V.mr)) rfl
    have hlk:=zin (t:=106) (e:=170) Tryz.underlying106 hk2.r.rn (i:Nat) (zero170 W2) rfl
    have q0:=(cell_of_row W2 bw 0 _ _ _ R3.box).trans (by rfl:_=some (.pointer (some ⟨b,0,none⟩)))
    clear hk2
    refine wpIn_block ?_
    refine wpIn_seq ?_
    refine zcl (by kernel_rfl) ?_
    go_wp2_with (with_reducible refine zas 170 ?_)
    have hba:=hB1 W2 (.cells #[.int .i64 0,.int .i64 0] 170)
    have k3:=hA1 W2 (.cells #[.int .i64 0,.int .i64 0] 170)
    unfold Stp
    refine wpList_store_row rfl 170 _ _ rfl W2.heap.size #[.int .i64 0,.int .i64 0] rfl rfl 170 _ k3 (by kernel_rfl) rfl (by kernel_rfl) ?_
    have hb4:Below W2.heap.size W2 ((W2.alloc (.cells #[.int .i64 0,.int .i64 0] 170)).setRow W2.heap.size #[.int .i64 0,.int .i64 0]):=below_setRow hba (Nat.le_refl _) _
    clear k3 hba hlk d32 q0
    go_wp2
    refine zab ?_
    generalize (W2.alloc (.cells #[.int .i64 0,.int .i64 0] 170)).setRow W2.heap.size #[.int .i64 0,.int .i64 0]=W3 at *
    have R4:=R3.keep hb4
    gi_wp2
    exact ⟨(by first | rfl | trivial),zc8 hb4,hb4.mono (by have:=R3.size;omega),R4⟩
   case done =>
    rintro D2 Wb hD hI hK
    have hltD2:D1<D2:=Nat.lt_of_lt_of_le (hdl _ List.mem_cons_self) hD
    have R5:RpSt w b bw (D2 :: [D1]) cT3 Wb:=RpSt.mark hI hK
    clear hI hK R3 hdl
    have q0:=(cell_of_row Wb bw 0 _ _ _ R5.box).trans (by rfl:_=some (.pointer (some ⟨b,0,none⟩)))
    have hdl:∀ D∈[D2,D1],D<Wb.heap.size:=fun D hD=>lt_of_block (R5.ds D hD)
    go_wp2
    clear q0
    refine zk6 ?_
    refine zei (F:=Fence.wide) rfl (by omega) (gf:=60) (fb:=#[.pointer (some ⟨b,0,none⟩)]) rfl trivial (enters_of Tryz.func60 (by kernel_rfl) rfl)
     (HTG.out Wb R5.below) (Below.refl _ _) (fun _=>rfl) (fun h1 h2=>Below.trans h1 h2)
     (fun W q o o' hq ho hc=>(Below.refl bw W).grown (grownBy_putObj' W q o') (by have:=(Array.getElem?_eq_some_iff.1 ho).1;have:=R5.size;omega) (fun k e=>by cases e;have:=R5.size;omega))
     (fun k W=>RpSt w b bw [D2,D1] cT3 W)
     (fun k W W' row hs hg hr=>hs.grown hg (fun r e=>⟨by have:=(hr r e).1;have:=R5.size;omega,fun D hD=>Nat.lt_of_lt_of_le (hdl D hD) (hr r e).1,(hr r e).2⟩))
     R5 ?round ?done
    case round =>
     rintro q k ⟨i,s⟩ W hq hy hI
     have hszr:=R5.size
     clear R5
     simp only [trEnc]
     gi_wp2
     refine ⟨KeepsFrom.refl _ _,Below.refl _ _,?_⟩
     intro o o' ho hc
     have R3:RpSt w b bw [D2,D1] cT3 (W.putObj q o'):=hI.grown (grownBy_putObj' W q o') (fun r e=>by cases e;exact ⟨by omega,fun D hD=>Nat.lt_of_lt_of_le (hdl D hD) hq,o,ho,hc⟩)
     generalize W.putObj q o'=W2 at *
     clear hI ho hc
     obtain ⟨z,hz0,hz⟩:∃ z:Int,0≤z∧zh9 V.h.plant.trains s=z:=by
      rw [HTR.out]
      rcases k with _ | _ | k
      · obtain ⟨_,rfl⟩:=Prod.mk.inj (Option.some.inj hy)
        exact ⟨0,by decide,by kernel_rfl⟩
      · obtain ⟨_,rfl⟩:=Prod.mk.inj (Option.some.inj hy)
        exact ⟨1,by decide,by kernel_rfl⟩
      · cases hy
     have MK:=masts_K W2 x b V (HK.out W2 R3.below) hS s z hz hz0 (by rw [HV.out.se];rfl)
     have q0:=(cell_of_row W2 bw 0 _ _ _ R3.box).trans (by rfl:_=some (.pointer (some ⟨b,0,none⟩)))
     clear hz hy
     refine wpIn_block ?_
     refine wpIn_seq ?_
     refine zcl (by kernel_rfl) ?_
     go_wp2_with (go_at_call 24;refine MK.mono ?_;rintro e W3 ⟨rfl,hb4⟩)
     refine zab ?_
     have R4:=R3.keep hb4
     clear MK q0
     gi_wp2
     exact ⟨(by first | rfl | trivial),zc8 hb4,hb4.mono (by have:=R3.size;omega),R4⟩
    case done =>
     rintro D3 Wc hD hI hK
     have hltD3:D2<D3:=Nat.lt_of_lt_of_le (hdl _ List.mem_cons_self) hD
     have R6:RpSt w b bw (D3 :: [D2,D1]) cT3 Wc:=RpSt.mark hI hK
     clear hI hK R5 hdl
     have hkw:=HK.out Wc R6.below
     have hbb:=hkw.r.wk
     rw [show V.works=[1] from HV.out.works] at hbb
     obtain ⟨Aw,nw,cw,hvw⟩:∃ A n c,V.wk=⟨A,n,c⟩:=⟨_,_,_,rfl⟩
     rw [hvw] at hbb
     obtain ⟨hn1,hown⟩:=hbb
     replace hn1:1=nw:=hn1
     subst hn1
     obtain ⟨g,off,rfl,hg,z0⟩:=((za7 (show Wc.ownsRow x 3 1 (.slice Aw 1 cw) 1 (zai [1]) from hown)).at_ (k:=0) (u:=.int .i64 1) rfl)
     have q35:Wc.cell? ⟨b,35,none⟩=some (.slice (some ⟨g,off,none⟩) 1 cw):=(hkw.cell (i:=35) (u:=V.wk.v) rfl).trans (by rw [hvw];rfl)
     have q0:=(cell_of_row Wc bw 0 _ _ _ R6.box).trans (by rfl:_=some (.pointer (some ⟨b,0,none⟩)))
     clear hkw hown hvw
     rw [Nat.add_zero] at z0
     go_wp2
     clear q0 q35
     go_loopw [131] (fun u wr=>(u=.int .i64 0∧wr=Wc)∨(u=.int .i64 1∧RpSt w b bw [D3,D2,D1] tx4 wr)) (fun u _=>1 - (intOf u).toNat)
     case atStart=>exact .inl ⟨rfl,rfl⟩
     case round =>
      rcases hrel with ⟨rfl,rfl⟩ | ⟨rfl,R9⟩
      · go_upto_region 30 with (fail)
        clear z0
        have hk0:=HK.out wr R6.below
        have hss:V.h.plant.ss=⟨some ⟨n+1,0,none⟩,3,3⟩:=by rw [HV.out.h];rfl
        have hsn:V.h.plant.secs=[⟨#[97]⟩,⟨#[98]⟩,⟨#[99]⟩]:=by rw [HV.out.h];rfl
        have qs:wr.cell? ⟨b,0,none⟩=some (.slice (some ⟨n+1,0,none⟩) 3 3):=(hk0.house 0 (u:=V.h.plant.ss.v) rfl).trans (by rw [hss];rfl)
        have hsr:=hk0.r.house.plant.secs.2
        rw [hss,hsn] at hsr
        obtain ⟨bq,oq,eq9,_,z1⟩:=hsr.at_ (k:=1) (u:=.string ⟨#[98]⟩) rfl
        cases eq9
        have q0:=(cell_of_row wr bw 0 _ _ _ R6.box).trans (by rfl:_=some (.pointer (some ⟨b,0,none⟩)))
        have q2:=(cell_of_row wr (bw+1+1) 0 _ _ _ R6.fn).trans (by rfl:_=some (.func (.func 54) #[] #[.pointer (some ⟨bw+1,0,none⟩)]))
        clear hk0 hss hsn hsr
        have xq0:=fun y:Xt wr=>y.cell q0
        have xq2:=fun y:Xt wr=>y.cell q2
        have xqs:=fun y:Xt wr=>y.cell qs
        have xz1:=fun y:Xt wr=>y.cell z1
        refine zak [11] (fun w'=>∃ y:Xt wr,w'=y.1) (by kernel_rfl) ⟨⟨wr.drew,(Below.refl _ _).drew⟩,rfl⟩ ?_
        refine zao [0,1,2,3,4,5,6,7,8,9] 2 rfl (by kernel_rfl) ?_
        simp only [zad,zac,zaa,zX1,zX2,zX3]
        repeat (go_big_quiet_step (fail))
        refine wpQuiet_nil ?_
        have hbd:Below wr.heap.size wr wr.drew:=(Below.refl _ _).drew
        show wpE _ _ _ _ _ _ _ _ _ wr.drew
        generalize wr.drew=wd at *
        clear xq0 xq2 xqs xz1 q0 q2 qs z1
        refine zan (i:=10) rfl (by kernel_rfl) rfl ?_
        unfold zar
        simp only [zad,zac,zaa,zX1,zX2,zX3]
        go_wp2
        have hbn:=hB1 wd (.cells #[.string ⟨#[119,111,114,107,115]⟩,.string ⟨#[98]⟩] 9)
        have kq:=hA1 wd (.cells #[.string ⟨#[119,111,114,107,115]⟩,.string ⟨#[98]⟩] 9)
        have hbf:=hbd.trans (hbn.mono hbd.size)
        refine zab ⟨⟨⟨_,hbf⟩,rfl⟩,?_⟩
        have LN:=R6.call hbf [⟨#[119,111,114,107,115]⟩,⟨#[98]⟩] 2 (zbq (cs:=#[.string ⟨#[119,111,114,107,115]⟩,.string ⟨#[98]⟩]) kq) rfl (by decide) tx4 (by decide +kernel) (by decide)
        clear hbn kq
        refine zau rfl (by kernel_rfl) ?_
        simp only [zad,zac,zaa,zX1,zX2,zX3]
        go_wp2_with (go_at_call 54;refine LN.mono ?_;rintro e w9 ⟨rfl,R9,hbL,hfL⟩)
        refine zab ?_
        go_wp2
        go_roundw
        case rel=>exact .inr ⟨rfl,R9⟩
        case measure=>simp [intOf]
      · clear z0 R6
        have hk0:=HK.out wr R9.below
        have q0:=(cell_of_row wr bw 0 _ _ _ R9.box).trans (by rfl:_=some (.pointer (some ⟨b,0,none⟩)))
        have q2:=(cell_of_row wr (bw+1+1) 0 _ _ _ R9.fn).trans (by rfl:_=some (.func (.func 54) #[] #[.pointer (some ⟨bw+1,0,none⟩)]))
        have q36:=hk0.cell (i:=36) (u:=.slice none 0 0) rfl
        clear hk0
        go_wp2
        clear q0 q2 q36
        go_loopw [153] (fun u wz=>u=.int .i64 0∧wz=wr) (fun _ _=>0)
        case atStart=>exact ⟨rfl,rfl⟩
        case round =>
         obtain ⟨rfl,rfl⟩:=hrel
         have hk0:=HK.out wr R9.below
         have q0:=(cell_of_row wr bw 0 _ _ _ R9.box).trans (by rfl:_=some (.pointer (some ⟨b,0,none⟩)))
         have q2:=(cell_of_row wr (bw+1+1) 0 _ _ _ R9.fn).trans (by rfl:_=some (.func (.func 54) #[] #[.pointer (some ⟨bw+1,0,none⟩)]))
         have q37:=hk0.cell (i:=37) (u:=.slice none 0 0) rfl
         clear hk0
         go_wp2
         clear q0 q2 q37
         go_loopw [168] (fun u wz=>u=.int .i64 0∧wz=wr) (fun _ _=>0)
         case atStart=>exact ⟨rfl,rfl⟩
         case round =>
          obtain ⟨rfl,rfl⟩:=hrel
          have SP:=String_fr (bw+1) (bw+1) tx4 wr R9.bld (by decide)
          rw [show (⟨tx4.toArray⟩:ByteArray)=ba tx4 from rfl] at SP
          go_wp2_with (go_at_call 64;refine SP.mono ?_;rintro e W9 ⟨rfl,hb9,hf9⟩)
          have RB:=R9.below.trans (hb9.mono (by omega))
          have hne:∀ D∈[D3,D2,D1],W9.heap[D]?=some (.deferred (some [])):=fun D hD=>hf9 _ _ (R9.ds D hD) (fun e=>by
           have h1:=R9.ds D hD
           rcases R9.bld with ⟨_,v,h2,_⟩ | ⟨_,v,h2,_⟩ <;> (rw [e,h2] at h1;cases h1)) (fun cs e=>by simp at e)
          have m1:=hne D1 (by simp)
          have m2:=hne D2 (by simp)
          have m3:=hne D3 (by simp)
          have hz:=Nat.le_trans R9.size hb9.size
          have z1:Below bw W9 (W9.putObj D3 (.deferred none)):=Below.grown (Below.refl bw W9) (grownBy_putObj' W9 D3 (.deferred none)) (by omega) (fun k e=>by cases e;omega)
          have z2:Below bw (W9.putObj D3 (.deferred none)) ((W9.putObj D3 (.deferred none)).putObj D2 (.deferred none)):=Below.grown (Below.refl bw _) (grownBy_putObj' _ D2 (.deferred none)) (by have:=z1.size;omega) (fun k e=>by cases e;omega)
          have z3:Below bw ((W9.putObj D3 (.deferred none)).putObj D2 (.deferred none)) (((W9.putObj D3 (.deferred none)).putObj D2 (.deferred none)).putObj D1 (.deferred none)):=Below.grown (Below.refl bw _) (grownBy_putObj' _ D1 (.deferred none)) (by have:=z1.size;have:=z2.size;omega) (fun k e=>by cases e;omega)
          have ZZ:=Lib.hid (RB.trans ((z1.trans z2).trans z3))
          clear z1 z2 z3 RB hz hb9 hf9 R9
          go_wp2
          refine ⟨by simp,.inl ⟨_,_,rfl,run_takeDeferred m3,?_⟩⟩
          refine ⟨by simp,.inl ⟨_,_,rfl,run_takeDeferred ((World.putObj_heap_other (by omega)).trans m2),?_⟩⟩
          refine ⟨by simp,.inl ⟨_,_,rfl,run_takeDeferred ((World.putObj_heap_other (by omega)).trans ((World.putObj_heap_other (by omega)).trans m1)),?_⟩⟩
          refine ⟨_,by simp [results,Tryz.results34,go_sem],rfl,?_⟩
          rw [HBW.out]
          exact ZZ.out
end Go.Proofs.YtoodbfkbbchjiaaGreatDoor
namespace Go.Proofs.YtoodbfkbbchjiaaGreatDoor
open Go.RowKit
theorem Report_K (w:World) (n:Nat) (A:Option Addr) (c:Nat) (hH:HouseAt w w.heap.size (hK n)) (hr:Rd w w.heap.size A (zbe logK)) (hT:CtAt w):Calls Tryz.prog 15 #[.agg (zah (hK n)).toArray,.slice A 4 c] w fun e w'=>e=.returned (.tuple #[.string (ba tx4),.int .i64 0])∧Below w.heap.size w w':=by
 have hb0:=hB1 w (.cells (zah (hK n)).toArray 45)
 have k0:=hA1 w (.cells (zah (hK n)).toArray 45)
 have AS:=asked44 _ (hK n) A 4 c 34 #[] (fun _ _=>by kernel_rfl) (Stage n 4) (StrP (ba tx4)) (hT.below hb0) (fun W hW=>open_K W n 4 (Nat.le_refl _) A c (((hH.keep hb0).mono hb0.size).keep hW |>.mono hW.size) (((hr.keep hb0).mono hb0.size).keep hW |>.mono hW.size) ((hT.below hb0).below hW)) (fun W x b V hW hV hB hC=>(report_K W x b n V hV hB hC.txt).mono fun e w' h=>⟨_,_,h.1,⟨rfl,rfl⟩,h.2⟩)
 have HB:=Lib.hid hb0
 have hs0:=hS1 w (.cells (zah (hK n)).toArray 45)
 clear hb0 hH hr hT
 go_enter Tryz.func15,Tryz.ntmps15
 go_upto_region 1 with (fail)
 generalize w.alloc (.cells (zah (hK n)).toArray 45)=w0 at *
 generalize hbw:w.heap.size=bw at *
 have HBW:=Lib.hid hbw
 clear hbw
 go_wp2_with (with_reducible refine zaw 45 ?_)
 unfold Stp
 refine wpList_load_row rfl 45 _ rfl bw rfl 45 _ (0,0) _ k0 Tryz.underlying45 rfl (by kernel_rfl) ?_
 go_wp2_with (go_at_call 33;refine AS.mono ?_;rintro e w1 ⟨v,E,rfl,⟨rfl,rfl⟩,hb1⟩)
 go_ret2
 exact ⟨rfl,by rw [HBW.out];exact HB.out.trans (hb1.mono (by omega))⟩
open Go.ChangeShapes Go.WideShapes Go.ChangeAt Go Go.Joins
theorem gPow:Tryz.prog.globalNamed "internal/strconv.uint64pow10" = some 2:=by kernel_rfl
theorem tPow:(Tryz.prog.globals[2]?).map (·.type)=some 405:=by kernel_rfl
theorem cells273:Tryz.prog.cellsOf 321=1:=by kernel_rfl
theorem cells359:Tryz.prog.cellsOf 405=20:=by kernel_rfl
theorem cells9k:Tryz.prog.cellsOf 9=1:=by kernel_rfl
theorem pow_tab:(Rows.laid_internal_strconv_uint64pow10:DataW Unit)=Lib.tabData .u64 Lib.pow10Tab:=by rfl
theorem gES:Tryz.prog.globalNamed "strconv.ErrSyntax" = some 5:=by kernel_rfl
theorem tES:(Tryz.prog.globals[5]?).map (·.type)=some 153:=by kernel_rfl
theorem gER:Tryz.prog.globalNamed "strconv.ErrRange" = some 6:=by kernel_rfl
theorem tER:(Tryz.prog.globals[6]?).map (·.type)=some 153:=by kernel_rfl
theorem gWd:Tryz.prog.globalNamed "guideway/lock.words" = some 0:=by kernel_rfl
theorem tWd:(Tryz.prog.globals[0]?).map (·.type)=some 381:=by kernel_rfl
theorem cells376:Tryz.prog.cellsOf 381=7:=by kernel_rfl
theorem cells492:Tryz.prog.cellsOf 503=1:=by kernel_rfl
theorem starZ : "*" ++ "errors.errorString" = "*errors.errorString":=by decide
theorem row490 (u:TypeId) (h:Tryz.prog.typeName? 3 u=some "*errors.errorString"):u=501:=
 typeName_ptr_named (nm:="errors.errorString") (by rw [starZ];kernel_rfl) (by kernel_rfl) (by decide) u (by rw [starZ];exact h)
theorem zk9 {W:World} {rest:List (String × DataW Unit)} (h:laidMet Tryz.prog (("guideway/lock.words",Rows.laid_guideway_lock_words) :: rest) W):∀ (k:Nat) (s:ByteArray),zjo[k]?=some s→W.cell? ⟨0,k,none⟩=some (.string s):=by
 obtain ⟨ps,⟨g,t,cs,fuel,p,q,hg,ht,hv,hd,_,_⟩,_⟩:=h
 obtain rfl:=Option.some.inj (gWd.symm.trans hg)
 obtain rfl:=Option.some.inj (tWd.symm.trans ht)
 obtain ⟨xs,m,_,hx,hl,hlen,hel⟩:=DataW.trod_array Tryz.underlying381 hd
 rw [cells376] at hl
 simp only [Prod.mk.injEq] at hx
 have hx1:=hx.1
 unfold Rows.laid_guideway_lock_words at hx1
 simp only [DataW.agg.injEq] at hx1
 rw [cells9k] at hel
 have row:∀ (i:Nat) (s:List UInt8),i<7→(xs.map (·.1))[i]?=some (.lit (.string s))→cs.toList[i]?=some (.string ⟨s.toArray⟩):=by
  intro i s hi hm
  have h1:=hel i hi
  rw [List.getElem?_map] at hm
  cases hy:xs[i]? with
  | none=>rw [hy] at hm;simp at hm
  | some y =>
   rw [hy] at hm h1
   obtain ⟨z,p1⟩:=y
   simp only [Option.map_some,Option.some.injEq] at hm
   subst hm
   rw [Nat.mul_one] at h1
   have hil:i<cs.toList.length:=by omega
   have e:(cs.toList.drop i).take 1=[cs.toList[i]]:=by rw [List.drop_eq_getElem_cons hil];rfl
   rw [e] at h1
   rw [List.getElem?_eq_getElem hil]
   generalize cs.toList[i]=c at h1
   have k0:c=.string ⟨s.toArray⟩:=by
    cases m with
    | zero=>simp [DataW.trod] at h1
    | succ m =>
     cases c <;> simp [DataW.trod,Tryz.underlying9] at h1
     obtain ⟨_,hs,_⟩:=h1
     simp [← hs]
   rw [k0]
 rw [← hx1] at row
 intro k s hk
 rw [World.var?_cell gWd hv k,← Array.getElem?_toList]
 match k,hk with
 | 0,hk=>obtain rfl:=Option.some.inj hk;exact row 0 _ (by decide) rfl
 | 1,hk=>obtain rfl:=Option.some.inj hk;exact row 1 _ (by decide) rfl
 | 2,hk=>obtain rfl:=Option.some.inj hk;exact row 2 _ (by decide) rfl
 | 3,hk=>obtain rfl:=Option.some.inj hk;exact row 3 _ (by decide) rfl
 | 4,hk=>obtain rfl:=Option.some.inj hk;exact row 4 _ (by decide) rfl
 | 5,hk=>obtain rfl:=Option.some.inj hk;exact row 5 _ (by decide) rfl
 | 6,hk=>obtain rfl:=Option.some.inj hk;exact row 6 _ (by decide) rfl
theorem laidC_eq:Rows.centreRadioRow.laid=[("math/bits.deBruijn32tab",Rows.laid_math_bits_deBruijn32tab),("math/bits.deBruijn64tab",Rows.laid_math_bits_deBruijn64tab),("internal/strconv.uint64pow10",Rows.laid_internal_strconv_uint64pow10),("unicode/utf8.acceptRanges",Rows.laid_unicode_utf8_acceptRanges),("strconv.ErrRange",Rows.laid_strconv_ErrRange),("strconv.ErrSyntax",Rows.laid_strconv_ErrSyntax),("guideway/lock.words",Rows.laid_guideway_lock_words),("unicode/utf8.first",Rows.laid_unicode_utf8_first)]:=rfl
theorem ctC {W:World} (h:laidMetH Tryz.prog Rows.centreRadioRow.laid W) (hs:W.ShapedOpen Tryz.prog):CtAt W:=by
 have hp:=laidH_iff.1 h
 rw [laidC_eq] at hp
 have h1:=hp.tail.tail
 have h2:=hp.tail.tail.tail.tail
 have h3:=hp.tail.tail.tail.tail.tail
 have h4:=hp.tail.tail.tail.tail.tail.tail
 rw [pow_tab] at h1
 obtain ⟨a0,s0,hv0,-,-,-⟩:=laid_sentinel h3 gES tES Tryz.underlying153 row490 Tryz.underlying501 Tryz.underlying503 rfl rfl Tryz.underlying9 cells492 cells9k
 obtain ⟨a1,s1,hv1,-,-,-⟩:=laid_sentinel h2 gER tER Tryz.underlying153 row490 Tryz.underlying501 Tryz.underlying503 rfl rfl Tryz.underlying9 cells492 cells9k
 exact ⟨⟨Lib.tabIs_of_head gPow tPow Tryz.underlying405 Tryz.underlying321 cells273 cells359 h1,⟨_,_,by have h0:=World.var?_cell gES hv0 0;simpa using h0⟩,⟨_,_,by have h0:=World.var?_cell gER hv1 0;simpa using h0⟩,Tryz.laysM145.s1_3 W hs⟩,zk9 h4⟩
end Go.Proofs.YtoodbfkbbchjiaaGreatDoor
namespace Go.Proofs.YtoodbfkbbchjiaaGreatDoor
open Go.ChangeShapes Go.WideShapes Go.Deep Go.RowKit Go Go.Joins
theorem zkv:∀ l:List Bool,l.flatMap (fun b:Bool=>[Value.bool b])=l.map .bool
 | []=>rfl
 | b :: l=>by rw [List.flatMap_cons,zkv l];rfl
theorem ofc46:Tryz.prog.cellsOf 46=1:=by kernel_rfl
theorem ofc48:Tryz.prog.cellsOf 48=3:=by kernel_rfl
section
variable {H:Type} {enc:TypeId × Value→H} {w:World} {base:Nat} {spare:Nat→Bool} {held:Bool}
theorem open_bools {fuel:Nat} {cs:List Value} {x:DataW H × List MemPlace} (h:DataW.trod enc Tryz.prog w base spare held fuel 46 cs=some x) :
 ∃ A n c,∃ l:List Bool,cs=[.slice A n c]∧l.length=n∧Rd w w.heap.size A (l.map .bool):=by
 obtain ⟨A,n,c,l,rfl,h2,h3,h4,_⟩:=zcf (P:=Tryz.prog) (k:=1) (fun _=>True) (fun b:Bool=>[Value.bool b]) Tryz.underlying46 ofc4 (fun _=>rfl) (fun n cs' y hy=>by
  obtain ⟨b,hb,_⟩:=DataW.trod_bool Tryz.underlying4 hy
  exact ⟨b,hb,trivial⟩) h
 refine ⟨A,n,c,l,rfl,h2,?_⟩
 rw [← zkv]
 exact h4
theorem open_wy {n:Nat} {cs:List Value} {y:DataW H × List MemPlace} (h:DataW.trod enc Tryz.prog w base spare held n 48 cs=some y):∃ (a b:Int) (A:Option Addr) (m c:Nat) (l:List Bool),cs=[.int .i64 a,.int .i64 b,.slice A m c]∧l.length=m∧Rd w w.heap.size A (l.map .bool):=by
 obtain ⟨xs,n,_,_,hl,hlen,hf⟩:=DataW.trod_struct Tryz.underlying48 h
 match xs,hlen with
 | [y0,y1,y2],_ =>
  rw [ofc48] at hl
  match cs,hl with
  | [c0,c1,c2],_ =>
   have h0:DataW.trod enc Tryz.prog w base spare held n 3 (([c0,c1,c2].drop 0).take (Tryz.prog.cellsOf 3))=some y0:=hf 0 _ rfl
   rw [zf9] at h0
   have h1:DataW.trod enc Tryz.prog w base spare held n 3 (([c0,c1,c2].drop 1).take (Tryz.prog.cellsOf 3))=some y1:=hf 1 _ rfl
   rw [zf9] at h1
   have h2:DataW.trod enc Tryz.prog w base spare held n 46 (([c0,c1,c2].drop 2).take (Tryz.prog.cellsOf 46))=some y2:=hf 2 _ rfl
   rw [ofc46] at h2
   simp only [List.drop_zero,List.take_succ_cons,List.take_zero,List.drop_succ_cons] at h0 h1 h2
   obtain ⟨a,e0,_⟩:=DataW.trod_int Tryz.underlying3 h0
   obtain ⟨b,e1,_⟩:=DataW.trod_int Tryz.underlying3 h1
   obtain ⟨A,m,c,l,e2,hl2,hr2⟩:=open_bools h2
   simp only [List.cons.injEq,and_true] at e0
   simp only [List.cons.injEq,and_true] at e1
   simp only [List.cons.injEq,and_true] at e2
   subst e0
   subst e1
   subst e2
   exact ⟨a,b,A,m,c,l,rfl,hl2,hr2⟩
theorem open_way {r:Reach} {b0:Nat} {v:Value} {d:DataW H} {p:List MemPlace} (hv:Value.okWide Tryz.prog w r b0 48 v) (h:DataW.Trod enc Tryz.prog w base spare held 48 v d p) :
 ∃ (a b:Int) (A:Option Addr) (m c:Nat) (l:List Bool),v=.agg #[.int .i64 a,.int .i64 b,.slice A m c]∧l.length=m∧Rd w w.heap.size A (l.map .bool):=by
 obtain ⟨cs,rfl,hsz⟩:=okWide_struct Tryz.underlying48 hv
 obtain ⟨fuel,hf0⟩:=h
 obtain ⟨a,b,A,m,c,l,e,h1,h2⟩:=open_wy (cs:=cs.toList) (by simpa [Value.cells] using hf0)
 exact ⟨a,b,A,m,c,l,by rw [show cs=#[.int .i64 a,.int .i64 b,.slice A m c] from by apply Array.toList_inj.1;exact e],h1,h2⟩
end
end Go.Proofs.YtoodbfkbbchjiaaGreatDoor
