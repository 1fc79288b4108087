import Derived.Test.YtfdmeojcopkaoaaGreatDoorf3B1
import Derived.Test.YtfdmeojcopkaoaaGreatDoorf3K3
import Derived.Test.YtfdmeojcopkaoaaGreatDoorf3M5
import Derived.Test.YtfdmeojcopkaoaaGreatDoorf3A4
import Derived.Test.YtfdmeojcopkaoaaGreatDoorf3X10
set_option maxRecDepth 100000
set_option maxHeartbeats 16000000
namespace Go.Proofs.YtfdmeojcopkaoaaGreatDoor
open Go.RowKit
theorem zct {w w':World} {B e size n:Nat} {v:Value} {xs:List Value} (h:w.ownsRow B e size v n xs) (hg:w.grownBy w' v.ownBlock) {k:Nat} {o:Obj} (hk:w.heap[k]?=some o) (ho:∀ cur,o≠.cells cur e (0,0)):w'.heap[k]?=some o:=by
 have hlt:k<w.heap.size:=by
  rcases Nat.lt_or_ge k w.heap.size with h' | h'
  · exact h'
  · rw [Array.getElem?_eq_none h'] at hk;cases hk
 refine (hg.block k hlt fun he=>?_).trans hk
 obtain ⟨_,_,cur,hc⟩:=zbf h he.symm
 rw [hc] at hk
 exact ho cur (Option.some.inj hk).symm
theorem BkAt.other {w w':World} {x b:Nat} {V:BookV} (h:BkAt w x b V) (hx:Below x w w')
 (hk:∀ (k:Nat) (o:Obj),w.heap[k]?=some o→((∃ m c,o=.map m c)∨∃ cs t,(t=3∨t=219∨t=64∨t=141)∧o=.cells cs t (0,0))→w'.heap[k]?=some o):BkAt w' x b V:=
 ⟨hk _ _ h.blk (.inr ⟨_,_,.inr (.inr (.inr rfl)),rfl⟩),h.xb,⟨h.log.1,zbj h.log.2 fun k cur hc=>(hk k _ hc (.inr ⟨cur,64,.inr (.inr (.inl rfl)),rfl⟩)).trans hc.symm⟩,
   h.r.but hx fun k o hko ho=>hk k o hko (ho.imp id fun ⟨cs,t,ht,e⟩=>⟨cs,t,ht.elim .inl (fun h=>.inr (.inl h)),e⟩)⟩
theorem run_chan (w:World):(Instr.makeChan 222 (.int .i64 0)).run Tryz.prog w=.ok (.chan (some w.heap.size)) (w.alloc (.chan 0 #[] false 0 0 false)):=by kernel_rfl
theorem info222s:(Tryz.prog.info? 222).map (fun i=>(i.zero,i.size,i.bytes))=some (some (.chan none),1,8):=by kernel_rfl
def Xk (B b:Nat) (w:World):={ w':World // Below B w w'∧w'.heap[b]?=w.heap[b]? }
instance xkNonempty (B b:Nat) (w:World):Nonempty (Xk B b w):=⟨⟨w,Below.refl _ _,rfl⟩⟩
theorem zbw {w w':World} {b i:Nat} (h:w'.heap[b]?=w.heap[b]?):w'.cell? ⟨b,i,none⟩=w.cell? ⟨b,i,none⟩:=by
 simp only [World.cell?,h]
def BgRel (bw bk n:Nat) (V:BookV) (w:World) (u:Value) (wr:World):Prop:=
 ∃ (k:Nat) (A:Option Addr) (c:Nat) (msl:List Value),k≤n∧u=.int .i64 k∧BkAt wr bw bk { V with ms:=⟨A,k,c⟩ }∧wr.ownsRow bw 222 1 (.slice A k c) k msl∧Below bw w wr
def BeginPost (w:World) (h:HouseV) (e:Ending) (w':World):Prop:=
 ∃ (b:Nat) (V:BookV),e=.returned (.pointer (some ⟨b,0,none⟩))∧BkAt w' w.heap.size b V∧Below w.heap.size w w'∧V.h=h∧V.lg=⟨none,0,0⟩∧V.log=[]∧V.day=0∧V.q.sws=List.replicate h.plant.ws.n 0∧V.q.trs=List.replicate h.plant.ts.n ⟨⟨none,0,0⟩,[],0⟩∧V.q.ctr=0∧V.pl=none∧V.wk=⟨none,0,0⟩∧V.works=[]
theorem begin_any (w:World) (B:Nat) (h:HouseV) (H:HouseAt w B h) (hS:HouseS h) (h0:zch h.plant=0) (hB:B≤w.heap.size):Calls Tryz.prog 112 #[.agg (zaq h).toArray] w (BeginPost w h):=by
 obtain ⟨v0,v1,v2,v3,v4,v5,v6,v7,v8,v9,v10,v11,v12,v13,v14,v15,v16,v17,v18,v19,v20,v21,v22,v23,v24,hve⟩:∃ v0 v1 v2 v3 v4 v5 v6 v7 v8 v9 v10 v11 v12 v13 v14 v15 v16 v17 v18 v19 v20 v21 v22 v23 v24,zaq h=[v0,v1,v2,v3,v4,v5,v6,v7,v8,v9,v10,v11,v12,v13,v14,v15,v16,v17,v18,v19,v20,v21,v22,v23,v24]:=⟨_,_,_,_,_,_,_,_,_,_,_,_,_,_,_,_,_,_,_,_,_,_,_,_,_,rfl⟩
 have HVE:=Lib.hid hve
 rw [hve]
 clear hve
 show Calls Tryz.prog 112 #[.agg #[v0,v1,v2,v3,v4,v5,v6,v7,v8,v9,v10,v11,v12,v13,v14,v15,v16,v17,v18,v19,v20,v21,v22,v23,v24]] w _
 have k0:=hA1 w (.cells #[v0,v1,v2,v3,v4,v5,v6,v7,v8,v9,v10,v11,v12,v13,v14,v15,v16,v17,v18,v19,v20,v21,v22,v23,v24] 45)
 have hb0:=hB1 w (.cells #[v0,v1,v2,v3,v4,v5,v6,v7,v8,v9,v10,v11,v12,v13,v14,v15,v16,v17,v18,v19,v20,v21,v22,v23,v24] 45)
 have HH:=Lib.hid (show ∀ W,Below w.heap.size w W→HouseAt W B h from fun W hW=>H.keep hW)
 have hs0:w.heap.size+1=(w.alloc (.cells #[v0,v1,v2,v3,v4,v5,v6,v7,v8,v9,v10,v11,v12,v13,v14,v15,v16,v17,v18,v19,v20,v21,v22,v23,v24] 45)).heap.size:=by simp
 have HB:=Lib.hid hb0
 have hmm:=@run_makeMap Tryz.prog
 clear hb0 H
 go_enter Tryz.func112,Tryz.ntmps112
 go_upto_region 1 with (fail)
 generalize w.alloc (.cells #[v0,v1,v2,v3,v4,v5,v6,v7,v8,v9,v10,v11,v12,v13,v14,v15,v16,v17,v18,v19,v20,v21,v22,v23,v24] 45)=w0 at *
 generalize hbw:w.heap.size=bw at *
 have HBW:=Lib.hid hbw
 clear hbw
 go_wp2_with (with_reducible refine zaz 45 ?_)
 unfold Stp
 refine wpList_load_row rfl 45 _ rfl bw rfl 45 _ (0,0) _ k0 Tryz.underlying45 rfl (by kernel_rfl) ?_
 have HS0:=Lib.hid hs0
 clear hs0
 go_upto_region 2 with (fail)
 clear hmm
 have hbA:Below w0.heap.size w0 ((((w0.alloc (.map #[] 0)).alloc (.map #[] 0)).alloc (.map #[] 0)).alloc (.cells #[v0,v1,v2,v3,v4,v5,v6,v7,v8,v9,v10,v11,v12,v13,v14,v15,v16,v17,v18,v19,v20,v21,v22,v23,v24,.slice none 0 0,.int .i64 0,.slice none 0 0,.slice none 0 0,.int .i64 0,.slice none 0 0,.map (some w0.heap.size),.map (some (w0.heap.size+1)),.slice none 0 0,.map (some (w0.heap.size+1+1)),.slice none 0 0,.slice none 0 0,.slice none 0 0] 141)):=((((Below.refl _ _).alloc (Nat.le_refl _) _).alloc (by simp) _).alloc (by simp;omega) _).alloc (by simp;omega) _
 have m0:((((w0.alloc (.map #[] 0)).alloc (.map #[] 0)).alloc (.map #[] 0)).alloc (.cells #[v0,v1,v2,v3,v4,v5,v6,v7,v8,v9,v10,v11,v12,v13,v14,v15,v16,v17,v18,v19,v20,v21,v22,v23,v24,.slice none 0 0,.int .i64 0,.slice none 0 0,.slice none 0 0,.int .i64 0,.slice none 0 0,.map (some w0.heap.size),.map (some (w0.heap.size+1)),.slice none 0 0,.map (some (w0.heap.size+1+1)),.slice none 0 0,.slice none 0 0,.slice none 0 0] 141)).heap[w0.heap.size]?=some (.map #[] 0):=by rw [zae,if_neg (by simp;omega),zae,if_neg (by simp;omega),zae,if_neg (by simp),zae,if_pos rfl]
 have m1:((((w0.alloc (.map #[] 0)).alloc (.map #[] 0)).alloc (.map #[] 0)).alloc (.cells #[v0,v1,v2,v3,v4,v5,v6,v7,v8,v9,v10,v11,v12,v13,v14,v15,v16,v17,v18,v19,v20,v21,v22,v23,v24,.slice none 0 0,.int .i64 0,.slice none 0 0,.slice none 0 0,.int .i64 0,.slice none 0 0,.map (some w0.heap.size),.map (some (w0.heap.size+1)),.slice none 0 0,.map (some (w0.heap.size+1+1)),.slice none 0 0,.slice none 0 0,.slice none 0 0] 141)).heap[w0.heap.size+1]?=some (.map #[] 0):=by rw [zae,if_neg (by simp),zae,if_neg (by simp),zae,if_pos (by simp)]
 have m2:((((w0.alloc (.map #[] 0)).alloc (.map #[] 0)).alloc (.map #[] 0)).alloc (.cells #[v0,v1,v2,v3,v4,v5,v6,v7,v8,v9,v10,v11,v12,v13,v14,v15,v16,v17,v18,v19,v20,v21,v22,v23,v24,.slice none 0 0,.int .i64 0,.slice none 0 0,.slice none 0 0,.int .i64 0,.slice none 0 0,.map (some w0.heap.size),.map (some (w0.heap.size+1)),.slice none 0 0,.map (some (w0.heap.size+1+1)),.slice none 0 0,.slice none 0 0,.slice none 0 0] 141)).heap[w0.heap.size+1+1]?=some (.map #[] 0):=by rw [zae,if_neg (by simp),zae,if_pos (by simp)]
 have m3:((((w0.alloc (.map #[] 0)).alloc (.map #[] 0)).alloc (.map #[] 0)).alloc (.cells #[v0,v1,v2,v3,v4,v5,v6,v7,v8,v9,v10,v11,v12,v13,v14,v15,v16,v17,v18,v19,v20,v21,v22,v23,v24,.slice none 0 0,.int .i64 0,.slice none 0 0,.slice none 0 0,.int .i64 0,.slice none 0 0,.map (some w0.heap.size),.map (some (w0.heap.size+1)),.slice none 0 0,.map (some (w0.heap.size+1+1)),.slice none 0 0,.slice none 0 0,.slice none 0 0] 141)).heap[w0.heap.size+1+1+1]?=some (.cells #[v0,v1,v2,v3,v4,v5,v6,v7,v8,v9,v10,v11,v12,v13,v14,v15,v16,v17,v18,v19,v20,v21,v22,v23,v24,.slice none 0 0,.int .i64 0,.slice none 0 0,.slice none 0 0,.int .i64 0,.slice none 0 0,.map (some w0.heap.size),.map (some (w0.heap.size+1)),.slice none 0 0,.map (some (w0.heap.size+1+1)),.slice none 0 0,.slice none 0 0,.slice none 0 0] 141 (0,0)):=by rw [zae,if_pos (by simp)]
 have hk0:=zcd hbA k0
 generalize (((w0.alloc (.map #[] 0)).alloc (.map #[] 0)).alloc (.map #[] 0)).alloc (.cells #[v0,v1,v2,v3,v4,v5,v6,v7,v8,v9,v10,v11,v12,v13,v14,v15,v16,v17,v18,v19,v20,v21,v22,v23,v24,.slice none 0 0,.int .i64 0,.slice none 0 0,.slice none 0 0,.int .i64 0,.slice none 0 0,.map (some w0.heap.size),.map (some (w0.heap.size+1)),.slice none 0 0,.map (some (w0.heap.size+1+1)),.slice none 0 0,.slice none 0 0,.slice none 0 0] 141)=w1 at *
 generalize hmz:w0.heap.size=mz at *
 have hmz1:bw+1=mz:=by rw [← HS0.out]
 clear hmz
 have HBA:=Lib.hid (HB.out.trans (hbA.mono (by omega)))
 have B0:BkAt w1 bw (mz+1+1+1) ⟨h,⟨none,0,0⟩,[],0,⟨⟨none,0,0⟩,[],⟨none,0,0⟩,[],0⟩,mz,none,mz+1,⟨none,0,0⟩,mz+1+1,⟨none,0,0⟩,[]⟩:=
  ⟨by rw [m3,za3,HVE.out];rfl,by omega,⟨rfl,rfl,.inl ⟨rfl,rfl⟩⟩,⟨(HH.out w1 HBA.out).mono hB,⟨⟨rfl,.inl ⟨rfl,rfl⟩⟩,⟨rfl,.inl ⟨rfl,rfl⟩⟩,fun t ht=>absurd ht (by simp),rfl,rfl⟩,m0,m1,m2,⟨by show bw≤mz;omega,by show bw≤mz+1;omega,by show bw≤mz+1+1;omega,by show mz≠mz+1;omega,by show mz≠mz+1+1;omega⟩,rfl,rfl,.inl ⟨rfl,rfl⟩⟩⟩
 have hpv:zan h.plant=[v0,v1,v2,v3]:=congrArg (List.take 4) HVE.out
 have hmv:h.ms.v=v23:=Option.some.inj (congrArg (fun l=>l[23]?) HVE.out)
 have LB:=lkBegin_any w1 B h.plant (HH.out w1 HBA.out).plant hS.plant h0 (by have:=B0.lt;omega)
 rw [hpv] at LB
 have d0:=(cell_of_row w1 bw 0 _ _ _ hk0).trans (by rfl:_=some v0)
 have d1:=(cell_of_row w1 bw 1 _ _ _ hk0).trans (by rfl:_=some v1)
 have d2:=(cell_of_row w1 bw 2 _ _ _ hk0).trans (by rfl:_=some v2)
 have d3:=(cell_of_row w1 bw 3 _ _ _ hk0).trans (by rfl:_=some v3)
 have HB0:=Lib.hid B0
 clear m0 m1 m2 m3 B0 hpv
 go_wp2_with (first | (go_at_call 144;refine LB.mono ?_;rintro e w2 ⟨q,hq1,hq2,hq3,rfl,hO,hb2⟩) | (with_reducible refine zat 133 ?_))
 unfold Stp
 have B2:=HB0.out.keep hb2
 refine zbi rfl 133 _ _ rfl (mz+1+1+1) 27 (za7 q).toArray rfl rfl 141 _ (za3 ⟨h,⟨none,0,0⟩,[],0,q,mz,none,mz+1,⟨none,0,0⟩,mz+1+1,⟨none,0,0⟩,[]⟩).toArray B2.blk (by kernel_rfl) (by show 27+3≤38;omega) (by kernel_rfl) rfl ?_
 have hsz2:=hb2.size
 have hl1:=HB0.out.lt
 have B3:=B2.put (V':=⟨h,⟨none,0,0⟩,[],0,q,mz,none,mz+1,⟨none,0,0⟩,mz+1+1,⟨none,0,0⟩,[]⟩) ⟨B2.r.house,hO.base (by omega),B2.r.pl,B2.r.rn,B2.r.se,B2.r.ne,B2.r.wk⟩ B2.log
 have HB3:=Lib.hid (below_setRow (HBA.out.trans (hb2.mono (by omega))) (show bw≤mz+1+1+1 by omega) (za3 ⟨h,⟨none,0,0⟩,[],0,q,mz,none,mz+1,⟨none,0,0⟩,mz+1+1,⟨none,0,0⟩,[]⟩).toArray)
 have hk3:=(HB3.out.block bw)
 have k3x:(w2.setRow (mz+1+1+1) (za3 ⟨h,⟨none,0,0⟩,[],0,q,mz,none,mz+1,⟨none,0,0⟩,mz+1+1,⟨none,0,0⟩,[]⟩).toArray).heap[bw]?=some (.cells #[v0,v1,v2,v3,v4,v5,v6,v7,v8,v9,v10,v11,v12,v13,v14,v15,v16,v17,v18,v19,v20,v21,v22,v23,v24] 45 (0,0)):=by
  rw [setRow_other _ _ _ _ (by omega)]
  exact zcd hb2 hk0
 clear B2 hO LB hb2 hk3 d0 d1 d2 d3 hk0 k0
 generalize w2.setRow (mz+1+1+1) (za3 ⟨h,⟨none,0,0⟩,[],0,q,mz,none,mz+1,⟨none,0,0⟩,mz+1+1,⟨none,0,0⟩,[]⟩).toArray=w3 at *
 obtain ⟨n,hn⟩:∃ n,h.ms.n=n:=⟨_,rfl⟩
 have hn9:n≤1000:=by rw [← hn,← (HH.out w3 HB3.out).masts.1];exact hS.masts.1
 have d23:=(cell_of_row w3 bw 23 _ _ _ k3x).trans (by rfl:_=some v23)
 rw [← hmv] at d23
 simp only [SlV.v,hn] at d23
 have HQ:=Lib.hid (And.intro hq1 (And.intro hq2 hq3))
 have hrc:=run_chan
 obtain ⟨i1,hi1,hy0,hy1,hy2⟩:=info_parts info222s
 clear hn hmv k3x hq1 hq2 hq3 hl1
 generalize hbk:mz+1+1+1=bk at *
 have hbk1:bw≤bk:=by omega
 have HBK:=Lib.hid hbk
 clear hbk
 go_wp2
 go_loopw [22] (fun u22 wr=>BgRel bw bk n ⟨h,⟨none,0,0⟩,[],0,q,mz,none,mz+1,⟨none,0,0⟩,mz+1+1,⟨none,0,0⟩,[]⟩ w u22 wr) (fun u22 _=>n - (intOf u22).toNat)
 case atStart=>exact ⟨0,none,0,[],Nat.zero_le _,rfl,B3,⟨rfl,.inl ⟨rfl,rfl⟩⟩,HB3.out⟩
 case round =>
  clear d23 B3
  obtain ⟨k,A,c,msl,hk,rfl,hbk,hown,hb⟩:=hrel
  by_cases hlt:k<n
  · have d33:=hbk.cell (i:=33) (u:=.slice A k c) rfl
    have HBK2:=Lib.hid hbk
    have HOWN:=Lib.hid hown
    have HBR:=Lib.hid hb
    clear hbk hown hb
    go_upto_region 5 with (fail)
    have x1:=fun y:Xk bw bk wr=>(zbw y.2.2).trans d33
    refine zaj [8,9,10] (fun w'=>∃ y:Xk bw bk wr,w'=y.1) (by kernel_rfl) ⟨⟨wr.drew,⟨(Below.refl _ _).drew,rfl⟩⟩,rfl⟩ ?_
    refine zao [0,1,2,3,4] 6 rfl (by kernel_rfl) ?_
    simp only [zad,zac,zaa,zX1,zX2,zX3]
    repeat (go_big_quiet_step (fail))
    refine wpQuiet_nil ?_
    have hbd:Below wr.heap.size wr wr.drew:=(Below.refl _ _).drew
    show wpE _ _ _ _ _ _ _ _ _ wr.drew
    generalize wr.drew=wd at *
    clear x1 d33
    have hE0:Below bw wr wd∧wd.heap[bk]?=wr.heap[bk]?:=⟨hbd.mono (Nat.le_trans hbk1 (Nat.le_of_lt HBK2.out.lt)),hbd.block bk HBK2.out.lt⟩
    have hltk:=HBK2.out.lt
    have hsd:=hbd.size
    have hE1:Below bw wr (wd.alloc (.chan 0 #[] false 0 0 false))∧(wd.alloc (.chan 0 #[] false 0 0 false)).heap[bk]?=wr.heap[bk]?:=⟨hE0.1.alloc (by omega) _,by rw [zae,if_neg (by omega)];exact hE0.2⟩
    have hs1:wd.heap.size+1=(wd.alloc (.chan 0 #[] false 0 0 false)).heap.size:=by simp
    refine zak (i:=5) rfl (by kernel_rfl) rfl ?_
    unfold zap
    simp only [zad,zac,zaa,zX1,zX2,zX3]
    go_wp2
    refine zab ⟨⟨⟨_,hE1⟩,rfl⟩,?_⟩
    have hba:Below wr.heap.size wr (wd.alloc (.chan 0 #[] false 0 0 false)):=hbd.alloc hsd _
    clear hrc
    generalize wd.alloc (.chan 0 #[] false 0 0 false)=we at *
    generalize wd.heap.size=cz at *
    have hE2:Below bw wr (we.alloc (.cells #[.chan (some cz)] 222))∧(we.alloc (.cells #[.chan (some cz)] 222)).heap[bk]?=wr.heap[bk]?:=⟨hE1.1.alloc (by omega) _,by rw [zae,if_neg (by omega)];exact hE1.2⟩
    refine zak (i:=6) rfl (by kernel_rfl) rfl ?_
    unfold zap
    simp only [zad,zac,zaa,zX1,zX2,zX3]
    go_wp2
    refine zab ⟨⟨⟨_,hE2⟩,rfl⟩,?_⟩
    refine zak (i:=7) rfl (by kernel_rfl) rfl ?_
    unfold zap
    simp only [zad,zac,zaa,zX1,zX2,zX3]
    have hown1:=zag HOWN.out hba
    refine wpList_append_lies _ rfl _ _ 137 rfl bw 222 i1 _ 1 8 Tryz.underlying137 hi1 hy0 hy1 hy2 rfl (by omega) (.slice A k c) k _ rfl (hown1.alloc _) ⟨we.heap.size,0,none⟩ 1 1 [.chan (some cz)] rfl rfl (zey (by simp)) (by simp [Value.oneCell']) (by omega) (by simp only [maxLen];omega) (by omega) (by simp;omega) _ rfl ?_
    intro gg cap w6 hown6 hgrow6 _ _
    have hB6:=HBK2.out.keep (hba.alloc (Nat.le_of_lt_succ (Nat.lt_succ_of_le (by have:=hba.size;omega))) (.cells #[.chan (some cz)] 222))
    have hB7:BkAt w6 bw bk _:=hB6.other (w':=w6) ((Below.refl _ _).grown hgrow6 (by simp;omega) (fun j hj=>(zbf (hown1.alloc (.cells #[.chan (some cz)] 222)) hj).1)) (fun k' o hko ho=>zct (hown1.alloc (.cells #[.chan (some cz)] 222)) hgrow6 hko (fun cur e=>by
     rcases ho with ⟨m9,c9,h9⟩ | ⟨cs,t9,ht9,h9⟩
     · rw [h9] at e;cases e
     · rw [h9] at e
       cases e
       rcases ht9 with h8 | h8 | h8 | h8 <;> cases h8))
    have hE3:Below bw wr w6∧w6.heap[bk]?=wr.heap[bk]?:=⟨hE2.1.grown hgrow6 (by simp;omega) (fun j hj=>(zbf (hown1.alloc (.cells #[.chan (some cz)] 222)) hj).1),hB7.blk.trans HBK2.out.blk.symm⟩
    clear hgrow6 hB6 hE2 hE1 hE0 hba hown1
    go_wp2
    refine zab ⟨⟨⟨_,hE3⟩,rfl⟩,?_⟩
    refine zau rfl (by kernel_rfl) ?_
    simp only [zad,zac,zaa,zX1,zX2,zX3]
    have f33:=frozen_of_row w6 bk 33 _ _ hB7.blk
    have c33:=hB7.cell (i:=33) (u:=.slice A k c) rfl
    have HS9:Hid (w6.setCell ⟨bk,33,none⟩ (.slice (some ⟨gg,0,none⟩) (k+1) cap)=w6.setRow bk (za3 ⟨h,⟨none,0,0⟩,[],0,q,mz,none,mz+1,⟨some ⟨gg,0,none⟩,k+1,cap⟩,mz+1+1,⟨none,0,0⟩,[]⟩).toArray):=(setCell_eq_setRow w6 bk 33 _ 141 (0,0) _ hB7.blk).trans (congrArg (w6.setRow bk) rfl)
    have HB8:=Lib.hid (hB7.put (V':=⟨h,⟨none,0,0⟩,[],0,q,mz,none,mz+1,⟨some ⟨gg,0,none⟩,k+1,cap⟩,mz+1+1,⟨none,0,0⟩,[]⟩) ⟨hB7.r.house,hB7.r.lk,hB7.r.pl,hB7.r.rn,hB7.r.se,hB7.r.ne,hB7.r.wk⟩ hB7.log)
    have HO8:=Lib.hid (zar hown6 (za3 ⟨h,⟨none,0,0⟩,[],0,q,mz,none,mz+1,⟨some ⟨gg,0,none⟩,k+1,cap⟩,mz+1+1,⟨none,0,0⟩,[]⟩).toArray (zca hown6 hB7.blk (by decide)))
    have HBL:=Lib.hid (below_setRow (HBR.out.trans hE3.1) hbk1 (za3 ⟨h,⟨none,0,0⟩,[],0,q,mz,none,mz+1,⟨some ⟨gg,0,none⟩,k+1,cap⟩,mz+1+1,⟨none,0,0⟩,[]⟩).toArray)
    clear hB7 hown6 hE3
    go_wp2
    refine zab ?_
    go_wp2
    go_roundw
    case rel=>exact ⟨k+1,some ⟨gg,0,none⟩,cap,_,hlt,by go_num,by rw [HS9.out];exact HB8.out,by rw [HS9.out];exact HO8.out,by rw [HS9.out];exact HBL.out⟩
    case measure=>simp [intOf];omega
  · obtain rfl:k=n:=by omega
    have HBK2:=Lib.hid hbk
    have HBR:=Lib.hid hb
    clear hbk hown hb
    go_wp2
    go_ret
    exact ⟨bk,_,rfl,by rw [HBW.out];exact HBK2.out,by rw [HBW.out];exact HBR.out,rfl,rfl,rfl,rfl,HQ.out.1,HQ.out.2.1,HQ.out.2.2,rfl,rfl,rfl⟩
end Go.Proofs.YtfdmeojcopkaoaaGreatDoor
namespace Go.Proofs.YtfdmeojcopkaoaaGreatDoor
open Go.RowKit
theorem ctl_val (r:Nat) (h:r≤1114111) (w:World):Calls Tryz.prog 147 #[.int .i32 (r:Int)] w fun e w'=>e=.returned (.bool (decide (r<32) || decide (126<r)))∧w=w':=by
 by_cases h1:r<32
 · have q1:(r:Int)<32:=by omega
   have HV:Hid ((decide (r<32) || decide (126<r))=true):=by simp [Hid,h1]
   go_enter Tryz.func147,Tryz.ntmps147
   go_wp2
   go_ret
   exact ⟨by first | rfl | (rw [HV.out];rfl),rfl⟩
 · have q1:¬ (r:Int)<32:=by omega
   by_cases h2:126<r
   · have q2:(126:Int)<r:=by omega
     have HV:Hid ((decide (r<32) || decide (126<r))=true):=by simp [Hid,h2]
     go_enter Tryz.func147,Tryz.ntmps147
     go_wp2
     go_ret
     exact ⟨by first | rfl | (rw [HV.out];rfl),rfl⟩
   · have q2:¬ (126:Int)<r:=by omega
     have HV:Hid ((decide (r<32) || decide (126<r))=false):=by simp [Hid,h1,h2]
     go_enter Tryz.func147,Tryz.ntmps147
     go_wp2
     go_ret
     exact ⟨by first | rfl | (rw [HV.out];rfl),rfl⟩
def oddB (s:ByteArray):Bool:=decide (0≤Lib.idxFunc (fun r=>decide (r<32) || decide (126<r)) true s)
theorem zif (s:ByteArray) (w:World):Calls Tryz.prog 146 #[.string s,.func (.func 147) #[] #[]] w fun e w'=>e=.returned (.bool (oddB s))∧Below w.heap.size w w':=
 Tryz.strings_ContainsFunc_runes 147 #[] (fun args w=>by kernel_rfl) (fun r=>decide (r<32) || decide (126<r)) s w fun W x hx _=>by
  have:=ctl_val x hx W
  exact this.mono fun e w' ⟨he,hw⟩=>⟨he,0,hw ▸ rfl⟩
def zbd (needs words:Int) (text:Bool) (f:Nat):Array Value:=#[.int .i64 needs,.int .i64 words,.bool text,.func (.func f) #[] #[]]
def zgy (w:World) (needs words:Int) (text:Bool) (f:Nat) (e:Ending) (w':World):Prop:=e=.returned (.tuple #[.agg (zbd needs words text f),.bool true])∧Below w.heap.size w w'
theorem actDay (w:World):Calls Tryz.prog 148 #[.string ⟨#[100,97,121]⟩] w (zgy w 0 1 false 172):=by
 have hb0:=hB1 w (.cells #[.int .i64 0,.int .i64 0,.bool false,.nilFunc] 237)
 have HB:=Lib.hid hb0
 clear hb0
 go_enter Tryz.func148,Tryz.ntmps148
 go_upto_region 1 with (fail)
 generalize hw0:w.alloc (.cells #[.int .i64 0,.int .i64 0,.bool false,.nilFunc] 237)=w0 at *
 have k0:w0.heap[w.heap.size]?=some (.cells #[.int .i64 0,.int .i64 0,.bool false,.nilFunc] 237 (0,0)):=by rw [← hw0,zae,if_pos rfl]
 clear hw0
 generalize hbw:w.heap.size=bw at *
 have HBW:=Lib.hid hbw
 clear hbw
 go_wp2_with (with_reducible refine zat 237 ?_)
 unfold Stp
 refine wpList_store_row rfl 237 _ _ rfl bw (zbd 0 1 false 172) rfl rfl 237 _ k0 (by kernel_rfl) rfl (by kernel_rfl) ?_
 have kr:=setRow_heap w0 bw _ (zbd 0 1 false 172) 237 (0,0) k0
 have hbr:Below bw w (w0.setRow bw (zbd 0 1 false 172)):=below_setRow HB.out (Nat.le_refl _) _
 generalize w0.setRow bw (zbd 0 1 false 172)=w2 at *
 go_wp2
 have c0:=(cell_of_row w2 bw 0 _ _ _ kr).trans (by rfl:_=some (.int .i64 0))
 have c1:=(cell_of_row w2 bw 1 _ _ _ kr).trans (by rfl:_=some (.int .i64 1))
 have c2:=(cell_of_row w2 bw 2 _ _ _ kr).trans (by rfl:_=some (.bool false))
 have c3:=(cell_of_row w2 bw 3 _ _ _ kr).trans (by rfl:_=some (.func (.func 172) #[] #[]))
 refine bodyPost_ret (v:=.tuple #[.agg (zbd 0 1 false 172),.bool true]) (by simp [results,Tryz.results148,go_sem,c0,c1,c2,c3,zbd]) rfl ⟨rfl,by rw [HBW.out];exact hbr⟩
theorem actRead (w:World):Calls Tryz.prog 148 #[.string ⟨#[114,101,97,100]⟩] w (zgy w 0 1 true 173):=by
 have hb0:=hB1 w (.cells #[.int .i64 0,.int .i64 0,.bool false,.nilFunc] 237)
 have HB:=Lib.hid hb0
 clear hb0
 go_enter Tryz.func148,Tryz.ntmps148
 go_upto_region 1 with (fail)
 generalize hw0:w.alloc (.cells #[.int .i64 0,.int .i64 0,.bool false,.nilFunc] 237)=w0 at *
 have k0:w0.heap[w.heap.size]?=some (.cells #[.int .i64 0,.int .i64 0,.bool false,.nilFunc] 237 (0,0)):=by rw [← hw0,zae,if_pos rfl]
 clear hw0
 generalize hbw:w.heap.size=bw at *
 have HBW:=Lib.hid hbw
 clear hbw
 go_wp2_with (with_reducible refine zat 237 ?_)
 unfold Stp
 refine wpList_store_row rfl 237 _ _ rfl bw (zbd 0 1 true 173) rfl rfl 237 _ k0 (by kernel_rfl) rfl (by kernel_rfl) ?_
 have kr:=setRow_heap w0 bw _ (zbd 0 1 true 173) 237 (0,0) k0
 have hbr:Below bw w (w0.setRow bw (zbd 0 1 true 173)):=below_setRow HB.out (Nat.le_refl _) _
 generalize w0.setRow bw (zbd 0 1 true 173)=w2 at *
 go_wp2
 have c0:=(cell_of_row w2 bw 0 _ _ _ kr).trans (by rfl:_=some (.int .i64 0))
 have c1:=(cell_of_row w2 bw 1 _ _ _ kr).trans (by rfl:_=some (.int .i64 1))
 have c2:=(cell_of_row w2 bw 2 _ _ _ kr).trans (by rfl:_=some (.bool true))
 have c3:=(cell_of_row w2 bw 3 _ _ _ kr).trans (by rfl:_=some (.func (.func 173) #[] #[]))
 refine bodyPost_ret (v:=.tuple #[.agg (zbd 0 1 true 173),.bool true]) (by simp [results,Tryz.results148,go_sem,c0,c1,c2,c3,zbd]) rfl ⟨rfl,by rw [HBW.out];exact hbr⟩
theorem actLock (w:World):Calls Tryz.prog 148 #[.string ⟨#[108,111,99,107]⟩] w (zgy w 1 0 true 176):=by
 have hb0:=hB1 w (.cells #[.int .i64 0,.int .i64 0,.bool false,.nilFunc] 237)
 have HB:=Lib.hid hb0
 clear hb0
 go_enter Tryz.func148,Tryz.ntmps148
 go_upto_region 1 with (fail)
 generalize hw0:w.alloc (.cells #[.int .i64 0,.int .i64 0,.bool false,.nilFunc] 237)=w0 at *
 have k0:w0.heap[w.heap.size]?=some (.cells #[.int .i64 0,.int .i64 0,.bool false,.nilFunc] 237 (0,0)):=by rw [← hw0,zae,if_pos rfl]
 clear hw0
 generalize hbw:w.heap.size=bw at *
 have HBW:=Lib.hid hbw
 clear hbw
 go_wp2_with (with_reducible refine zat 237 ?_)
 unfold Stp
 refine wpList_store_row rfl 237 _ _ rfl bw (zbd 1 0 true 176) rfl rfl 237 _ k0 (by kernel_rfl) rfl (by kernel_rfl) ?_
 have kr:=setRow_heap w0 bw _ (zbd 1 0 true 176) 237 (0,0) k0
 have hbr:Below bw w (w0.setRow bw (zbd 1 0 true 176)):=below_setRow HB.out (Nat.le_refl _) _
 generalize w0.setRow bw (zbd 1 0 true 176)=w2 at *
 go_wp2
 have c0:=(cell_of_row w2 bw 0 _ _ _ kr).trans (by rfl:_=some (.int .i64 1))
 have c1:=(cell_of_row w2 bw 1 _ _ _ kr).trans (by rfl:_=some (.int .i64 0))
 have c2:=(cell_of_row w2 bw 2 _ _ _ kr).trans (by rfl:_=some (.bool true))
 have c3:=(cell_of_row w2 bw 3 _ _ _ kr).trans (by rfl:_=some (.func (.func 176) #[] #[]))
 refine bodyPost_ret (v:=.tuple #[.agg (zbd 1 0 true 176),.bool true]) (by simp [results,Tryz.results148,go_sem,c0,c1,c2,c3,zbd]) rfl ⟨rfl,by rw [HBW.out];exact hbr⟩
theorem actWorks (w:World):Calls Tryz.prog 148 #[.string ⟨#[119,111,114,107,115]⟩] w (zgy w 2 1 false 183):=by
 have hb0:=hB1 w (.cells #[.int .i64 0,.int .i64 0,.bool false,.nilFunc] 237)
 have HB:=Lib.hid hb0
 clear hb0
 go_enter Tryz.func148,Tryz.ntmps148
 go_upto_region 1 with (fail)
 generalize hw0:w.alloc (.cells #[.int .i64 0,.int .i64 0,.bool false,.nilFunc] 237)=w0 at *
 have k0:w0.heap[w.heap.size]?=some (.cells #[.int .i64 0,.int .i64 0,.bool false,.nilFunc] 237 (0,0)):=by rw [← hw0,zae,if_pos rfl]
 clear hw0
 generalize hbw:w.heap.size=bw at *
 have HBW:=Lib.hid hbw
 clear hbw
 go_wp2_with (with_reducible refine zat 237 ?_)
 unfold Stp
 refine wpList_store_row rfl 237 _ _ rfl bw (zbd 2 1 false 183) rfl rfl 237 _ k0 (by kernel_rfl) rfl (by kernel_rfl) ?_
 have kr:=setRow_heap w0 bw _ (zbd 2 1 false 183) 237 (0,0) k0
 have hbr:Below bw w (w0.setRow bw (zbd 2 1 false 183)):=below_setRow HB.out (Nat.le_refl _) _
 generalize w0.setRow bw (zbd 2 1 false 183)=w2 at *
 go_wp2
 have c0:=(cell_of_row w2 bw 0 _ _ _ kr).trans (by rfl:_=some (.int .i64 2))
 have c1:=(cell_of_row w2 bw 1 _ _ _ kr).trans (by rfl:_=some (.int .i64 1))
 have c2:=(cell_of_row w2 bw 2 _ _ _ kr).trans (by rfl:_=some (.bool false))
 have c3:=(cell_of_row w2 bw 3 _ _ _ kr).trans (by rfl:_=some (.func (.func 183) #[] #[]))
 refine bodyPost_ret (v:=.tuple #[.agg (zbd 2 1 false 183),.bool true]) (by simp [results,Tryz.results148,go_sem,c0,c1,c2,c3,zbd]) rfl ⟨rfl,by rw [HBW.out];exact hbr⟩
end Go.Proofs.YtfdmeojcopkaoaaGreatDoor
namespace Go.Proofs.YtfdmeojcopkaoaaGreatDoor
open Go.RowKit
theorem addr_add {w:World} {b off j:Nat}:w.cell? ((⟨b,off,none⟩:Addr).add j)=w.cell? ⟨b,off+j,none⟩:=by
 by_cases e0:j=0
 · subst e0;simp [Addr.add]
 · simp [Addr.add,e0]
theorem zgv (needs words:Int) (f:Nat) (B:Nat) (A:Option Addr) (n c:Nat) (l:List ByteArray) (w:World) (hl:l.length=n) (hn:n≤1000) (hw:words=n) (he:zcy l ⟨#[]⟩=false) (hr:Rd w B A (strCells l)):Calls Tryz.prog 149 #[.agg (zbd needs words false f),.slice A n c] w fun e w'=>e=.returned (.tuple #[.slice A n c,.bool true])∧Below w.heap.size w w':=by
 subst hw
 show Calls Tryz.prog 149 #[.agg #[.int .i64 needs,.int .i64 (n:Int),.bool false,.func (.func f) #[] #[]],.slice A n c] w _
 have k0:=hA1 w (.cells #[.int .i64 needs,.int .i64 (n:Int),.bool false,.func (.func f) #[] #[]] 237)
 have hb0:=hB1 w (.cells #[.int .i64 needs,.int .i64 (n:Int),.bool false,.func (.func f) #[] #[]] 237)
 have HR:=Lib.hid (hr.keep hb0)
 have HB:=Lib.hid hb0
 have HL:=Lib.hid hl
 clear hb0 hr
 go_enter Tryz.func149,Tryz.ntmps149
 go_upto_region 1 with (fail)
 generalize w.alloc (.cells #[.int .i64 needs,.int .i64 (n:Int),.bool false,.func (.func f) #[] #[]] 237)=w0 at *
 generalize hbw:w.heap.size=bw at *
 have HBW:=Lib.hid hbw
 clear hbw hl
 have c1:=(cell_of_row w0 bw 1 _ _ _ k0).trans (by rfl:_=some (.int .i64 (n:Int)))
 have c2:=(cell_of_row w0 bw 2 _ _ _ k0).trans (by rfl:_=some (.bool false))
 have CT:=zc8 A n c B l ⟨#[]⟩ false he w0 (by omega) HL.out HR.out
 have hqq:((n:Int) == (n:Int))=true:=by simp
 clear k0
 go_wp2_with (go_at_call 87;refine CT.mono ?_;rintro e w' ⟨rfl,rfl⟩)
 go_ret2
 exact ⟨rfl,by rw [HBW.out];exact HB.out⟩
theorem zfe (needs:Int) (words f:Nat) (bb off n c:Nat) (l:List ByteArray) (w:World) (hl:l.length=n) (hn:n≤1000) (hk:words<n) (hnc:n≤c) (he:zcy (l.take words) ⟨#[]⟩=false) (hsz:∀ s∈l,s.size≤1000) (hr:Rd w w.heap.size (some ⟨bb,off,none⟩) (strCells l)):Calls Tryz.prog 149 #[.agg (zbd needs (words:Int) true f),.slice (some ⟨bb,off,none⟩) n c] w fun e w'=>∃ A c',e=.returned (.tuple #[.slice A (words+1) c',.bool true])∧w'.ownsRow w.heap.size 9 1 (.slice A (words+1) c') (words+1) (strCells (l.take words++[ba (Lib.join ((l.drop words).map (·.data.toList)) [32])]))∧Below w.heap.size w w':=by
 show Calls Tryz.prog 149 #[.agg #[.int .i64 needs,.int .i64 (words:Int),.bool true,.func (.func f) #[] #[]],.slice (some ⟨bb,off,none⟩) n c] w _
 have k0:=hA1 w (.cells #[.int .i64 needs,.int .i64 (words:Int),.bool true,.func (.func f) #[] #[]] 237)
 have hb0:=hB1 w (.cells #[.int .i64 needs,.int .i64 (words:Int),.bool true,.func (.func f) #[] #[]] 237)
 have HR:=Lib.hid (hr.keep hb0)
 have HB:=Lib.hid hb0
 have HL:=Lib.hid hl
 clear hb0 hr
 go_enter Tryz.func149,Tryz.ntmps149
 go_upto_region 1 with (fail)
 generalize w.alloc (.cells #[.int .i64 needs,.int .i64 (words:Int),.bool true,.func (.func f) #[] #[]] 237)=w0 at *
 generalize hbw:w.heap.size=bw at *
 have HBW:=Lib.hid hbw
 clear hbw hl
 have c1:=(cell_of_row w0 bw 1 _ _ _ k0).trans (by rfl:_=some (.int .i64 (words:Int)))
 have c2:=(cell_of_row w0 bw 2 _ _ _ k0).trans (by rfl:_=some (.bool true))
 have hdl:(l.drop words).length=n - words:=by rw [List.length_drop,HL.out]
 have hjl:(Lib.join ((l.drop words).map (·.data.toList)) (⟨#[32]⟩:ByteArray).data.toList).length≤140737488355328:=by
  refine Nat.le_trans (zg8 1000 _ _ fun a ha=>?_) ?_
  · obtain ⟨x,hx,rfl⟩:=List.mem_map.1 ha
    rw [← Lib.size_eq]
    exact hsz x (List.mem_of_mem_drop hx)
  · rw [List.length_map,hdl]
    show (n - words) * 1001≤_
    omega
 have hrd:Rd w0 bw (some ⟨bb,off+words,none⟩) (strCells (l.drop words)):=fun k u hku=>by
  have h9:(strCells l)[words+k]?=some u:=by
   simp only [strCells,List.getElem?_map,List.getElem?_drop] at hku ⊢
   exact hku
  obtain ⟨b',o',hA,hb',hc'⟩:=HR.out (words+k) u h9
  cases hA
  exact ⟨bb,off+words,rfl,hb',by rw [Nat.add_assoc];exact hc'⟩
 have JN:=zfr (l.drop words) ⟨#[32]⟩ (some ⟨bb,off+words,none⟩) (c - words) bw w0 (by rw [hdl];omega) (by have:=lt_of_block k0;omega) hrd (by rw [hdl];omega) hjl
 rw [hdl] at JN
 have hneg:¬ n≤words:=by omega
 have hcw:words≤c:=by omega
 have HK0:=Lib.hid k0
 clear hjl hsz hdl hrd k0
 obtain ⟨i1,hi1,hy0,hy1,hy2⟩:=info_parts info9s
 go_wp2_with (first | (go_at_call 102;refine JN.mono ?_;rintro e w1 ⟨rfl,hb1⟩) | (at_builtin;refine stp ?_))
 unfold Stp
 generalize hJ:ba (Lib.join (List.drop words (List.map (fun x=>x.data.toList) l)) [32])=J at *
 have HJ:Hid (ba (Lib.join ((l.drop words).map (·.data.toList)) [32])=J):=by rw [Hid,← hJ,List.map_drop]
 have hrt:Rd (w1.alloc (.cells #[.string J] 9)) bw (some ⟨bb,off,none⟩) (strCells (l.take words)):=fun k u hku=>by
  have h9:(strCells l)[k]?=some u:=by
   simp only [strCells,List.getElem?_map,List.getElem?_take] at hku ⊢
   split at hku
   · exact hku
   · simp at hku
  obtain ⟨b',o',hA,hb',hc'⟩:=(HR.out.keep (hb1.alloc hb1.size (.cells #[.string J] 9))) k u h9
  exact ⟨b',o',hA,hb',hc'⟩
 have htl:(l.take words).length=words:=by rw [List.length_take,HL.out,Nat.min_eq_left (by omega)]
 have hba:Below w0.heap.size w0 (w1.alloc (.cells #[.string J] 9)):=hb1.alloc hb1.size _
 refine wpList_append_grows _ rfl _ _ 22 rfl 9 i1 _ 1 16 Tryz.underlying22 hi1 hy0 hy1 hy2 rfl (by omega) (some ⟨bb,off,none⟩) words words (strCells (l.take words)) rfl (fun h=>by cases h) (by rw [zhe,htl];omega) (fun b9 h9 j u hj=>by cases h9;rw [addr_add];exact zbz hrt hj) ⟨w1.heap.size,0,none⟩ 1 1 [.string J] rfl rfl (zey (by simp)) (by simp [Value.oneCell']) (by omega) (by simp only [maxLen];omega) (by omega) ?_
 intro v' w2 hown2 hgrow2
 obtain ⟨A2,c2,rfl⟩:=zco hown2
 have hb2:=hba.grown hgrow2 hba.size (fun k hk=>by cases hk)
 have hrt2:Rd w2 bw (some ⟨bb,off,none⟩) (strCells (l.take words)):=hrt.keep ((Below.refl _ _).grown hgrow2 (Nat.le_refl _) (fun k hk=>by cases hk))
 have CT:=zc8 (some ⟨bb,off,none⟩) words words bw (l.take words) ⟨#[]⟩ false he w2 (by omega) htl hrt2
 have HO:=Lib.hid (za1 hown2 (show bw≤_ by have:=hba.size;have:=lt_of_block HK0.out;omega))
 have hz0:bw≤w0.heap.size:=Nat.le_of_lt (lt_of_block HK0.out)
 have HB2:=Lib.hid (HB.out.trans (hb2.mono hz0))
 clear hown2 hgrow2 hrt hrt2 hba hb2 hb1 JN hi1 hy0 hy1 hy2
 go_wp2_with (go_at_call 87;refine CT.mono ?_;rintro e w' ⟨rfl,rfl⟩)
 go_ret2
 refine ⟨A2,c2,rfl,?_,by rw [HBW.out];exact HB2.out⟩
 rw [HBW.out,HJ.out]
 simpa [strCells] using HO.out
end Go.Proofs.YtfdmeojcopkaoaaGreatDoor
namespace Go.Proofs.YtfdmeojcopkaoaaGreatDoor
open Go.RowKit
def K64 (w w':World):Prop:=∀ (k:Nat) (cs:Array Value),w.heap[k]?=some (.cells cs 64 (0,0))→w'.heap[k]?=some (.cells cs 64 (0,0))
theorem K64.below {w w':World} (h:Below w.heap.size w w'):K64 w w':=fun _ _ hk=>zcd h hk
theorem K64.trans {a b c:World} (h:K64 a b) (h':K64 b c):K64 a c:=fun k cs hk=>h' k cs (h k cs hk)
theorem K64.setRow {w:World} {g t:Nat} {cur:Array Value} (hg:w.heap[g]?=some (.cells cur t (0,0))) (ht:t≠64) (cs:Array Value):K64 w (w.setRow g cs):=fun k c hk =>
 (setRow_other w g k cs (fun e=>by rw [e,hg] at hk;cases hk;exact ht rfl)).trans hk
def DoPost (w:World) (x b:Nat) (V':BookV) (e:Ending) (w':World):Prop:=e=.returned (.int .i64 0)∧BkAt w' x b V'∧Below x w w'∧K64 w w'
theorem setDay_ok (w:World) (x b:Nat) (V:BookV) (h:BkAt w x b V) (ht:TxtAt w) (A:Option Addr) (c B:Nat) (s:ByteArray) (hr:Rd w B A (strCells [s])) (hs:s.size≤1000) (dd:Int) (hn:numL s.data.toList 9=some dd) (h0:0≤dd) (h1:dd≤100000) (h2:V.day≤dd):Calls Tryz.prog 172 #[.pointer (some ⟨b,0,none⟩),.slice A 1 c] w (DoPost w x b { V with day:=dd }):=by
 obtain ⟨hv,lg,log,day,q,mp,pl,mr,ms,se,wk,works⟩:=V
 simp only at h2 ⊢
 have NM:=number156_ok s 9 (by omega) (by omega) dd hn h0 w ht
 change Calls Tryz.prog 156 #[.string s,.int .i64 9] w _ at NM
 obtain ⟨bb,off,rfl,hbb,z0⟩:=hr.at_ (k:=0) (u:=.string s) rfl
 rw [Nat.add_zero] at z0
 have HH:=Lib.hid h
 clear hr hn hs h ht
 go_enter Tryz.func172,Tryz.ntmps172
 go_upto_region 2 with (go_at_call 156;refine NM.mono ?_;rintro e w1 ⟨rfl,hb1⟩)
 have H1:=HH.out.keep hb1
 have d26:=H1.cell (i:=26) (u:=.int .i64 day) rfl
 have hq1:dd≤100000:=h1
 have hq2:day≤dd:=h2
 have U0:=fun e W=>zbq true e 0 rfl W
 clear NM z0 h0 h1 h2
 have x0:=fun y:Xt w1=>y.cell d26
 refine zaj [14] (fun w'=>∃ y:Xt w1,w'=y.1) (by kernel_rfl) ⟨⟨w1.drew,(Below.refl _ _).drew⟩,rfl⟩ ?_
 refine zao [0,2,3,5,6,7,8,9,10] 6 rfl (by kernel_rfl) ?_
 simp only [zad,zac,zaa,zX1,zX2,zX3]
 repeat (go_big_quiet_step (fail))
 refine wpQuiet_nil ?_
 have hbd:Below w1.heap.size w1 w1.drew:=(Below.refl _ _).drew
 show wpE _ _ _ _ _ _ _ _ _ w1.drew
 generalize w1.drew=wd at *
 clear x0 d26
 refine zak (i:=1) rfl (by kernel_rfl) rfl ?_
 unfold zap
 simp only [zad,zac,zaa,zX1,zX2,zX3]
 go_wp2_with (go_at_call 23;refine (U0 _ _).mono ?_;rintro e w' ⟨rfl,rfl⟩)
 refine zab ⟨⟨⟨_,hbd⟩,rfl⟩,?_⟩
 refine zak (i:=4) rfl (by kernel_rfl) rfl ?_
 unfold zap
 simp only [zad,zac,zaa,zX1,zX2,zX3]
 go_wp2_with (go_at_call 23;refine (U0 _ _).mono ?_;rintro e w' ⟨rfl,rfl⟩)
 refine zab ⟨⟨⟨_,hbd⟩,rfl⟩,?_⟩
 refine zak (i:=11) rfl (by kernel_rfl) rfl ?_
 unfold zap
 simp only [zad,zac,zaa,zX1,zX2,zX3]
 go_wp2_with (go_at_call 23;refine (U0 _ _).mono ?_;rintro e w' ⟨rfl,rfl⟩)
 refine zab ⟨⟨⟨_,hbd⟩,rfl⟩,?_⟩
 refine zak (i:=12) rfl (by kernel_rfl) rfl ?_
 unfold zap
 simp only [zad,zac,zaa,zX1,zX2,zX3]
 go_wp2
 have hbn:=hB1 wd (.cells #[.int .i64 0,.int .i64 0,.int .i64 0] 50)
 have kq:=hA1 wd (.cells #[.int .i64 0,.int .i64 0,.int .i64 0] 50)
 have hbe:=hbd.trans (hbn.mono hbd.size)
 refine zab ⟨⟨⟨_,hbe⟩,rfl⟩,?_⟩
 refine zak (i:=13) rfl (by kernel_rfl) rfl ?_
 unfold zap
 simp only [zad,zac,zaa,zX1,zX2,zX3]
 go_wp2_with (go_at_call 22;refine (zhy _ 0 0 0).mono ?_;rintro e w' ⟨rfl,rfl⟩)
 refine zab ⟨⟨⟨_,hbe⟩,rfl⟩,?_⟩
 refine zau rfl (by kernel_rfl) ?_
 simp only [zad,zac,zaa,zX1,zX2,zX3]
 have H2:=H1.keep hbe
 have HBX:=Lib.hid ((hb1.trans (hbe.mono hb1.size)))
 clear hbe hbn kq hbd H1 hb1 U0
 generalize wd.alloc (.cells #[.int .i64 0,.int .i64 0,.int .i64 0] 50)=w3 at *
 have f:=frozen_of_row w3 b 26 _ _ H2.blk
 have c:=H2.cell (i:=26) (u:=.int .i64 day) rfl
 have HS9:Hid (w3.setCell ⟨b,26,none⟩ (.int .i64 dd)=w3.setRow b (za3 ⟨hv,lg,log,dd,q,mp,pl,mr,ms,se,wk,works⟩).toArray):=(setCell_eq_setRow w3 b 26 _ 141 (0,0) _ H2.blk).trans (congrArg (w3.setRow b) rfl)
 have HB8:=Lib.hid (H2.put (V':=⟨hv,lg,log,dd,q,mp,pl,mr,ms,se,wk,works⟩) ⟨H2.r.house,H2.r.lk,H2.r.pl,H2.r.rn,H2.r.se,H2.r.ne,H2.r.wk⟩ H2.log)
 have hxb:=H2.xb
 have HKK:=Lib.hid ((K64.below HBX.out).trans (K64.setRow H2.blk (by decide) (za3 ⟨hv,lg,log,dd,q,mp,pl,mr,ms,se,wk,works⟩).toArray))
 have HX2:=Lib.hid (HH.out.lt)
 clear H2
 go_wp2
 refine zab ?_
 go_wp2
 go_ret
 refine ⟨rfl,by rw [HS9.out];exact HB8.out,?_,by rw [HS9.out];exact HKK.out⟩
 exact (HBX.out.mono (Nat.le_trans hxb (Nat.le_of_lt HX2.out))).setCell hxb _
end Go.Proofs.YtfdmeojcopkaoaaGreatDoor
namespace Go.Proofs.YtfdmeojcopkaoaaGreatDoor
open Go.RowKit
theorem InsertNil_ok (w:World) (k:Nat) (y:Int) (hk:w.cell? ⟨k,0,none⟩=some (.int .i64 y)):Calls Tryz.prog 222 #[.slice none 0 0,.int .i64 0,.slice (some ⟨k,0,none⟩) 1 1] w (zew w 3 1 (zah [y]) 1):=by
 obtain ⟨i1,hi1,hy0,hy1,hy2⟩:=info_parts zhn
 have HK:=Lib.hid hk
 clear hk
 go_enter Tryz.func222,Tryz.ntmps222
 go_wp2_with (at_builtin;refine stp ?_)
 unfold Stp
 refine wpList_append_grows _ rfl _ _ 32 rfl 3 i1 _ 1 8 Tryz.underlying32 hi1 hy0 hy1 hy2 rfl (by omega) none 0 0 [] rfl (fun _=>⟨rfl,rfl⟩) rfl (fun b9 h9=>by cases h9) ⟨k,0,none⟩ 1 1 [.int .i64 y] rfl rfl (zey HK.out) (by simp [Value.oneCell']) (by omega) (by simp only [maxLen];omega) (by omega) ?_
 intro v' w2 hown2 hgrow2
 obtain ⟨A2,c2,rfl⟩:=zco hown2
 have HO:=Lib.hid hown2
 have HB:=Lib.hid ((Below.refl w.heap.size w).grown hgrow2 (Nat.le_refl _) (fun k hk=>by cases hk))
 clear hown2 hgrow2 hi1 hy0 hy1 hy2
 go_wp2
 go_ret
 exact ⟨A2,c2,rfl,zbn HO.out,HO.out,HB.out⟩
theorem zj1 (w:World) (B:Nat) (q:LsV) (s:Int) (h:LsAt w B q) (hS:LsS q) (hB:B≤w.heap.size):Calls Tryz.prog 193 #[.agg (za7 q).toArray,.int .i64 s] w (zax w (zdh q s)):=by
 have hb0:=hB2 w (.cells #[q.sw.v,q.tr.v,.int .i64 q.ctr] 133) (.cells #[.int .i64 s] 3)
 have k0:=hA2a w (.cells #[q.sw.v,q.tr.v,.int .i64 q.ctr] 133) (.cells #[.int .i64 s] 3)
 have q0:((w.alloc (.cells #[q.sw.v,q.tr.v,.int .i64 q.ctr] 133)).alloc (.cells #[.int .i64 s] 3)).cell? ⟨w.heap.size+1,0,none⟩=some (.int .i64 s):=by
  have:((w.alloc (.cells #[q.sw.v,q.tr.v,.int .i64 q.ctr] 133)).alloc (.cells #[.int .i64 s] 3)).heap[w.heap.size+1]?=some (.cells #[.int .i64 s] 3 (0,0)):=by rw [zae,if_pos (by simp)]
  exact (cell_of_row _ _ 0 _ _ _ this).trans rfl
 have hs0:=hS2 w (.cells #[q.sw.v,q.tr.v,.int .i64 q.ctr] 133) (.cells #[.int .i64 s] 3)
 have hk:=h.keep hb0
 have hl:=hk.trs.1
 have IX:=Index236_237 q.tr.A q.tr.n q.tr.c B q.trs (fun t=>zep t.chain s) (w.heap.size+1) ((w.alloc (.cells #[q.sw.v,q.tr.v,.int .i64 q.ctr] 133)).alloc (.cells #[.int .i64 s] 3)) (by have:=hS.1;omega) hl hk.trs.2 (by omega)
  (fun W t hb ht=>has237_val t B _ s W ((hk.t t ht).keep hb) (by have:=hS.2.2 t ht;omega) (zas hb q0))
 unfold zax at IX
 have HV:Hid (za0 (fun t:LtV=>zep t.chain s) q.trs 0=zdh q s):=rfl
 rw [HV.out] at IX
 generalize zdh q s=V at *
 have HB:=Lib.hid hb0
 clear hb0 hk hl h hS HV q0
 show Calls Tryz.prog 193 #[.agg #[q.sw.v,q.tr.v,.int .i64 q.ctr],.int .i64 s] w (zax w V)
 go_enter Tryz.func193,Tryz.ntmps193
 go_upto_region 1 with (fail)
 generalize (w.alloc (.cells #[q.sw.v,q.tr.v,.int .i64 q.ctr] 133)).alloc (.cells #[.int .i64 s] 3)=w0 at *
 generalize hbw:w.heap.size=bw at *
 have HBW:=Lib.hid hbw
 clear hbw
 obtain ⟨_,d1,_⟩:_∧_∧_:=zbc k0
 simp only [SlV.v] at d1
 clear k0
 go_wp2_with (go_at_call 236;refine IX.mono ?_;rintro e w9 ⟨rfl,hb9⟩)
 go_ret
 exact ⟨rfl,by rw [HBW.out];exact HB.out.trans (hb9.mono (by omega))⟩
theorem section_any (w:World) (x b:Nat) (V:BookV) (h:BkAt w x b V) (hS:HouseS V.h) (s:ByteArray):Calls Tryz.prog 192 #[.pointer (some ⟨b,0,none⟩),.string s] w fun e w'=>e=.returned (.int .i64 (idxT V.h.plant.secs s))∧w=w':=by
 have IX:=zhb V.h.plant.ss.A V.h.plant.ss.n V.h.plant.ss.c x V.h.plant.secs s w (by have:=h.r.house.plant.secs.1;have:=hS.plant.secs.1;omega) h.r.house.plant.secs.1 h.r.house.plant.secs.2
 generalize idxT V.h.plant.secs s=i at *
 have d0:=h.house 0 (u:=V.h.plant.ss.v) rfl
 simp only [SlV.v] at d0
 clear h hS
 go_enter Tryz.func192,Tryz.ntmps192
 go_wp2_with (go_at_call 127;refine IX.mono ?_;rintro e w' ⟨rfl,rfl⟩)
 go_ret
 exact ⟨rfl,rfl⟩
theorem zh3 (w:World) (x b:Nat) (V:BookV) (h:BkAt w x b V) (hS:HouseS V.h) (s:ByteArray):Calls Tryz.prog 141 #[.pointer (some ⟨b,0,none⟩),.string s] w fun e w'=>e=.returned (.int .i64 (idxT V.h.plant.trains s))∧w=w':=by
 have IX:=zhb V.h.plant.ts.A V.h.plant.ts.n V.h.plant.ts.c x V.h.plant.trains s w (by have:=h.r.house.plant.trains.1;have:=hS.plant.trains.1;omega) h.r.house.plant.trains.1 h.r.house.plant.trains.2
 generalize idxT V.h.plant.trains s=i at *
 have d0:=h.house 1 (u:=V.h.plant.ts.v) rfl
 simp only [SlV.v] at d0
 clear h hS
 go_enter Tryz.func141,Tryz.ntmps141
 go_wp2_with (go_at_call 127;refine IX.mono ?_;rintro e w' ⟨rfl,rfl⟩)
 go_ret
 exact ⟨rfl,rfl⟩
end Go.Proofs.YtfdmeojcopkaoaaGreatDoor
