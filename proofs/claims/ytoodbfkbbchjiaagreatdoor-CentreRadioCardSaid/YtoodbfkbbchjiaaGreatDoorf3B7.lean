import Derived.Test.YtoodbfkbbchjiaaGreatDoorf3X19
import Derived.Test.YtoodbfkbbchjiaaGreatDoorf3N3
import Derived.Test.YtoodbfkbbchjiaaGreatDoorf3Y1
import Derived.Test.YtoodbfkbbchjiaaGreatDoorf3M4
import Derived.Test.YtoodbfkbbchjiaaGreatDoorf3K4
import Derived.Test.YtoodbfkbbchjiaaGreatDoorf3A4
import Derived.Test.YtoodbfkbbchjiaaGreatDoorf3X9
set_option maxRecDepth 100000
set_option maxHeartbeats 16000000
namespace Go.Proofs.YtoodbfkbbchjiaaGreatDoor
open Go.RowKit
abbrev EnV:=ByteArray × ByteArray
def zkw (x:EnV):List Value:=[.string x.1,.string x.2]
def zbe (l:List EnV):List Value:=l.flatMap zkw
theorem zeh (l:List EnV) (x:EnV):zbe (l++[x])=zbe l++[.string x.1,.string x.2]:=by simp [zbe,zkw]
theorem enCells_len (l:List EnV):(zbe l).length=l.length * 2:=zef (vals:=zkw) (k:=2) (fun _=>rfl) l
theorem Rd.en {w:World} {B:Nat} {A:Option Addr} {l:List EnV} (h:Rd w B A (zbe l)) {i:Nat} {x:EnV} (hi:l[i]?=some x) :
 ∃ b off,A=some ⟨b,off,none⟩∧b<B∧w.cell? ⟨b,off+i * 2,none⟩=some (.string x.1)∧w.cell? ⟨b,off+i * 2+1,none⟩=some (.string x.2):=by
 obtain ⟨b,off,e,hb,c⟩:=Rd.row (k:=2) (vals:=zkw) h (fun _=>rfl) (by decide) hi
 exact ⟨b,off,e,hb,c 0 _ rfl,c 1 _ rfl⟩
theorem zjh:(Tryz.prog.info? 58).map (fun i=>(i.zero,i.size,i.bytes))=some (some (.agg #[.string ⟨#[]⟩,.string ⟨#[]⟩]),2,32):=by kernel_rfl
structure PlV where
 train:Int
 day:Int
 lo:Int
 hi:Int
def plObj:Option PlV→Obj
 | none=>.map #[] 0
 | some p=>.map #[⟨.int .i64 p.train,.agg #[.int .i64 p.train,.int .i64 p.day,.int .i64 p.lo,.int .i64 p.hi],0⟩] 1
theorem plObj_map (p:Option PlV):∃ m c,plObj p=.map m c:=by
 cases p with
 | none=>exact ⟨_,_,rfl⟩
 | some p=>exact ⟨_,_,rfl⟩
structure MsB where
 s:SlV
 chs:List Nat
def MsB.v (m:MsB):Value:=m.s.v
def zel (l:List Nat):List Value:=l.map fun c=>.chan (some c)
structure SeB where
 m:Nat
 es:Array MapEntry
 c:Nat
structure BookV where
 h:HouseV
 lg:SlV
 log:List EnV
 day:Int
 q:LsV
 mp:Nat
 pl:Option PlV
 mr:Nat
 ms:MsB
 se:SeB
 wk:SlV
 works:List Int
def bookTl (V:BookV):List Value:=[V.lg.v,.int .i64 V.day,V.q.sw.v,V.q.tr.v,.int .i64 V.q.ctr,.slice none 0 0,.map (some V.mp),.map (some V.mr),V.ms.v,.map (some V.se.m),V.wk.v,.slice none 0 0,.slice none 0 0]
def zbd (V:BookV):List Value:=zah V.h++bookTl V
structure BkR (w:World) (x:Nat) (V:BookV):Prop where
 house:HouseAt w x V.h
 lk:LsOw w x V.q
 pl:w.heap[V.mp]?=some (plObj V.pl)
 rn:w.heap[V.mr]?=some (.map #[] 0)
 se:w.heap[V.se.m]?=some (.map V.se.es V.se.c)
 ne:x≤V.mp∧x≤V.mr∧x≤V.se.m∧V.mp≠V.mr∧V.mp≠V.se.m∧V.mr≠V.se.m
 wk:V.works.length=V.wk.n∧w.ownsRow x 3 1 V.wk.v V.wk.n (zai V.works)
structure BkAt (w:World) (x b:Nat) (V:BookV):Prop where
 blk:w.heap[b]?=some (.cells (zbd V).toArray 111 (0,0))
 xb:x≤b
 log:V.log.length=V.lg.n∧w.ownsRow x 58 2 V.lg.v V.lg.n (zbe V.log)
 ms:V.ms.chs.length=V.ms.s.n∧w.ownsRow x 136 1 V.ms.v V.ms.s.n (zel V.ms.chs)
 r:BkR w x V
theorem zes {w w':World} {k:Nat} {o:Obj} (hb:Below w.heap.size w w') (h:w.heap[k]?=some o):w'.heap[k]?=some o:=by
 have hlt:k<w.heap.size:=by
  rcases Nat.lt_or_ge k w.heap.size with h' | h'
  · exact h'
  · rw [Array.getElem?_eq_none h'] at h;cases h
 exact (hb.block k hlt).trans h
theorem BkR.keep {w w':World} {x:Nat} {V:BookV} (h:BkR w x V) (hb:Below w.heap.size w w'):BkR w' x V:=
 ⟨h.house.keep hb,h.lk.keep hb,zes hb h.pl,zes hb h.rn,zes hb h.se,h.ne,h.wk.1,zaf h.wk.2 hb⟩
theorem BkAt.keep {w w':World} {x b:Nat} {V:BookV} (h:BkAt w x b V) (hb:Below w.heap.size w w'):BkAt w' x b V:=
 ⟨zes hb h.blk,h.xb,⟨h.log.1,zaf h.log.2 hb⟩,⟨h.ms.1,zaf h.ms.2 hb⟩,h.r.keep hb⟩
theorem BkR.but {w w':World} {x:Nat} {V:BookV} (h:BkR w x V) (hx:Below x w w')
 (hk:∀ (k:Nat) (o:Obj),w.heap[k]?=some o→((∃ m c,o=.map m c)∨∃ cs t,(t=3∨t=224)∧o=.cells cs t (0,0))→w'.heap[k]?=some o):BkR w' x V:=
 ⟨h.house.belowC hx,h.lk.other fun k t cur ht hc=>(hk k _ hc (.inr ⟨cur,t,ht,rfl⟩)).trans hc.symm,hk _ _ h.pl (.inl (plObj_map _)),hk _ _ h.rn (.inl ⟨_,_,rfl⟩),hk _ _ h.se (.inl ⟨_,_,rfl⟩),h.ne,h.wk.1,
   zbc h.wk.2 fun k cur hc=>(hk k _ hc (.inr ⟨cur,3,.inl rfl,rfl⟩)).trans hc.symm⟩
theorem bk_put {w:World} {x b:Nat} {V':BookV} {cur:Array Value} (hb:w.heap[b]?=some (.cells cur 111 (0,0))) (hx:x≤b) (hr:BkR w x V') (hl:V'.log.length=V'.lg.n∧w.ownsRow x 58 2 V'.lg.v V'.lg.n (zbe V'.log)) (hm:V'.ms.chs.length=V'.ms.s.n∧w.ownsRow x 136 1 V'.ms.v V'.ms.s.n (zel V'.ms.chs)):BkAt (w.setRow b (zbd V').toArray) x b V':=
 ⟨setRow_heap w b _ _ 111 (0,0) hb,hx,⟨hl.1,zaq hl.2 _ (zca hl.2 hb (by decide))⟩,⟨hm.1,zaq hm.2 _ (zca hm.2 hb (by decide))⟩,hr.but (below_setRow (Below.refl _ _) hx _) fun k o hk ho=>by
   rw [setRow_other w b k _ (fun e=>?_)]
   · exact hk
   · subst e
     rw [hb] at hk
     rcases ho with ⟨m,c,rfl⟩ | ⟨cs,t,ht,rfl⟩
     · cases hk
     · cases hk
       rcases ht with ht | ht <;> cases ht⟩
theorem BkAt.put {w:World} {x b:Nat} {V V':BookV} (h:BkAt w x b V) (hr:BkR w x V') (hl:V'.log.length=V'.lg.n∧w.ownsRow x 58 2 V'.lg.v V'.lg.n (zbe V'.log)) (hm:V'.ms.chs.length=V'.ms.s.n∧w.ownsRow x 136 1 V'.ms.v V'.ms.s.n (zel V'.ms.chs)):BkAt (w.setRow b (zbd V').toArray) x b V':=bk_put h.blk h.xb hr hl hm
theorem chCells_snoc (l:List Nat) (c:Nat):zel (l++[c])=zel l++[.chan (some c)]:=by simp [zel]
theorem BkAt.cell {w:World} {x b:Nat} {V:BookV} (h:BkAt w x b V) {i:Nat} {u:Value} (hi:(zbd V).toArray[i]?=some u):w.cell? ⟨b,i,none⟩=some u:=(cell_of_row w b i _ _ _ h.blk).trans hi
theorem BkAt.house {w:World} {x b:Nat} {V:BookV} (h:BkAt w x b V) (i:Nat) {u:Value} (hi:(zah V.h)[i]?=some u):w.cell? ⟨b,i,none⟩=some u:=h.cell (by
 rw [zX1,zbd,List.getElem?_append_left (List.getElem?_eq_some_iff.1 hi).1]
 exact hi)
theorem BkAt.lt {w:World} {x b:Nat} {V:BookV} (h:BkAt w x b V):b<w.heap.size:=lt_of_block h.blk
theorem zer {w w':World} {B e size n:Nat} {v:Value} {xs:List Value} (h:w.ownsRow B e size v n xs) (hg:w.grownBy w' v.ownBlock) {k:Nat} {o:Obj} (hk:w.heap[k]?=some o) (ho:∀ cur,o≠.cells cur e (0,0)):w'.heap[k]?=some o:=by
 have hlt:k<w.heap.size:=by
  rcases Nat.lt_or_ge k w.heap.size with h' | h'
  · exact h'
  · rw [Array.getElem?_eq_none h'] at hk;cases hk
 refine (hg.block k hlt fun he=>?_).trans hk
 obtain ⟨_,_,cur,hc⟩:=zbi h he.symm
 rw [hc] at hk
 exact ho cur (Option.some.inj hk).symm
theorem BkAt.other {w w':World} {x b:Nat} {V:BookV} (h:BkAt w x b V) (hx:Below x w w')
 (hk:∀ (k:Nat) (o:Obj),w.heap[k]?=some o→((∃ m c,o=.map m c)∨∃ cs t,(t=3∨t=224∨t=58∨t=111∨t=136)∧o=.cells cs t (0,0))→w'.heap[k]?=some o):BkAt w' x b V:=
 ⟨hk _ _ h.blk (.inr ⟨_,_,.inr (.inr (.inr (.inl rfl))),rfl⟩),h.xb,⟨h.log.1,zbc h.log.2 fun k cur hc=>(hk k _ hc (.inr ⟨cur,58,.inr (.inr (.inl rfl)),rfl⟩)).trans hc.symm⟩,⟨h.ms.1,zbc h.ms.2 fun k cur hc=>(hk k _ hc (.inr ⟨cur,136,.inr (.inr (.inr (.inr rfl))),rfl⟩)).trans hc.symm⟩,
   h.r.but hx fun k o hko ho=>hk k o hko (ho.imp id fun ⟨cs,t,ht,e⟩=>⟨cs,t,ht.elim .inl (fun h=>.inr (.inl h)),e⟩)⟩
theorem run_chan (w:World):(Instr.makeChan 136 (.int .i64 0)).run Tryz.prog w=.ok (.chan (some w.heap.size)) (w.alloc (.chan 0 #[] false 0 0 false)):=by kernel_rfl
theorem info136s:(Tryz.prog.info? 136).map (fun i=>(i.zero,i.size,i.bytes))=some (some (.chan none),1,8):=by kernel_rfl
def Xk (B b:Nat) (w:World):={ w':World // Below B w w'∧w'.heap[b]?=w.heap[b]? }
instance xkNonempty (B b:Nat) (w:World):Nonempty (Xk B b w):=⟨⟨w,Below.refl _ _,rfl⟩⟩
theorem zf3 {w w':World} {b i:Nat} (h:w'.heap[b]?=w.heap[b]?):w'.cell? ⟨b,i,none⟩=w.cell? ⟨b,i,none⟩:=by
 simp only [World.cell?,h]
def BgRel (bw bk n:Nat) (V:BookV) (w:World) (u:Value) (wr:World):Prop:=
 ∃ (k:Nat) (A:Option Addr) (c:Nat) (chs:List Nat),k≤n∧u=.int .i64 k∧BkAt wr bw bk { V with ms:=⟨⟨A,k,c⟩,chs⟩ }∧chs.Nodup∧(∀ c∈chs,c<wr.heap.size)∧Below bw w wr
structure Begun (hv:HouseV) (V:BookV):Prop where
 h:V.h=hv
 lg:V.lg=⟨none,0,0⟩
 log:V.log=[]
 day:V.day=0
 sws:V.q.sws=List.replicate hv.plant.ws.n 0
 trs:V.q.trs=List.replicate hv.plant.ts.n ⟨⟨none,0,0⟩,[],0⟩
 ctr:V.q.ctr=0
 pl:V.pl=none
 wk:V.wk=⟨none,0,0⟩
 works:V.works=[]
 se:V.se.es=#[]∧V.se.c=0
 ms:V.ms.chs.length=hv.ms.n∧V.ms.chs.Nodup
def BeginPost (w:World) (h:HouseV) (e:Ending) (w':World):Prop:=
 ∃ (b:Nat) (V:BookV),e=.returned (.pointer (some ⟨b,0,none⟩))∧BkAt w' w.heap.size b V∧Below w.heap.size w w'∧Begun h V
theorem begin_any (w:World) (B:Nat) (h:HouseV) (H:HouseAt w B h) (hS:HouseS h) (h0:zb7 h.plant=0) (hB:B≤w.heap.size):Calls Tryz.prog 52 #[.agg (zah h).toArray] w (BeginPost w h):=by
 obtain ⟨v0,v1,v2,v3,v4,v5,v6,v7,v8,v9,v10,v11,v12,v13,v14,v15,v16,v17,v18,v19,v20,v21,v22,v23,v24,hve⟩:∃ v0 v1 v2 v3 v4 v5 v6 v7 v8 v9 v10 v11 v12 v13 v14 v15 v16 v17 v18 v19 v20 v21 v22 v23 v24,zah h=[v0,v1,v2,v3,v4,v5,v6,v7,v8,v9,v10,v11,v12,v13,v14,v15,v16,v17,v18,v19,v20,v21,v22,v23,v24]:=⟨_,_,_,_,_,_,_,_,_,_,_,_,_,_,_,_,_,_,_,_,_,_,_,_,_,rfl⟩
 have HVE:=Lib.hid hve
 rw [hve]
 clear hve
 show Calls Tryz.prog 52 #[.agg #[v0,v1,v2,v3,v4,v5,v6,v7,v8,v9,v10,v11,v12,v13,v14,v15,v16,v17,v18,v19,v20,v21,v22,v23,v24]] w _
 have k0:=hA1 w (.cells #[v0,v1,v2,v3,v4,v5,v6,v7,v8,v9,v10,v11,v12,v13,v14,v15,v16,v17,v18,v19,v20,v21,v22,v23,v24] 45)
 have hb0:=hB1 w (.cells #[v0,v1,v2,v3,v4,v5,v6,v7,v8,v9,v10,v11,v12,v13,v14,v15,v16,v17,v18,v19,v20,v21,v22,v23,v24] 45)
 have HH:=Lib.hid (show ∀ W,Below w.heap.size w W→HouseAt W B h from fun W hW=>H.keep hW)
 have hs0:w.heap.size+1=(w.alloc (.cells #[v0,v1,v2,v3,v4,v5,v6,v7,v8,v9,v10,v11,v12,v13,v14,v15,v16,v17,v18,v19,v20,v21,v22,v23,v24] 45)).heap.size:=by simp
 have HB:=Lib.hid hb0
 have hmm:=@run_makeMap Tryz.prog
 clear hb0 H
 go_enter Tryz.func52,Tryz.ntmps52
 go_upto_region 1 with (fail)
 generalize w.alloc (.cells #[v0,v1,v2,v3,v4,v5,v6,v7,v8,v9,v10,v11,v12,v13,v14,v15,v16,v17,v18,v19,v20,v21,v22,v23,v24] 45)=w0 at *
 generalize hbw:w.heap.size=bw at *
 have HBW:=Lib.hid hbw
 clear hbw
 go_wp2_with (with_reducible refine zaw 45 ?_)
 unfold Stp
 refine wpList_load_row rfl 45 _ rfl bw rfl 45 _ (0,0) _ k0 Tryz.underlying45 rfl (by kernel_rfl) ?_
 have HS0:=Lib.hid hs0
 clear hs0
 go_upto_region 2 with (fail)
 clear hmm
 have hbA:Below w0.heap.size w0 ((((w0.alloc (.map #[] 0)).alloc (.map #[] 0)).alloc (.map #[] 0)).alloc (.cells #[v0,v1,v2,v3,v4,v5,v6,v7,v8,v9,v10,v11,v12,v13,v14,v15,v16,v17,v18,v19,v20,v21,v22,v23,v24,.slice none 0 0,.int .i64 0,.slice none 0 0,.slice none 0 0,.int .i64 0,.slice none 0 0,.map (some w0.heap.size),.map (some (w0.heap.size+1)),.slice none 0 0,.map (some (w0.heap.size+1+1)),.slice none 0 0,.slice none 0 0,.slice none 0 0] 111)):=((((Below.refl _ _).alloc (Nat.le_refl _) _).alloc (by simp) _).alloc (by simp;omega) _).alloc (by simp;omega) _
 have m0:((((w0.alloc (.map #[] 0)).alloc (.map #[] 0)).alloc (.map #[] 0)).alloc (.cells #[v0,v1,v2,v3,v4,v5,v6,v7,v8,v9,v10,v11,v12,v13,v14,v15,v16,v17,v18,v19,v20,v21,v22,v23,v24,.slice none 0 0,.int .i64 0,.slice none 0 0,.slice none 0 0,.int .i64 0,.slice none 0 0,.map (some w0.heap.size),.map (some (w0.heap.size+1)),.slice none 0 0,.map (some (w0.heap.size+1+1)),.slice none 0 0,.slice none 0 0,.slice none 0 0] 111)).heap[w0.heap.size]?=some (.map #[] 0):=by rw [zae,if_neg (by simp;omega),zae,if_neg (by simp;omega),zae,if_neg (by simp),zae,if_pos rfl]
 have m1:((((w0.alloc (.map #[] 0)).alloc (.map #[] 0)).alloc (.map #[] 0)).alloc (.cells #[v0,v1,v2,v3,v4,v5,v6,v7,v8,v9,v10,v11,v12,v13,v14,v15,v16,v17,v18,v19,v20,v21,v22,v23,v24,.slice none 0 0,.int .i64 0,.slice none 0 0,.slice none 0 0,.int .i64 0,.slice none 0 0,.map (some w0.heap.size),.map (some (w0.heap.size+1)),.slice none 0 0,.map (some (w0.heap.size+1+1)),.slice none 0 0,.slice none 0 0,.slice none 0 0] 111)).heap[w0.heap.size+1]?=some (.map #[] 0):=by rw [zae,if_neg (by simp),zae,if_neg (by simp),zae,if_pos (by simp)]
 have m2:((((w0.alloc (.map #[] 0)).alloc (.map #[] 0)).alloc (.map #[] 0)).alloc (.cells #[v0,v1,v2,v3,v4,v5,v6,v7,v8,v9,v10,v11,v12,v13,v14,v15,v16,v17,v18,v19,v20,v21,v22,v23,v24,.slice none 0 0,.int .i64 0,.slice none 0 0,.slice none 0 0,.int .i64 0,.slice none 0 0,.map (some w0.heap.size),.map (some (w0.heap.size+1)),.slice none 0 0,.map (some (w0.heap.size+1+1)),.slice none 0 0,.slice none 0 0,.slice none 0 0] 111)).heap[w0.heap.size+1+1]?=some (.map #[] 0):=by rw [zae,if_neg (by simp),zae,if_pos (by simp)]
 have m3:((((w0.alloc (.map #[] 0)).alloc (.map #[] 0)).alloc (.map #[] 0)).alloc (.cells #[v0,v1,v2,v3,v4,v5,v6,v7,v8,v9,v10,v11,v12,v13,v14,v15,v16,v17,v18,v19,v20,v21,v22,v23,v24,.slice none 0 0,.int .i64 0,.slice none 0 0,.slice none 0 0,.int .i64 0,.slice none 0 0,.map (some w0.heap.size),.map (some (w0.heap.size+1)),.slice none 0 0,.map (some (w0.heap.size+1+1)),.slice none 0 0,.slice none 0 0,.slice none 0 0] 111)).heap[w0.heap.size+1+1+1]?=some (.cells #[v0,v1,v2,v3,v4,v5,v6,v7,v8,v9,v10,v11,v12,v13,v14,v15,v16,v17,v18,v19,v20,v21,v22,v23,v24,.slice none 0 0,.int .i64 0,.slice none 0 0,.slice none 0 0,.int .i64 0,.slice none 0 0,.map (some w0.heap.size),.map (some (w0.heap.size+1)),.slice none 0 0,.map (some (w0.heap.size+1+1)),.slice none 0 0,.slice none 0 0,.slice none 0 0] 111 (0,0)):=by rw [zae,if_pos (by simp)]
 have hk0:=zes hbA k0
 generalize (((w0.alloc (.map #[] 0)).alloc (.map #[] 0)).alloc (.map #[] 0)).alloc (.cells #[v0,v1,v2,v3,v4,v5,v6,v7,v8,v9,v10,v11,v12,v13,v14,v15,v16,v17,v18,v19,v20,v21,v22,v23,v24,.slice none 0 0,.int .i64 0,.slice none 0 0,.slice none 0 0,.int .i64 0,.slice none 0 0,.map (some w0.heap.size),.map (some (w0.heap.size+1)),.slice none 0 0,.map (some (w0.heap.size+1+1)),.slice none 0 0,.slice none 0 0,.slice none 0 0] 111)=w1 at *
 generalize hmz:w0.heap.size=mz at *
 have hmz1:bw+1=mz:=by rw [← HS0.out]
 clear hmz
 have HBA:=Lib.hid (HB.out.trans (hbA.mono (by omega)))
 have B0:BkAt w1 bw (mz+1+1+1) ⟨h,⟨none,0,0⟩,[],0,⟨⟨none,0,0⟩,[],⟨none,0,0⟩,[],0⟩,mz,none,mz+1,⟨⟨none,0,0⟩,[]⟩,⟨mz+1+1,#[],0⟩,⟨none,0,0⟩,[]⟩:=
  ⟨by rw [m3,zbd,HVE.out];rfl,by omega,⟨rfl,rfl,.inl ⟨rfl,rfl⟩⟩,⟨rfl,rfl,.inl ⟨rfl,rfl⟩⟩,⟨(HH.out w1 HBA.out).mono hB,⟨⟨rfl,.inl ⟨rfl,rfl⟩⟩,⟨rfl,.inl ⟨rfl,rfl⟩⟩,fun t ht=>absurd ht (by simp),rfl,rfl⟩,m0,m1,m2,⟨by show bw≤mz;omega,by show bw≤mz+1;omega,by show bw≤mz+1+1;omega,by show mz≠mz+1;omega,by show mz≠mz+1+1;omega,by show mz+1≠mz+1+1;omega⟩,rfl,rfl,.inl ⟨rfl,rfl⟩⟩⟩
 have hpv:zap h.plant=[v0,v1,v2,v3]:=congrArg (List.take 4) HVE.out
 have hmv:h.ms.v=v23:=Option.some.inj (congrArg (fun l=>l[23]?) HVE.out)
 have LB:=lkBegin_any w1 B h.plant (HH.out w1 HBA.out).plant hS.plant h0 (by have:=B0.lt;omega)
 rw [hpv] at LB
 have d0:=(cell_of_row w1 bw 0 _ _ _ hk0).trans (by rfl:_=some v0)
 have d1:=(cell_of_row w1 bw 1 _ _ _ hk0).trans (by rfl:_=some v1)
 have d2:=(cell_of_row w1 bw 2 _ _ _ hk0).trans (by rfl:_=some v2)
 have d3:=(cell_of_row w1 bw 3 _ _ _ hk0).trans (by rfl:_=some v3)
 have HB0:=Lib.hid B0
 clear m0 m1 m2 m3 B0 hpv
 go_wp2_with (first | (go_at_call 88;refine LB.mono ?_;rintro e w2 ⟨q,hq1,hq2,hq3,rfl,hO,hb2⟩) | (with_reducible refine zas 103 ?_))
 unfold Stp
 have B2:=HB0.out.keep hb2
 refine zbj rfl 103 _ _ rfl (mz+1+1+1) 27 (zbf q).toArray rfl rfl 111 _ (zbd ⟨h,⟨none,0,0⟩,[],0,q,mz,none,mz+1,⟨⟨none,0,0⟩,[]⟩,⟨mz+1+1,#[],0⟩,⟨none,0,0⟩,[]⟩).toArray B2.blk (by kernel_rfl) (by show 27+3≤38;omega) (by kernel_rfl) rfl ?_
 have hsz2:=hb2.size
 have hl1:=HB0.out.lt
 have B3:=B2.put (V':=⟨h,⟨none,0,0⟩,[],0,q,mz,none,mz+1,⟨⟨none,0,0⟩,[]⟩,⟨mz+1+1,#[],0⟩,⟨none,0,0⟩,[]⟩) ⟨B2.r.house,hO.base (by omega),B2.r.pl,B2.r.rn,B2.r.se,B2.r.ne,B2.r.wk⟩ B2.log B2.ms
 have HB3:=Lib.hid (below_setRow (HBA.out.trans (hb2.mono (by omega))) (show bw≤mz+1+1+1 by omega) (zbd ⟨h,⟨none,0,0⟩,[],0,q,mz,none,mz+1,⟨⟨none,0,0⟩,[]⟩,⟨mz+1+1,#[],0⟩,⟨none,0,0⟩,[]⟩).toArray)
 have hk3:=(HB3.out.block bw)
 have k3x:(w2.setRow (mz+1+1+1) (zbd ⟨h,⟨none,0,0⟩,[],0,q,mz,none,mz+1,⟨⟨none,0,0⟩,[]⟩,⟨mz+1+1,#[],0⟩,⟨none,0,0⟩,[]⟩).toArray).heap[bw]?=some (.cells #[v0,v1,v2,v3,v4,v5,v6,v7,v8,v9,v10,v11,v12,v13,v14,v15,v16,v17,v18,v19,v20,v21,v22,v23,v24] 45 (0,0)):=by
  rw [setRow_other _ _ _ _ (by omega)]
  exact zes hb2 hk0
 clear B2 hO LB hb2 hk3 d0 d1 d2 d3 hk0 k0
 generalize w2.setRow (mz+1+1+1) (zbd ⟨h,⟨none,0,0⟩,[],0,q,mz,none,mz+1,⟨⟨none,0,0⟩,[]⟩,⟨mz+1+1,#[],0⟩,⟨none,0,0⟩,[]⟩).toArray=w3 at *
 obtain ⟨n,hn⟩:∃ n,h.ms.n=n:=⟨_,rfl⟩
 have hn9:n≤1000:=by rw [← hn,← (HH.out w3 HB3.out).masts.1];exact hS.masts.1
 have d23:=(cell_of_row w3 bw 23 _ _ _ k3x).trans (by rfl:_=some v23)
 rw [← hmv] at d23
 simp only [SlV.v,hn] at d23
 have HQ:=Lib.hid (And.intro hq1 (And.intro hq2 hq3))
 have hrc:=run_chan
 obtain ⟨i1,hi1,hy0,hy1,hy2⟩:=info_parts info136s
 have HN0:=Lib.hid hn
 clear hn hmv k3x hq1 hq2 hq3 hl1
 generalize hbk:mz+1+1+1=bk at *
 have hbk1:bw≤bk:=by omega
 have HBK:=Lib.hid hbk
 clear hbk
 go_wp2
 go_loopw [22] (fun u22 wr=>BgRel bw bk n ⟨h,⟨none,0,0⟩,[],0,q,mz,none,mz+1,⟨⟨none,0,0⟩,[]⟩,⟨mz+1+1,#[],0⟩,⟨none,0,0⟩,[]⟩ w u22 wr) (fun u22 _=>n - (intOf u22).toNat)
 case atStart=>exact ⟨0,none,0,[],Nat.zero_le _,rfl,B3,List.nodup_nil,fun c h=>absurd h (by simp),HB3.out⟩
 case round =>
  clear d23 B3
  obtain ⟨k,A,c,chs,hk,rfl,hbk,hnd,hcl,hb⟩:=hrel
  by_cases hlt:k<n
  · have d33:=hbk.cell (i:=33) (u:=.slice A k c) rfl
    have HBK2:=Lib.hid hbk
    have HND:=Lib.hid (And.intro hnd hcl)
    have HBR:=Lib.hid hb
    clear hbk hnd hcl hb
    go_upto_region 5 with (fail)
    have x1:=fun y:Xk bw bk wr=>(zf3 y.2.2).trans d33
    refine zak [8,9,10] (fun w'=>∃ y:Xk bw bk wr,w'=y.1) (by kernel_rfl) ⟨⟨wr.drew,⟨(Below.refl _ _).drew,rfl⟩⟩,rfl⟩ ?_
    refine zao [0,1,2,3,4] 6 rfl (by kernel_rfl) ?_
    simp only [zad,zac,zaa,zX1,zX2,zX3]
    repeat (go_big_quiet_step (fail))
    refine wpQuiet_nil ?_
    have hbd:Below wr.heap.size wr wr.drew:=(Below.refl _ _).drew
    show wpE _ _ _ _ _ _ _ _ _ wr.drew
    generalize wr.drew=wd at *
    clear x1 d33
    have hE0:Below bw wr wd∧wd.heap[bk]?=wr.heap[bk]?:=⟨hbd.mono (Nat.le_trans hbk1 (Nat.le_of_lt HBK2.out.lt)),hbd.block bk HBK2.out.lt⟩
    have hltk:=HBK2.out.lt
    have hsd:=hbd.size
    have hE1:Below bw wr (wd.alloc (.chan 0 #[] false 0 0 false))∧(wd.alloc (.chan 0 #[] false 0 0 false)).heap[bk]?=wr.heap[bk]?:=⟨hE0.1.alloc (by omega) _,by rw [zae,if_neg (by omega)];exact hE0.2⟩
    have hs1:wd.heap.size+1=(wd.alloc (.chan 0 #[] false 0 0 false)).heap.size:=by simp
    refine zan (i:=5) rfl (by kernel_rfl) rfl ?_
    unfold zar
    simp only [zad,zac,zaa,zX1,zX2,zX3]
    go_wp2
    refine zab ⟨⟨⟨_,hE1⟩,rfl⟩,?_⟩
    have hba:Below wr.heap.size wr (wd.alloc (.chan 0 #[] false 0 0 false)):=hbd.alloc hsd _
    clear hrc
    generalize wd.alloc (.chan 0 #[] false 0 0 false)=we at *
    generalize wd.heap.size=cz at *
    have hE2:Below bw wr (we.alloc (.cells #[.chan (some cz)] 136))∧(we.alloc (.cells #[.chan (some cz)] 136)).heap[bk]?=wr.heap[bk]?:=⟨hE1.1.alloc (by omega) _,by rw [zae,if_neg (by omega)];exact hE1.2⟩
    refine zan (i:=6) rfl (by kernel_rfl) rfl ?_
    unfold zar
    simp only [zad,zac,zaa,zX1,zX2,zX3]
    go_wp2
    refine zab ⟨⟨⟨_,hE2⟩,rfl⟩,?_⟩
    refine zan (i:=7) rfl (by kernel_rfl) rfl ?_
    unfold zar
    simp only [zad,zac,zaa,zX1,zX2,zX3]
    have hown1:=zaf HBK2.out.ms.2 hba
    refine wpList_append_lies _ rfl _ _ 107 rfl bw 136 i1 _ 1 8 Tryz.underlying107 hi1 hy0 hy1 hy2 rfl (by omega) (.slice A k c) k _ rfl (hown1.alloc _) ⟨we.heap.size,0,none⟩ 1 1 [.chan (some cz)] rfl rfl (zez (by simp)) (by simp [Value.oneCell']) (by omega) (by simp only [maxLen];omega) (by omega) (by simp;omega) _ rfl ?_
    intro gg cap w6 hown6 hgrow6 _ _
    have hbs:Below wr.heap.size wr (we.alloc (.cells #[.chan (some cz)] 136)):=hba.alloc (Nat.le_of_lt_succ (Nat.lt_succ_of_le (by have:=hba.size;omega))) (.cells #[.chan (some cz)] 136)
    have hB6:=HBK2.out.keep hbs
    have hblD:w6.heap[bk]?=some (.cells (zbd _).toArray 111 (0,0)):=zer (hown1.alloc (.cells #[.chan (some cz)] 136)) hgrow6 hB6.blk (fun cur e=>by cases e)
    have hbxD:Below bw (we.alloc (.cells #[.chan (some cz)] 136)) w6:=(Below.refl _ _).grown hgrow6 (by simp;omega) (fun j hj=>(zbi (hown1.alloc (.cells #[.chan (some cz)] 136)) hj).1)
    have hsz6:cz<w6.heap.size:=Nat.lt_of_lt_of_le (by simp;omega) hbxD.size
    have hRD:BkR w6 bw _:=hB6.r.but hbxD (fun k' o hko ho=>zer (hown1.alloc (.cells #[.chan (some cz)] 136)) hgrow6 hko (fun cur e=>by
     rcases ho with ⟨m9,c9,h9⟩ | ⟨cs,t9,ht9,h9⟩
     · rw [h9] at e;cases e
     · rw [h9] at e
       cases e
       rcases ht9 with h8 | h8 <;> cases h8))
    have hE3:Below bw wr w6∧w6.heap[bk]?=wr.heap[bk]?:=⟨hE2.1.trans hbxD,hblD.trans HBK2.out.blk.symm⟩
    clear hgrow6 hB6 hE2 hE1 hE0 hba hown1 hbxD
    go_wp2
    refine zab ⟨⟨⟨_,hE3⟩,rfl⟩,?_⟩
    refine zau rfl (by kernel_rfl) ?_
    simp only [zad,zac,zaa,zX1,zX2,zX3]
    have f33:=frozen_of_row w6 bk 33 _ _ hblD
    have c33:=(cell_of_row w6 bk 33 _ _ _ hblD).trans (by rfl:_=some (.slice A k c))
    have HS9:Hid (w6.setCell ⟨bk,33,none⟩ (.slice (some ⟨gg,0,none⟩) (k+1) cap)=w6.setRow bk (zbd ⟨h,⟨none,0,0⟩,[],0,q,mz,none,mz+1,⟨⟨some ⟨gg,0,none⟩,k+1,cap⟩,chs++[cz]⟩,⟨mz+1+1,#[],0⟩,⟨none,0,0⟩,[]⟩).toArray):=(setCell_eq_setRow w6 bk 33 _ 111 (0,0) _ hblD).trans (congrArg (w6.setRow bk) rfl)
    have HB8:=Lib.hid (bk_put (V':=⟨h,⟨none,0,0⟩,[],0,q,mz,none,mz+1,⟨⟨some ⟨gg,0,none⟩,k+1,cap⟩,chs++[cz]⟩,⟨mz+1+1,#[],0⟩,⟨none,0,0⟩,[]⟩) hblD HBK2.out.xb ⟨hRD.house,hRD.lk,hRD.pl,hRD.rn,hRD.se,hRD.ne,hRD.wk⟩ ⟨rfl,rfl,.inl ⟨rfl,rfl⟩⟩ ⟨by rw [List.length_append,HBK2.out.ms.1];rfl,by rw [chCells_snoc];exact hown6⟩)
    have HN8:Hid ((chs++[cz]).Nodup∧∀ c∈chs++[cz],c<w6.heap.size):=⟨List.nodup_append.2 ⟨HND.out.1,by simp,fun a ha c hc=>by
     rw [List.mem_singleton.1 hc]
     have:=HND.out.2 a ha
     omega⟩,fun c hc=>by
     rcases List.mem_append.1 hc with h9 | h9
     · have:=HND.out.2 c h9
       omega
     · rw [List.mem_singleton.1 h9];exact hsz6⟩
    have HBL:=Lib.hid (below_setRow (HBR.out.trans hE3.1) hbk1 (zbd ⟨h,⟨none,0,0⟩,[],0,q,mz,none,mz+1,⟨⟨some ⟨gg,0,none⟩,k+1,cap⟩,chs++[cz]⟩,⟨mz+1+1,#[],0⟩,⟨none,0,0⟩,[]⟩).toArray)
    clear hblD hRD hown6 hE3
    go_wp2
    refine zab ?_
    go_wp2
    go_roundw
    case rel=>exact ⟨k+1,some ⟨gg,0,none⟩,cap,_,hlt,by go_num,by rw [HS9.out];exact HB8.out,HN8.out.1,by rw [HS9.out,setRow_size];exact HN8.out.2,by rw [HS9.out];exact HBL.out⟩
    case measure=>simp [intOf];omega
  · obtain rfl:k=n:=by omega
    have HBK2:=Lib.hid hbk
    have HBR:=Lib.hid hb
    clear hbk hcl hb
    go_wp2
    go_ret
    exact ⟨bk,_,rfl,by rw [HBW.out];exact HBK2.out,by rw [HBW.out];exact HBR.out,⟨rfl,rfl,rfl,rfl,HQ.out.1,HQ.out.2.1,HQ.out.2.2,rfl,rfl,rfl,⟨rfl,rfl⟩,HBK2.out.ms.1.trans HN0.out.symm,hnd⟩⟩
theorem ctl_val (r:Nat) (h:r≤1114111) (w:World):Calls Tryz.prog 92 #[.int .i32 (r:Int)] w fun e w'=>e=.returned (.bool (decide (r<32) || decide (126<r)))∧w=w':=by
 by_cases h1:r<32
 · have q1:(r:Int)<32:=by omega
   have HV:Hid ((decide (r<32) || decide (126<r))=true):=by simp [Hid,h1]
   go_enter Tryz.func92,Tryz.ntmps92
   go_wp2
   go_ret
   exact ⟨by first | rfl | (rw [HV.out];rfl),rfl⟩
 · have q1:¬ (r:Int)<32:=by omega
   by_cases h2:126<r
   · have q2:(126:Int)<r:=by omega
     have HV:Hid ((decide (r<32) || decide (126<r))=true):=by simp [Hid,h2]
     go_enter Tryz.func92,Tryz.ntmps92
     go_wp2
     go_ret
     exact ⟨by first | rfl | (rw [HV.out];rfl),rfl⟩
   · have q2:¬ (126:Int)<r:=by omega
     have HV:Hid ((decide (r<32) || decide (126<r))=false):=by simp [Hid,h1,h2]
     go_enter Tryz.func92,Tryz.ntmps92
     go_wp2
     go_ret
     exact ⟨by first | rfl | (rw [HV.out];rfl),rfl⟩
def oddB (s:ByteArray):Bool:=decide (0≤Lib.idxFunc (fun r=>decide (r<32) || decide (126<r)) true s)
theorem odd_any (s:ByteArray) (w:World):Calls Tryz.prog 91 #[.string s,.func (.func 92) #[] #[]] w fun e w'=>e=.returned (.bool (oddB s))∧Below w.heap.size w w':=
 Tryz.strings_ContainsFunc_runes 92 #[] (fun args w=>by kernel_rfl) (fun r=>decide (r<32) || decide (126<r)) s w fun W x hx _=>by
  have:=ctl_val x hx W
  exact this.mono fun e w' ⟨he,hw⟩=>⟨he,0,hw ▸ rfl⟩
def zbb (needs words:Int) (text:Bool) (f:Nat):Array Value:=#[.int .i64 needs,.int .i64 words,.bool text,.func (.func f) #[] #[]]
def zif (w:World) (needs words:Int) (text:Bool) (f:Nat) (e:Ending) (w':World):Prop:=e=.returned (.tuple #[.agg (zbb needs words text f),.bool true])∧Below w.heap.size w w'
theorem actDay (w:World):Calls Tryz.prog 93 #[.string ⟨#[100,97,121]⟩] w (zif w 0 1 false 156):=by
 have hb0:=hB1 w (.cells #[.int .i64 0,.int .i64 0,.bool false,.nilFunc] 217)
 have HB:=Lib.hid hb0
 clear hb0
 go_enter Tryz.func93,Tryz.ntmps93
 go_upto_region 1 with (fail)
 generalize hw0:w.alloc (.cells #[.int .i64 0,.int .i64 0,.bool false,.nilFunc] 217)=w0 at *
 have k0:w0.heap[w.heap.size]?=some (.cells #[.int .i64 0,.int .i64 0,.bool false,.nilFunc] 217 (0,0)):=by rw [← hw0,zae,if_pos rfl]
 clear hw0
 generalize hbw:w.heap.size=bw at *
 have HBW:=Lib.hid hbw
 clear hbw
 go_wp2_with (with_reducible refine zas 217 ?_)
 unfold Stp
 refine wpList_store_row rfl 217 _ _ rfl bw (zbb 0 1 false 156) rfl rfl 217 _ k0 (by kernel_rfl) rfl (by kernel_rfl) ?_
 have kr:=setRow_heap w0 bw _ (zbb 0 1 false 156) 217 (0,0) k0
 have hbr:Below bw w (w0.setRow bw (zbb 0 1 false 156)):=below_setRow HB.out (Nat.le_refl _) _
 generalize w0.setRow bw (zbb 0 1 false 156)=w2 at *
 go_wp2
 have c0:=(cell_of_row w2 bw 0 _ _ _ kr).trans (by rfl:_=some (.int .i64 0))
 have c1:=(cell_of_row w2 bw 1 _ _ _ kr).trans (by rfl:_=some (.int .i64 1))
 have c2:=(cell_of_row w2 bw 2 _ _ _ kr).trans (by rfl:_=some (.bool false))
 have c3:=(cell_of_row w2 bw 3 _ _ _ kr).trans (by rfl:_=some (.func (.func 156) #[] #[]))
 refine bodyPost_ret (v:=.tuple #[.agg (zbb 0 1 false 156),.bool true]) (by simp [results,Tryz.results93,go_sem,c0,c1,c2,c3,zbb]) rfl ⟨rfl,by rw [HBW.out];exact hbr⟩
theorem actRead (w:World):Calls Tryz.prog 93 #[.string ⟨#[114,101,97,100]⟩] w (zif w 0 1 true 157):=by
 have hb0:=hB1 w (.cells #[.int .i64 0,.int .i64 0,.bool false,.nilFunc] 217)
 have HB:=Lib.hid hb0
 clear hb0
 go_enter Tryz.func93,Tryz.ntmps93
 go_upto_region 1 with (fail)
 generalize hw0:w.alloc (.cells #[.int .i64 0,.int .i64 0,.bool false,.nilFunc] 217)=w0 at *
 have k0:w0.heap[w.heap.size]?=some (.cells #[.int .i64 0,.int .i64 0,.bool false,.nilFunc] 217 (0,0)):=by rw [← hw0,zae,if_pos rfl]
 clear hw0
 generalize hbw:w.heap.size=bw at *
 have HBW:=Lib.hid hbw
 clear hbw
 go_wp2_with (with_reducible refine zas 217 ?_)
 unfold Stp
 refine wpList_store_row rfl 217 _ _ rfl bw (zbb 0 1 true 157) rfl rfl 217 _ k0 (by kernel_rfl) rfl (by kernel_rfl) ?_
 have kr:=setRow_heap w0 bw _ (zbb 0 1 true 157) 217 (0,0) k0
 have hbr:Below bw w (w0.setRow bw (zbb 0 1 true 157)):=below_setRow HB.out (Nat.le_refl _) _
 generalize w0.setRow bw (zbb 0 1 true 157)=w2 at *
 go_wp2
 have c0:=(cell_of_row w2 bw 0 _ _ _ kr).trans (by rfl:_=some (.int .i64 0))
 have c1:=(cell_of_row w2 bw 1 _ _ _ kr).trans (by rfl:_=some (.int .i64 1))
 have c2:=(cell_of_row w2 bw 2 _ _ _ kr).trans (by rfl:_=some (.bool true))
 have c3:=(cell_of_row w2 bw 3 _ _ _ kr).trans (by rfl:_=some (.func (.func 157) #[] #[]))
 refine bodyPost_ret (v:=.tuple #[.agg (zbb 0 1 true 157),.bool true]) (by simp [results,Tryz.results93,go_sem,c0,c1,c2,c3,zbb]) rfl ⟨rfl,by rw [HBW.out];exact hbr⟩
theorem actLock (w:World):Calls Tryz.prog 93 #[.string ⟨#[108,111,99,107]⟩] w (zif w 1 0 true 160):=by
 have hb0:=hB1 w (.cells #[.int .i64 0,.int .i64 0,.bool false,.nilFunc] 217)
 have HB:=Lib.hid hb0
 clear hb0
 go_enter Tryz.func93,Tryz.ntmps93
 go_upto_region 1 with (fail)
 generalize hw0:w.alloc (.cells #[.int .i64 0,.int .i64 0,.bool false,.nilFunc] 217)=w0 at *
 have k0:w0.heap[w.heap.size]?=some (.cells #[.int .i64 0,.int .i64 0,.bool false,.nilFunc] 217 (0,0)):=by rw [← hw0,zae,if_pos rfl]
 clear hw0
 generalize hbw:w.heap.size=bw at *
 have HBW:=Lib.hid hbw
 clear hbw
 go_wp2_with (with_reducible refine zas 217 ?_)
 unfold Stp
 refine wpList_store_row rfl 217 _ _ rfl bw (zbb 1 0 true 160) rfl rfl 217 _ k0 (by kernel_rfl) rfl (by kernel_rfl) ?_
 have kr:=setRow_heap w0 bw _ (zbb 1 0 true 160) 217 (0,0) k0
 have hbr:Below bw w (w0.setRow bw (zbb 1 0 true 160)):=below_setRow HB.out (Nat.le_refl _) _
 generalize w0.setRow bw (zbb 1 0 true 160)=w2 at *
 go_wp2
 have c0:=(cell_of_row w2 bw 0 _ _ _ kr).trans (by rfl:_=some (.int .i64 1))
 have c1:=(cell_of_row w2 bw 1 _ _ _ kr).trans (by rfl:_=some (.int .i64 0))
 have c2:=(cell_of_row w2 bw 2 _ _ _ kr).trans (by rfl:_=some (.bool true))
 have c3:=(cell_of_row w2 bw 3 _ _ _ kr).trans (by rfl:_=some (.func (.func 160) #[] #[]))
 refine bodyPost_ret (v:=.tuple #[.agg (zbb 1 0 true 160),.bool true]) (by simp [results,Tryz.results93,go_sem,c0,c1,c2,c3,zbb]) rfl ⟨rfl,by rw [HBW.out];exact hbr⟩
theorem actWorks (w:World):Calls Tryz.prog 93 #[.string ⟨#[119,111,114,107,115]⟩] w (zif w 2 1 false 167):=by
 have hb0:=hB1 w (.cells #[.int .i64 0,.int .i64 0,.bool false,.nilFunc] 217)
 have HB:=Lib.hid hb0
 clear hb0
 go_enter Tryz.func93,Tryz.ntmps93
 go_upto_region 1 with (fail)
 generalize hw0:w.alloc (.cells #[.int .i64 0,.int .i64 0,.bool false,.nilFunc] 217)=w0 at *
 have k0:w0.heap[w.heap.size]?=some (.cells #[.int .i64 0,.int .i64 0,.bool false,.nilFunc] 217 (0,0)):=by rw [← hw0,zae,if_pos rfl]
 clear hw0
 generalize hbw:w.heap.size=bw at *
 have HBW:=Lib.hid hbw
 clear hbw
 go_wp2_with (with_reducible refine zas 217 ?_)
 unfold Stp
 refine wpList_store_row rfl 217 _ _ rfl bw (zbb 2 1 false 167) rfl rfl 217 _ k0 (by kernel_rfl) rfl (by kernel_rfl) ?_
 have kr:=setRow_heap w0 bw _ (zbb 2 1 false 167) 217 (0,0) k0
 have hbr:Below bw w (w0.setRow bw (zbb 2 1 false 167)):=below_setRow HB.out (Nat.le_refl _) _
 generalize w0.setRow bw (zbb 2 1 false 167)=w2 at *
 go_wp2
 have c0:=(cell_of_row w2 bw 0 _ _ _ kr).trans (by rfl:_=some (.int .i64 2))
 have c1:=(cell_of_row w2 bw 1 _ _ _ kr).trans (by rfl:_=some (.int .i64 1))
 have c2:=(cell_of_row w2 bw 2 _ _ _ kr).trans (by rfl:_=some (.bool false))
 have c3:=(cell_of_row w2 bw 3 _ _ _ kr).trans (by rfl:_=some (.func (.func 167) #[] #[]))
 refine bodyPost_ret (v:=.tuple #[.agg (zbb 2 1 false 167),.bool true]) (by simp [results,Tryz.results93,go_sem,c0,c1,c2,c3,zbb]) rfl ⟨rfl,by rw [HBW.out];exact hbr⟩
theorem addr_add {w:World} {b off j:Nat}:w.cell? ((⟨b,off,none⟩:Addr).add j)=w.cell? ⟨b,off+j,none⟩:=by
 by_cases e0:j=0
 · subst e0;simp [Addr.add]
 · simp [Addr.add,e0]
theorem zl8 (needs words:Int) (f:Nat) (B:Nat) (A:Option Addr) (n c:Nat) (l:List ByteArray) (w:World) (hl:l.length=n) (hn:n≤1000) (hw:words=n) (he:zcu l ⟨#[]⟩=false) (hr:Rd w B A (strCells l)):Calls Tryz.prog 94 #[.agg (zbb needs words false f),.slice A n c] w fun e w'=>e=.returned (.tuple #[.slice A n c,.bool true])∧Below w.heap.size w w':=by
 subst hw
 show Calls Tryz.prog 94 #[.agg #[.int .i64 needs,.int .i64 (n:Int),.bool false,.func (.func f) #[] #[]],.slice A n c] w _
 have k0:=hA1 w (.cells #[.int .i64 needs,.int .i64 (n:Int),.bool false,.func (.func f) #[] #[]] 217)
 have hb0:=hB1 w (.cells #[.int .i64 needs,.int .i64 (n:Int),.bool false,.func (.func f) #[] #[]] 217)
 have HR:=Lib.hid (hr.keep hb0)
 have HB:=Lib.hid hb0
 have HL:=Lib.hid hl
 clear hb0 hr
 go_enter Tryz.func94,Tryz.ntmps94
 go_upto_region 1 with (fail)
 generalize w.alloc (.cells #[.int .i64 needs,.int .i64 (n:Int),.bool false,.func (.func f) #[] #[]] 217)=w0 at *
 generalize hbw:w.heap.size=bw at *
 have HBW:=Lib.hid hbw
 clear hbw hl
 have c1:=(cell_of_row w0 bw 1 _ _ _ k0).trans (by rfl:_=some (.int .i64 (n:Int)))
 have c2:=(cell_of_row w0 bw 2 _ _ _ k0).trans (by rfl:_=some (.bool false))
 have CT:=zda A n c B l ⟨#[]⟩ false he w0 (by omega) HL.out HR.out
 have hqq:((n:Int) == (n:Int))=true:=by simp
 clear k0
 go_wp2_with (go_at_call 150;refine CT.mono ?_;rintro e w' ⟨rfl,rfl⟩)
 go_ret2
 exact ⟨rfl,by rw [HBW.out];exact HB.out⟩
theorem actRead_text (needs:Int) (words f:Nat) (bb off n c:Nat) (l:List ByteArray) (w:World) (hl:l.length=n) (hn:n≤1000) (hk:words<n) (hnc:n≤c) (he:zcu (l.take words) ⟨#[]⟩=false) (hsz:∀ s∈l,s.size≤1000) (hr:Rd w w.heap.size (some ⟨bb,off,none⟩) (strCells l)):Calls Tryz.prog 94 #[.agg (zbb needs (words:Int) true f),.slice (some ⟨bb,off,none⟩) n c] w fun e w'=>∃ A c',e=.returned (.tuple #[.slice A (words+1) c',.bool true])∧w'.ownsRow w.heap.size 9 1 (.slice A (words+1) c') (words+1) (strCells (l.take words++[ba (Lib.join ((l.drop words).map (·.data.toList)) [32])]))∧Below w.heap.size w w':=by
 show Calls Tryz.prog 94 #[.agg #[.int .i64 needs,.int .i64 (words:Int),.bool true,.func (.func f) #[] #[]],.slice (some ⟨bb,off,none⟩) n c] w _
 have k0:=hA1 w (.cells #[.int .i64 needs,.int .i64 (words:Int),.bool true,.func (.func f) #[] #[]] 217)
 have hb0:=hB1 w (.cells #[.int .i64 needs,.int .i64 (words:Int),.bool true,.func (.func f) #[] #[]] 217)
 have HR:=Lib.hid (hr.keep hb0)
 have HB:=Lib.hid hb0
 have HL:=Lib.hid hl
 clear hb0 hr
 go_enter Tryz.func94,Tryz.ntmps94
 go_upto_region 1 with (fail)
 generalize w.alloc (.cells #[.int .i64 needs,.int .i64 (words:Int),.bool true,.func (.func f) #[] #[]] 217)=w0 at *
 generalize hbw:w.heap.size=bw at *
 have HBW:=Lib.hid hbw
 clear hbw hl
 have c1:=(cell_of_row w0 bw 1 _ _ _ k0).trans (by rfl:_=some (.int .i64 (words:Int)))
 have c2:=(cell_of_row w0 bw 2 _ _ _ k0).trans (by rfl:_=some (.bool true))
 have hdl:(l.drop words).length=n - words:=by rw [List.length_drop,HL.out]
 have hjl:(Lib.join ((l.drop words).map (·.data.toList)) (⟨#[32]⟩:ByteArray).data.toList).length≤140737488355328:=by
  refine Nat.le_trans (zhn 1000 _ _ fun a ha=>?_) ?_
  · obtain ⟨x,hx,rfl⟩:=List.mem_map.1 ha
    rw [← Lib.size_eq]
    exact hsz x (List.mem_of_mem_drop hx)
  · rw [List.length_map,hdl]
    show (n - words) * 1001≤_
    omega
 have hrd:Rd w0 bw (some ⟨bb,off+words,none⟩) (strCells (l.drop words)):=fun k u hku=>by
  have h9:(strCells l)[words+k]?=some u:=by
   simp only [strCells,List.getElem?_map,List.getElem?_drop] at hku ⊢
   exact hku
  obtain ⟨b',o',hA,hb',hc'⟩:=HR.out (words+k) u h9
  cases hA
  exact ⟨bb,off+words,rfl,hb',by rw [Nat.add_assoc];exact hc'⟩
 have JN:=zf6 (l.drop words) ⟨#[32]⟩ (some ⟨bb,off+words,none⟩) (c - words) bw w0 (by rw [hdl];omega) (by have:=lt_of_block k0;omega) hrd (by rw [hdl];omega) hjl
 rw [hdl] at JN
 have hneg:¬ n≤words:=by omega
 have hcw:words≤c:=by omega
 have HK0:=Lib.hid k0
 clear hjl hsz hdl hrd k0
 obtain ⟨i1,hi1,hy0,hy1,hy2⟩:=info_parts info9s
 go_wp2_with (first | (go_at_call 56;refine JN.mono ?_;rintro e w1 ⟨rfl,hb1⟩) | (at_builtin;refine stp ?_))
 unfold Stp
 generalize hJ:ba (Lib.join (List.drop words (List.map (fun x=>x.data.toList) l)) [32])=J at *
 have HJ:Hid (ba (Lib.join ((l.drop words).map (·.data.toList)) [32])=J):=by rw [Hid,← hJ,List.map_drop]
 have hrt:Rd (w1.alloc (.cells #[.string J] 9)) bw (some ⟨bb,off,none⟩) (strCells (l.take words)):=fun k u hku=>by
  have h9:(strCells l)[k]?=some u:=by
   simp only [strCells,List.getElem?_map,List.getElem?_take] at hku ⊢
   split at hku
   · exact hku
   · simp at hku
  obtain ⟨b',o',hA,hb',hc'⟩:=(HR.out.keep (hb1.alloc hb1.size (.cells #[.string J] 9))) k u h9
  exact ⟨b',o',hA,hb',hc'⟩
 have htl:(l.take words).length=words:=by rw [List.length_take,HL.out,Nat.min_eq_left (by omega)]
 have hba:Below w0.heap.size w0 (w1.alloc (.cells #[.string J] 9)):=hb1.alloc hb1.size _
 refine wpList_append_grows _ rfl _ _ 22 rfl 9 i1 _ 1 16 Tryz.underlying22 hi1 hy0 hy1 hy2 rfl (by omega) (some ⟨bb,off,none⟩) words words (strCells (l.take words)) rfl (fun h=>by cases h) (by rw [zhx,htl];omega) (fun b9 h9 j u hj=>by cases h9;rw [addr_add];exact zby hrt hj) ⟨w1.heap.size,0,none⟩ 1 1 [.string J] rfl rfl (zez (by simp)) (by simp [Value.oneCell']) (by omega) (by simp only [maxLen];omega) (by omega) ?_
 intro v' w2 hown2 hgrow2
 obtain ⟨A2,c2,rfl⟩:=zcn hown2
 have hb2:=hba.grown hgrow2 hba.size (fun k hk=>by cases hk)
 have hrt2:Rd w2 bw (some ⟨bb,off,none⟩) (strCells (l.take words)):=hrt.keep ((Below.refl _ _).grown hgrow2 (Nat.le_refl _) (fun k hk=>by cases hk))
 have CT:=zda (some ⟨bb,off,none⟩) words words bw (l.take words) ⟨#[]⟩ false he w2 (by omega) htl hrt2
 have HO:=Lib.hid (za0 hown2 (show bw≤_ by have:=hba.size;have:=lt_of_block HK0.out;omega))
 have hz0:bw≤w0.heap.size:=Nat.le_of_lt (lt_of_block HK0.out)
 have HB2:=Lib.hid (HB.out.trans (hb2.mono hz0))
 clear hown2 hgrow2 hrt hrt2 hba hb2 hb1 JN hi1 hy0 hy1 hy2
 go_wp2_with (go_at_call 150;refine CT.mono ?_;rintro e w' ⟨rfl,rfl⟩)
 go_ret2
 refine ⟨A2,c2,rfl,?_,by rw [HBW.out];exact HB2.out⟩
 rw [HBW.out,HJ.out]
 simpa [strCells] using HO.out
def K64 (w w':World):Prop:=∀ (k:Nat) (cs:Array Value),w.heap[k]?=some (.cells cs 58 (0,0))→w'.heap[k]?=some (.cells cs 58 (0,0))
theorem K64.below {w w':World} (h:Below w.heap.size w w'):K64 w w':=fun _ _ hk=>zes h hk
theorem K64.trans {a b c:World} (h:K64 a b) (h':K64 b c):K64 a c:=fun k cs hk=>h' k cs (h k cs hk)
theorem K64.setRow {w:World} {g t:Nat} {cur:Array Value} (hg:w.heap[g]?=some (.cells cur t (0,0))) (ht:t≠58) (cs:Array Value):K64 w (w.setRow g cs):=fun k c hk =>
 (setRow_other w g k cs (fun e=>by rw [e,hg] at hk;cases hk;exact ht rfl)).trans hk
def zih (w:World) (x b:Nat) (V':BookV) (e:Ending) (w':World):Prop:=e=.returned (.int .i64 0)∧BkAt w' x b V'∧Below x w w'∧K64 w w'
theorem setDay_ok (w:World) (x b:Nat) (V:BookV) (h:BkAt w x b V) (ht:TxtAt w) (A:Option Addr) (c B:Nat) (s:ByteArray) (hr:Rd w B A (strCells [s])) (hs:s.size≤1000) (dd:Int) (hn:numL s.data.toList 9=some dd) (h0:0≤dd) (h1:dd≤100000) (h2:V.day≤dd):Calls Tryz.prog 156 #[.pointer (some ⟨b,0,none⟩),.slice A 1 c] w (zih w x b { V with day:=dd }):=by
 obtain ⟨hv,lg,log,day,q,mp,pl,mr,ms,se,wk,works⟩:=V
 simp only at h2 ⊢
 have NM:=number156_ok s 9 (by omega) (by omega) dd hn h0 w ht
 change Calls Tryz.prog 105 #[.string s,.int .i64 9] w _ at NM
 obtain ⟨bb,off,rfl,hbb,z0⟩:=hr.at_ (k:=0) (u:=.string s) rfl
 rw [Nat.add_zero] at z0
 have HH:=Lib.hid h
 clear hr hn hs h ht
 go_enter Tryz.func156,Tryz.ntmps156
 go_upto_region 2 with (go_at_call 105;refine NM.mono ?_;rintro e w1 ⟨rfl,hb1⟩)
 have H1:=HH.out.keep hb1
 have d26:=H1.cell (i:=26) (u:=.int .i64 day) rfl
 have hq1:dd≤100000:=h1
 have hq2:day≤dd:=h2
 have U0:=fun e W=>zbk true e 0 rfl W
 clear NM z0 h0 h1 h2
 have x0:=fun y:Xt w1=>y.cell d26
 refine zak [14] (fun w'=>∃ y:Xt w1,w'=y.1) (by kernel_rfl) ⟨⟨w1.drew,(Below.refl _ _).drew⟩,rfl⟩ ?_
 refine zao [0,2,3,5,6,7,8,9,10] 6 rfl (by kernel_rfl) ?_
 simp only [zad,zac,zaa,zX1,zX2,zX3]
 repeat (go_big_quiet_step (fail))
 refine wpQuiet_nil ?_
 have hbd:Below w1.heap.size w1 w1.drew:=(Below.refl _ _).drew
 show wpE _ _ _ _ _ _ _ _ _ w1.drew
 generalize w1.drew=wd at *
 clear x0 d26
 refine zan (i:=1) rfl (by kernel_rfl) rfl ?_
 unfold zar
 simp only [zad,zac,zaa,zX1,zX2,zX3]
 go_wp2_with (go_at_call 48;refine (U0 _ _).mono ?_;rintro e w' ⟨rfl,rfl⟩)
 refine zab ⟨⟨⟨_,hbd⟩,rfl⟩,?_⟩
 refine zan (i:=4) rfl (by kernel_rfl) rfl ?_
 unfold zar
 simp only [zad,zac,zaa,zX1,zX2,zX3]
 go_wp2_with (go_at_call 48;refine (U0 _ _).mono ?_;rintro e w' ⟨rfl,rfl⟩)
 refine zab ⟨⟨⟨_,hbd⟩,rfl⟩,?_⟩
 refine zan (i:=11) rfl (by kernel_rfl) rfl ?_
 unfold zar
 simp only [zad,zac,zaa,zX1,zX2,zX3]
 go_wp2_with (go_at_call 48;refine (U0 _ _).mono ?_;rintro e w' ⟨rfl,rfl⟩)
 refine zab ⟨⟨⟨_,hbd⟩,rfl⟩,?_⟩
 refine zan (i:=12) rfl (by kernel_rfl) rfl ?_
 unfold zar
 simp only [zad,zac,zaa,zX1,zX2,zX3]
 go_wp2
 have hbn:=hB1 wd (.cells #[.int .i64 0,.int .i64 0,.int .i64 0] 60)
 have kq:=hA1 wd (.cells #[.int .i64 0,.int .i64 0,.int .i64 0] 60)
 have hbe:=hbd.trans (hbn.mono hbd.size)
 refine zab ⟨⟨⟨_,hbe⟩,rfl⟩,?_⟩
 refine zan (i:=13) rfl (by kernel_rfl) rfl ?_
 unfold zar
 simp only [zad,zac,zaa,zX1,zX2,zX3]
 go_wp2_with (go_at_call 47;refine (zf2 _ 0 0 0).mono ?_;rintro e w' ⟨rfl,rfl⟩)
 refine zab ⟨⟨⟨_,hbe⟩,rfl⟩,?_⟩
 refine zau rfl (by kernel_rfl) ?_
 simp only [zad,zac,zaa,zX1,zX2,zX3]
 have H2:=H1.keep hbe
 have HBX:=Lib.hid ((hb1.trans (hbe.mono hb1.size)))
 clear hbe hbn kq hbd H1 hb1 U0
 generalize wd.alloc (.cells #[.int .i64 0,.int .i64 0,.int .i64 0] 60)=w3 at *
 have f:=frozen_of_row w3 b 26 _ _ H2.blk
 have c:=H2.cell (i:=26) (u:=.int .i64 day) rfl
 have HS9:Hid (w3.setCell ⟨b,26,none⟩ (.int .i64 dd)=w3.setRow b (zbd ⟨hv,lg,log,dd,q,mp,pl,mr,ms,se,wk,works⟩).toArray):=(setCell_eq_setRow w3 b 26 _ 111 (0,0) _ H2.blk).trans (congrArg (w3.setRow b) rfl)
 have HB8:=Lib.hid (H2.put (V':=⟨hv,lg,log,dd,q,mp,pl,mr,ms,se,wk,works⟩) ⟨H2.r.house,H2.r.lk,H2.r.pl,H2.r.rn,H2.r.se,H2.r.ne,H2.r.wk⟩ H2.log H2.ms)
 have hxb:=H2.xb
 have HKK:=Lib.hid ((K64.below HBX.out).trans (K64.setRow H2.blk (by decide) (zbd ⟨hv,lg,log,dd,q,mp,pl,mr,ms,se,wk,works⟩).toArray))
 have HX2:=Lib.hid (HH.out.lt)
 clear H2
 go_wp2
 refine zab ?_
 go_wp2
 go_ret
 refine ⟨rfl,by rw [HS9.out];exact HB8.out,?_,by rw [HS9.out];exact HKK.out⟩
 exact (HBX.out.mono (Nat.le_trans hxb (Nat.le_of_lt HX2.out))).setCell hxb _
theorem InsertNil_ok (w:World) (k:Nat) (y:Int) (hk:w.cell? ⟨k,0,none⟩=some (.int .i64 y)):Calls Tryz.prog 223 #[.slice none 0 0,.int .i64 0,.slice (some ⟨k,0,none⟩) 1 1] w (zd8 w 3 1 (zai [y]) 1):=by
 obtain ⟨i1,hi1,hy0,hy1,hy2⟩:=info_parts zh8
 have HK:=Lib.hid hk
 clear hk
 go_enter Tryz.func223,Tryz.ntmps223
 go_wp2_with (at_builtin;refine stp ?_)
 unfold Stp
 refine wpList_append_grows _ rfl _ _ 32 rfl 3 i1 _ 1 8 Tryz.underlying32 hi1 hy0 hy1 hy2 rfl (by omega) none 0 0 [] rfl (fun _=>⟨rfl,rfl⟩) rfl (fun b9 h9=>by cases h9) ⟨k,0,none⟩ 1 1 [.int .i64 y] rfl rfl (zez HK.out) (by simp [Value.oneCell']) (by omega) (by simp only [maxLen];omega) (by omega) ?_
 intro v' w2 hown2 hgrow2
 obtain ⟨A2,c2,rfl⟩:=zcn hown2
 have HO:=Lib.hid hown2
 have HB:=Lib.hid ((Below.refl w.heap.size w).grown hgrow2 (Nat.le_refl _) (fun k hk=>by cases hk))
 clear hown2 hgrow2 hi1 hy0 hy1 hy2
 go_wp2
 go_ret
 exact ⟨A2,c2,rfl,zbn HO.out,HO.out,HB.out⟩
theorem zku (w:World) (B:Nat) (q:LsV) (s:Int) (h:LsAt w B q) (hS:LsS q) (hB:B≤w.heap.size):Calls Tryz.prog 180 #[.agg (zbf q).toArray,.int .i64 s] w (zay w (zep q s)):=by
 have hb0:=hB2 w (.cells #[q.sw.v,q.tr.v,.int .i64 q.ctr] 103) (.cells #[.int .i64 s] 3)
 have k0:=hA2a w (.cells #[q.sw.v,q.tr.v,.int .i64 q.ctr] 103) (.cells #[.int .i64 s] 3)
 have q0:((w.alloc (.cells #[q.sw.v,q.tr.v,.int .i64 q.ctr] 103)).alloc (.cells #[.int .i64 s] 3)).cell? ⟨w.heap.size+1,0,none⟩=some (.int .i64 s):=by
  have:((w.alloc (.cells #[q.sw.v,q.tr.v,.int .i64 q.ctr] 103)).alloc (.cells #[.int .i64 s] 3)).heap[w.heap.size+1]?=some (.cells #[.int .i64 s] 3 (0,0)):=by rw [zae,if_pos (by simp)]
  exact (cell_of_row _ _ 0 _ _ _ this).trans rfl
 have hs0:=hS2 w (.cells #[q.sw.v,q.tr.v,.int .i64 q.ctr] 103) (.cells #[.int .i64 s] 3)
 have hk:=h.keep hb0
 have hl:=hk.trs.1
 have IX:=Index236 243 #[.pointer (some ⟨w.heap.size+1,0,none⟩)] (fun _ _=>by kernel_rfl) q.tr.A q.tr.n q.tr.c B q.trs (fun t=>ze1 t.chain s) ((w.alloc (.cells #[q.sw.v,q.tr.v,.int .i64 q.ctr] 103)).alloc (.cells #[.int .i64 s] 3)) (by have:=hS.1;omega) hl hk.trs.2 (by omega)
  (fun W t hb ht=>has237_val t B _ s W ((hk.t t ht).keep hb) (by have:=hS.2.2 t ht;omega) (zat hb q0))
 unfold zay at IX
 have HV:Hid (za4 (fun t:LtV=>ze1 t.chain s) q.trs 0=zep q s):=rfl
 rw [HV.out] at IX
 generalize zep q s=V at *
 have HB:=Lib.hid hb0
 clear hb0 hk hl h hS HV q0
 show Calls Tryz.prog 180 #[.agg #[q.sw.v,q.tr.v,.int .i64 q.ctr],.int .i64 s] w (zay w V)
 go_enter Tryz.func180,Tryz.ntmps180
 go_upto_region 1 with (fail)
 generalize (w.alloc (.cells #[q.sw.v,q.tr.v,.int .i64 q.ctr] 103)).alloc (.cells #[.int .i64 s] 3)=w0 at *
 generalize hbw:w.heap.size=bw at *
 have HBW:=Lib.hid hbw
 clear hbw
 obtain ⟨_,d1,_⟩:_∧_∧_:=zba k0
 simp only [SlV.v] at d1
 clear k0
 go_wp2_with (go_at_call 242;refine IX.mono ?_;rintro e w9 ⟨rfl,hb9⟩)
 go_ret
 exact ⟨rfl,by rw [HBW.out];exact HB.out.trans (hb9.mono (by omega))⟩
theorem section_any (w:World) (x b:Nat) (V:BookV) (h:BkAt w x b V) (hS:HouseS V.h) (s:ByteArray):Calls Tryz.prog 179 #[.pointer (some ⟨b,0,none⟩),.string s] w fun e w'=>e=.returned (.int .i64 (zh9 V.h.plant.secs s))∧w=w':=by
 have IX:=zf7 V.h.plant.ss.A V.h.plant.ss.n V.h.plant.ss.c x V.h.plant.secs s w (by have:=h.r.house.plant.secs.1;have:=hS.plant.secs.1;omega) h.r.house.plant.secs.1 h.r.house.plant.secs.2
 generalize zh9 V.h.plant.secs s=i at *
 have d0:=h.house 0 (u:=V.h.plant.ss.v) rfl
 simp only [SlV.v] at d0
 clear h hS
 go_enter Tryz.func179,Tryz.ntmps179
 go_wp2_with (go_at_call 75;refine IX.mono ?_;rintro e w' ⟨rfl,rfl⟩)
 go_ret
 exact ⟨rfl,rfl⟩
theorem zc3 (w:World) (x b:Nat) (V:BookV) (h:BkAt w x b V) (hS:HouseS V.h) (s:ByteArray):Calls Tryz.prog 46 #[.pointer (some ⟨b,0,none⟩),.string s] w fun e w'=>e=.returned (.int .i64 (zh9 V.h.plant.trains s))∧w=w':=by
 have IX:=zf7 V.h.plant.ts.A V.h.plant.ts.n V.h.plant.ts.c x V.h.plant.trains s w (by have:=h.r.house.plant.trains.1;have:=hS.plant.trains.1;omega) h.r.house.plant.trains.1 h.r.house.plant.trains.2
 generalize zh9 V.h.plant.trains s=i at *
 have d0:=h.house 1 (u:=V.h.plant.ts.v) rfl
 simp only [SlV.v] at d0
 clear h hS
 go_enter Tryz.func46,Tryz.ntmps46
 go_wp2_with (go_at_call 75;refine IX.mono ?_;rintro e w' ⟨rfl,rfl⟩)
 go_ret
 exact ⟨rfl,rfl⟩
theorem setWorks_ok (w:World) (x b:Nat) (V:BookV) (h:BkAt w x b V) (hS:HouseS V.h) (hq:LsS V.q) (A:Option Addr) (c B:Nat) (s:ByteArray) (hr:Rd w B A (strCells [s])) (i:Int) (hi:zh9 V.h.plant.secs s=i) (h0:0≤i) (hh:zep V.q i<0) (hw:V.wk=⟨none,0,0⟩) (hxw:x≤w.heap.size):Calls Tryz.prog 167 #[.pointer (some ⟨b,0,none⟩),.slice A 1 c] w fun e w'=>∃ A' c',zih w x b { V with wk:=⟨A',1,c'⟩,works:=[i] } e w':=by
 have SE:=section_any w x b V h hS s
 rw [hi] at SE
 obtain ⟨hv,lg,log,day,q,mp,pl,mr,ms,se,wk,works⟩:=V
 simp only at hw hh hq ⊢
 subst hw
 obtain ⟨bb,off,rfl,hbb,z0⟩:=hr.at_ (k:=0) (u:=.string s) rfl
 rw [Nat.add_zero] at z0
 have HH:=Lib.hid h
 have HLK:=Lib.hid h.r.lk
 have d35:=h.cell (i:=35) (u:=.slice none 0 0) rfl
 have d27:=h.cell (i:=27) (u:=q.sw.v) rfl
 have d28:=h.cell (i:=28) (u:=q.tr.v) rfl
 have d29:=h.cell (i:=29) (u:=.int .i64 q.ctr) rfl
 have BS:=fun W=>Tryz.slices_BinarySearch_int_empty none 0 i W
 have U0:=fun e W=>zbk true e 0 rfl W
 have HN:=fun (W:World) (hW:Below w.heap.size w W)=>zku W W.heap.size q i ((HLK.out.keep hW).at) hq (Nat.le_refl _)
 unfold zay at HN
 generalize zep q i=hd at *
 clear hr h hS hi
 go_enter Tryz.func167,Tryz.ntmps167
 go_upto_region 2 with (go_at_call 179;refine SE.mono ?_;rintro e w' ⟨rfl,rfl⟩)
 go_upto_region 3 with (go_at_call 222;refine (BS _).mono ?_;rintro e wB ⟨rfl,hwB⟩;replace hwB:=hwB.symm;subst hwB)
 have x0:=fun y:Xt w=>y.cell d27
 have x1:=fun y:Xt w=>y.cell d28
 have x2:=fun y:Xt w=>y.cell d29
 refine zak [16] (fun w'=>∃ y:Xt w,w'=y.1) (by kernel_rfl) ⟨⟨w.drew,(Below.refl _ _).drew⟩,rfl⟩ ?_
 refine zao [0,1,3,4,6,7,8,9,10] 8 rfl (by kernel_rfl) ?_
 simp only [zad,zac,zaa,zX1,zX2,zX3]
 repeat (go_big_quiet_step (fail))
 refine wpQuiet_nil ?_
 have hbd:Below w.heap.size w w.drew:=(Below.refl _ _).drew
 show wpE _ _ _ _ _ _ _ _ _ w.drew
 generalize w.drew=wd at *
 clear x0 x1 x2 d27 d28 d29
 refine zan (i:=2) rfl (by kernel_rfl) rfl ?_
 unfold zar
 simp only [zad,zac,zaa,zX1,zX2,zX3]
 go_wp2_with (go_at_call 48;refine (U0 _ _).mono ?_;rintro e w' ⟨rfl,rfl⟩)
 refine zab ⟨⟨⟨_,hbd⟩,rfl⟩,?_⟩
 refine zan (i:=5) rfl (by kernel_rfl) rfl ?_
 unfold zar
 simp only [zad,zac,zaa,zX1,zX2,zX3]
 go_wp2_with (go_at_call 48;refine (U0 _ _).mono ?_;rintro e w' ⟨rfl,rfl⟩)
 refine zab ⟨⟨⟨_,hbd⟩,rfl⟩,?_⟩
 have HN1:=HN wd hbd
 clear HN
 refine zan (i:=11) rfl (by kernel_rfl) rfl ?_
 unfold zar
 simp only [zad,zac,zaa,zX1,zX2,zX3]
 go_wp2_with (go_at_call 180;refine HN1.mono ?_;rintro e we ⟨rfl,hbe0⟩)
 have hbe:=hbd.trans (hbe0.mono hbd.size)
 refine zab ⟨⟨⟨_,hbe⟩,rfl⟩,?_⟩
 refine zan (i:=12) rfl (by kernel_rfl) rfl ?_
 unfold zar
 simp only [zad,zac,zaa,zX1,zX2,zX3]
 go_wp2
 refine zab ⟨⟨⟨_,hbe⟩,rfl⟩,?_⟩
 refine zan (i:=13) rfl (by kernel_rfl) rfl ?_
 unfold zar
 simp only [zad,zac,zaa,zX1,zX2,zX3]
 go_wp2_with (go_at_call 48;refine (U0 _ _).mono ?_;rintro e w' ⟨rfl,rfl⟩)
 refine zab ⟨⟨⟨_,hbe⟩,rfl⟩,?_⟩
 refine zan (i:=14) rfl (by kernel_rfl) rfl ?_
 unfold zar
 simp only [zad,zac,zaa,zX1,zX2,zX3]
 go_wp2
 have hbn:=hB1 we (.cells #[.int .i64 0,.int .i64 0,.int .i64 0] 60)
 have kq:=hA1 we (.cells #[.int .i64 0,.int .i64 0,.int .i64 0] 60)
 have hbf:=hbe.trans (hbn.mono hbe.size)
 refine zab ⟨⟨⟨_,hbf⟩,rfl⟩,?_⟩
 refine zan (i:=15) rfl (by kernel_rfl) rfl ?_
 unfold zar
 simp only [zad,zac,zaa,zX1,zX2,zX3]
 go_wp2_with (go_at_call 47;refine (zf2 _ 0 0 0).mono ?_;rintro e w' ⟨rfl,rfl⟩)
 refine zab ⟨⟨⟨_,hbf⟩,rfl⟩,?_⟩
 refine zau rfl (by kernel_rfl) ?_
 simp only [zad,zac,zaa,zX1,zX2,zX3]
 have H2:=HH.out.keep hbf
 have HBX:=Lib.hid hbf
 clear hbf hbn kq hbe hbe0 hbd HN1 U0 z0 d35
 generalize we.alloc (.cells #[.int .i64 0,.int .i64 0,.int .i64 0] 60)=w3 at *
 have d35:=H2.cell (i:=35) (u:=.slice none 0 0) rfl
 go_wp2
 refine zab ?_
 have hbk:=hB1 w3 (.cells #[.int .i64 i] 3)
 have kk:=hA1 w3 (.cells #[.int .i64 i] 3)
 have IN:=InsertNil_ok (w3.alloc (.cells #[.int .i64 i] 3)) w3.heap.size i ((cell_of_row _ _ 0 _ _ _ kk).trans rfl)
 have H3:=H2.keep hbk
 clear d35
 have d35:=H2.cell (i:=35) (u:=.slice none 0 0) rfl
 go_wp2_with (first | (go_at_call 223;refine IN.mono ?_;rintro e w4 ⟨A2,c2,rfl,hc2,ho2,hb4⟩) | (with_reducible refine zas 32 ?_))
 unfold Stp
 have H4:=H3.keep hb4
 have hs3:=hbk.size
 have hlx:=H2.xb
 have hlb:=H2.lt
 have HO2:=za0 ho2 (show x≤_ by omega)
 have f:=frozen_of_row w4 b 35 _ _ H4.blk
 have c:=H4.cell (i:=35) (u:=.slice none 0 0) rfl
 have HS9:Hid (w4.setCell ⟨b,35,none⟩ (.slice A2 1 c2)=w4.setRow b (zbd ⟨hv,lg,log,day,q,mp,pl,mr,ms,se,⟨A2,1,c2⟩,[i]⟩).toArray):=(setCell_eq_setRow w4 b 35 _ 111 (0,0) _ H4.blk).trans (congrArg (w4.setRow b) rfl)
 have HB8:=Lib.hid (H4.put (V':=⟨hv,lg,log,day,q,mp,pl,mr,ms,se,⟨A2,1,c2⟩,[i]⟩) ⟨H4.r.house,H4.r.lk,H4.r.pl,H4.r.rn,H4.r.se,H4.r.ne,rfl,HO2⟩ H4.log H4.ms)
 have HKK:=Lib.hid ((K64.below ((HBX.out.trans (hbk.mono HBX.out.size)).trans (hb4.mono (Nat.le_trans HBX.out.size hs3)))).trans (K64.setRow H4.blk (by decide) (zbd ⟨hv,lg,log,day,q,mp,pl,mr,ms,se,⟨A2,1,c2⟩,[i]⟩).toArray))
 have HBL:=Lib.hid (((HBX.out.trans (hbk.mono HBX.out.size)).trans (hb4.mono (Nat.le_trans HBX.out.size hs3))).mono hxw)
 have HO9:=Lib.hid HO2
 clear H4 H3 H2 hb4 ho2 HO2 kk hbk IN d35
 go_wp2
 go_ret
 exact ⟨A2,c2,rfl,by rw [HS9.out];exact HB8.out,HBL.out.setCell hlx _,by rw [HS9.out];exact HKK.out⟩
end Go.Proofs.YtoodbfkbbchjiaaGreatDoor
