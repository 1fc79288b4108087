import Derived.Test.YtoodbfkbbchjiaaGreatDoorf3Y6
import Derived.Test.YtoodbfkbbchjiaaGreatDoorf3X15
import Derived.Test.YtoodbfkbbchjiaaGreatDoorf3Y4
import Derived.Test.YtoodbfkbbchjiaaGreatDoorf3K4
set_option maxRecDepth 100000
set_option maxHeartbeats 16000000
namespace Go.Proofs.YtoodbfkbbchjiaaGreatDoor
open Go.RowKit
abbrev Rg:=Int × Int
def rgVals (x:Rg):List Value:=[.int .i64 x.1,.int .i64 x.2]
def zc5 (l:List Rg):List Value:=l.flatMap rgVals
theorem info165s:(Tryz.prog.info? 165).map (fun i=>(i.zero,i.size,i.bytes))=some (some (.agg #[.int .i64 0,.int .i64 0]),2,16):=by kernel_rfl
theorem zev (l:List Rg):(zc5 l).length=l.length * 2:=zef (vals:=rgVals) (k:=2) (fun _=>rfl) l
theorem zdg (l:List Rg) (x:Rg):zc5 (l++[x])=zc5 l++[.int .i64 x.1,.int .i64 x.2]:=by simp [zc5,rgVals]
def loT (v:VanV) (t:Int):Int:=v.first+t * v.tooth
def hiT (v:VanV) (t:Int):Int:=v.first+t * v.tooth+v.tooth - 1
def offT (v:VanV) (cnt t:Int):Int:=(t.tmod v.modulus+v.modulus - cnt).tmod v.modulus
def farB (v:VanV) (cnt t:Int):Bool:=decide (v.slack<min (offT v cnt t) (v.modulus - offT v cnt t))
def zfg (l:List Rg) (h:Int):List Rg:=l.dropLast++[((l.getLast?.getD (0,0)).1,h)]
def posS (v:VanV) (cnt:Int) (s:List Rg × Int) (t:Int):List Rg × Int:=
 if farB v cnt t=true then s else if (!s.1.isEmpty && (s.2 == t - 1))=true then (zfg s.1 (hiT v t),t) else (s.1++[(loT v t,hiT v t)],t)
def teeth (v:VanV) (w:Int) (j:Nat):List Int:=(List.range j).map fun (i:Nat)=>w * v.per+(i:Int)
def posW (v:VanV) (cnt:Int) (s:List Rg × Int) (w:Int):List Rg × Int:=(teeth v w v.per.toNat).foldl (posS v cnt) s
def posL (v:VanV) (cnt:Int) (l:List Int):List Rg:=(l.foldl (posW v cnt) ([],-1)).1
theorem teeth_succ (v:VanV) (w:Int) (j:Nat):teeth v w (j+1)=teeth v w j++[w * v.per+(j:Int)]:=by simp [teeth,List.range_succ]
theorem zhy (l:List Rg) (x:Rg) (h:Int):zfg (l++[x]) h=l++[(x.1,h)]:=by simp [zfg]
theorem own_set {w:World} {B e size n g c i:Nat} {xs:List Value} (h:w.ownsRow B e size (.slice (some ⟨g,0,none⟩) n c) n xs) (v:Value) :
 (w.setCell ⟨g,i,none⟩ v).ownsRow B e size (.slice (some ⟨g,0,none⟩) n c) n (xs.set i v):=by
 obtain ⟨h1,h2⟩:=h
 refine ⟨by simpa using h1,?_⟩
 rcases h2 with ⟨h2,_⟩ | ⟨g',cap,cur,h2,h3,h4,h5,h6,h7,h8⟩
 · simp at h2
 · simp only [Value.slice.injEq,Option.some.injEq,Addr.mk.injEq,and_true,true_and] at h2
   obtain ⟨rfl,rfl⟩:=h2
   refine .inr ⟨g,c,cur.setIfInBounds i v,rfl,h3,zdy h4 i v,h5,h6,by simpa using h7,?_⟩
   rw [Array.toList_setIfInBounds,← h8,List.take_set]
theorem rgCells_set (l:List Rg) (x:Rg) (h:Int):(zc5 (l++[x])).set (l.length * 2+1) (.int .i64 h)=zc5 (l++[(x.1,h)]):=by
 rw [zdg,zdg,List.set_append_right _ _ (by rw [zev];omega),zev]
 simp [show l.length * 2+1 - l.length * 2=1 by omega]
theorem field188 (a b:Int) (W:World):Sem.run Tryz.prog (Instr.field 165 (.agg #[.int .i64 a,.int .i64 b]) 1) W=.ok (.int .i64 b) W:=by kernel_rfl
theorem rgCells_at (pre:List Rg) (x:Rg) (m:Nat) (h:pre.length=m):(zc5 (pre++[x]))[m * 2+1]?=some (.int .i64 x.2):=by
 rw [zdg,List.getElem?_append_right (by rw [zev];omega),zev,h]
 simp [show m * 2+1 - m * 2=1 by omega]
def PoRel (w4:World) (v:VanV) (cnt:Int) (l:List Int) (n:Nat) (u8 u9 u39:Value) (wr:World):Prop:=
 ∃ (k:Nat) (out:List Rg) (last:Int),k≤n∧u39=.int .i64 k∧u9=.int .i64 last∧wr.ownsRow w4.heap.size 165 2 u8 out.length (zc5 out)∧Below w4.heap.size w4 wr∧(l.take k).foldl (posW v cnt) ([],-1)=(out,last)∧out.length≤12 * k
def TeRel (w4 wk:World) (v:VanV) (cnt:Int) (s0:List Rg × Int) (nw T0:Int) (m pn:Nat) (u8 u9 u12:Value) (wr:World):Prop:=
 ∃ (j:Nat) (t:Int) (out:List Rg) (last:Int),j≤pn∧t=T0+j∧u12=.int .i64 t∧u9=.int .i64 last∧wr.ownsRow w4.heap.size 165 2 u8 out.length (zc5 out)∧Below w4.heap.size wk wr∧(teeth v nw j).foldl (posS v cnt) s0=(out,last)∧out.length≤m+j
theorem nearI_at {v:VanV} {s:List Int} {k:Nat} {x:Int} (h:(zi7 v s)[k]?=some x):∃ m:Nat,x=m∧(m:Int)<winN v:=by
 have:=List.mem_of_getElem? h
 simp only [zi7,ze0,List.mem_map,List.mem_filter,List.mem_range] at this
 obtain ⟨m,⟨h1,_⟩,rfl⟩:=this
 exact ⟨m,rfl,by omega⟩
theorem tmod_in {a b:Int} (ha:0≤a) (hb:0<b):0≤a.tmod b∧a.tmod b<b:=⟨Int.tmod_nonneg _ ha,Int.tmod_lt_of_pos _ hb⟩
def PosPost (w:World) (E:Int) (l:List Rg) (e:Ending) (w':World):Prop:=
 ∃ A c,e=.returned (.tuple #[.slice A l.length c,.int .i64 E])∧w'.ownsRow w.heap.size 165 2 (.slice A l.length c) l.length (zc5 l)∧Below w.heap.size w w'
theorem Possible_ok (w:World) (B:Nat) (v:VanV) (A2:Option Addr) (m c2:Nat) (s:List Int) (cnt:Int) (h:zcs w B v.vs v.vanes.length (zai v.vanes)) (hB:B≤w.heap.size) (hO:VanOk v) (hs:s.length=m) (hm:m≤12) (hr:Rd w w.heap.size A2 (zai s)) (hE:zhk v s=0) (hc:zaj cnt 0 (v.modulus - 1)=true) :
 Calls Tryz.prog 258 #[.agg (za8 v).toArray,.agg #[.slice A2 m c2,.int .i64 cnt]] w (PosPost w 0 (posL v cnt (zi7 v s))):=by
 obtain ⟨N,hN,hN40,hN1⟩:=hO.winN
 have hc0:0≤cnt∧cnt≤v.modulus - 1:=by simpa [zaj] using hc
 have hb0:=hB2 w (.cells (za8 v).toArray 34) (.cells #[.slice A2 m c2,.int .i64 cnt] 283)
 have k0:=hA2a w (.cells (za8 v).toArray 34) (.cells #[.slice A2 m c2,.int .i64 cnt] 283)
 have k1:=hA2b w (.cells (za8 v).toArray 34) (.cells #[.slice A2 m c2,.int .i64 cnt] 283)
 have hs0:=hS2 w (.cells (za8 v).toArray 34) (.cells #[.slice A2 m c2,.int .i64 cnt] 283)
 have HB:=Lib.hid hb0
 have HV:=Lib.hid (h.keep hb0)
 have HR:=Lib.hid (hr.keep hb0)
 have HO:=Lib.hid hO
 have HS:=Lib.hid hs
 have HE:=Lib.hid hE
 have HC:=Lib.hid hc
 have HNN:=Lib.hid hN
 clear hb0 h hr hs hO hN hE hc
 go_enter Tryz.func258,Tryz.ntmps258
 go_upto_region 1 with (fail)
 generalize (w.alloc (.cells (za8 v).toArray 34)).alloc (.cells #[.slice A2 m c2,.int .i64 cnt] 283)=w0 at *
 generalize hbw:w.heap.size=bw at *
 have HBW:=Lib.hid hbw
 clear hbw
 have OS:=openSeen_any w0 B v A2 m c2 s HV.out (by omega) (by have:=HO.out.most;omega) HS.out (by omega) (HR.out.mono (by omega))
 rw [HE.out] at OS
 obtain ⟨d0,d1⟩:_∧_:=zaz k1
 go_wp2_with (with_reducible refine zaw 34 ?_)
 unfold Stp
 refine wpList_load_row rfl 34 _ rfl bw rfl 34 _ (0,0) _ k0 Tryz.underlying34 rfl (by kernel_rfl) ?_
 go_wp2_with (first | (go_at_call 312;refine OS.mono ?_;rintro e w1 ⟨rfl,hb1⟩) | (with_reducible refine zas 432 ?_))
 have hba:=hB1 w1 (.cells #[.slice none 0 0,.int .i64 0,.int .i64 0,.int .i64 0,.int .i64 0,.int .i64 0,.int .i64 0,.int .i64 0,.bool false] 432)
 have k3:=hA1 w1 (.cells #[.slice none 0 0,.int .i64 0,.int .i64 0,.int .i64 0,.int .i64 0,.int .i64 0,.int .i64 0,.int .i64 0,.bool false] 432)
 unfold Stp
 refine wpList_store_row rfl 432 _ _ rfl w1.heap.size (za8 v).toArray rfl rfl 432 _ k3 (by kernel_rfl) rfl (by kernel_rfl) ?_
 have k4:=setRow_heap _ w1.heap.size _ (za8 v).toArray 432 (0,0) k3
 have hb4:Below w0.heap.size w0 ((w1.alloc (.cells #[.slice none 0 0,.int .i64 0,.int .i64 0,.int .i64 0,.int .i64 0,.int .i64 0,.int .i64 0,.int .i64 0,.bool false] 432)).setRow w1.heap.size (za8 v).toArray):=below_setRow (hb1.trans (hba.mono hb1.size)) hb1.size _
 have hs4:w1.heap.size+1≤((w1.alloc (.cells #[.slice none 0 0,.int .i64 0,.int .i64 0,.int .i64 0,.int .i64 0,.int .i64 0,.int .i64 0,.int .i64 0,.bool false] 432)).setRow w1.heap.size (za8 v).toArray).heap.size:=by simp [World.setRow]
 clear OS hba k3 d0 d1
 go_upto_region 2 with (fail)
 generalize (w1.alloc (.cells #[.slice none 0 0,.int .i64 0,.int .i64 0,.int .i64 0,.int .i64 0,.int .i64 0,.int .i64 0,.int .i64 0,.bool false] 432)).setRow w1.heap.size (za8 v).toArray=w2 at *
 have hy:w0.heap.size≤w1.heap.size:=hb1.size
 generalize w1.heap.size=y at *
 clear hb1
 obtain ⟨d0,d1⟩:_∧_:=zaz (blk hb4 k1)
 obtain ⟨g0,g1,g2,g3,g4,g5,g6,g7,g8⟩:_∧_∧_∧_∧_∧_∧_∧_∧_:=zdl (W:=w2) (r:=bw) (t:=34) (a0:=v.vs.v) (a1:=.int .i64 v.window) (a2:=.int .i64 v.tooth) (a3:=.int .i64 v.per) (a4:=.int .i64 v.first) (a5:=.int .i64 v.modulus) (a6:=.int .i64 v.slack) (a7:=.int .i64 v.errors) (a8:=.bool v.round) (blk hb4 k0)
 have hm1:=HO.out.modu.1
 have hm2:=HO.out.modu.2
 have WI:=fun W=>zcb cnt 0 (v.modulus - 1) true HC.out W
 have U0:=fun e W=>zee true e 0 rfl W
 clear g0 g1 g2 g3 g4 g6 g7 g8 d0
 go_upto_region 3 with (first | (go_at_call 138;refine (WI _).mono ?_;rintro e w' ⟨rfl,rfl⟩) | (go_at_call 137;refine (U0 _ _).mono ?_;rintro e w' ⟨rfl,rfl⟩) | (go_at_call 136;refine (loFirst2 _ _ _).mono ?_;rintro e w' ⟨rfl,rfl⟩))
 have hbn:=hB1 w2 (.cells #[.int .i64 0,.int .i64 0] 60)
 have hb5:=hb4.trans (hbn.mono hb4.size)
 have k5:=blk hbn k4
 have hs5:=hbn.size
 clear WI U0 d1 g5 k4 hbn hb4
 generalize w2.alloc (.cells #[.int .i64 0,.int .i64 0] 60)=w3 at *
 have NE:=near_any w3 B v A2 m c2 s (HV.out.keep hb5) (by have:=hb5.size;omega) HO.out HS.out hm ((HR.out.keep hb5).mono (by have:=hb5.size;omega))
 have k0x:=blk hb5 k0
 have k1x:=blk hb5 k1
 obtain ⟨d0,d1⟩:_∧_:=zaz k1x
 go_wp2_with (with_reducible refine zaw 432 ?_)
 unfold Stp
 refine wpList_load_row rfl 432 _ rfl y rfl 432 _ (0,0) _ k5 Tryz.underlying432 rfl (by kernel_rfl) ?_
 go_wp2_with (go_at_call 313;refine NE.mono ?_;rintro e w4 ⟨A4,c4,rfl,hc4,ho4,hb6⟩)
 clear NE d0 d1
 have HN4:=Lib.hid (za7 ho4)
 have hb06:=hb5.trans (hb6.mono hb5.size)
 have hs6:=hb6.size
 have kv:=blk hb06 k0
 have kc:=blk hb06 k1
 have ky:=blk hb6 k5
 have HB6:=Lib.hid (HB.out.trans (hb06.mono (by omega)))
 clear ho4 hb6 hb5 hb06 k0 k1 k5 k0x k1x
 generalize hL:zi7 v s=L at *
 have HAT:=fun (k:Nat) (x:Int) (h:L[k]?=some x)=>nearI_at (v:=v) (s:=s) (show (zi7 v s)[k]?=some x by rw [hL];exact h)
 have hLn:L.length≤40:=by rw [← hL];exact Nat.le_trans (nearK_len v s _) (by rw [HNN.out];simpa using hN40)
 clear hL
 generalize hln:L.length=n at *
 have HLN:=Lib.hid hln
 clear hln
 go_loopw [8,9,39] (fun u8 u9 u39 wr=>PoRel w4 v cnt L n u8 u9 u39 wr) (fun _ _ u39 _=>n - (intOf u39).toNat)
 case atStart=>exact ⟨0,[],-1,Nat.zero_le _,rfl,rfl,⟨rfl,.inl ⟨rfl,rfl⟩⟩,Below.refl _ _,rfl,Nat.le_refl _⟩
 case round =>
  obtain ⟨k,out,last,hk,rfl,rfl,hown,hb,hf,hol⟩:=hrel
  have HOWN:=Lib.hid hown
  obtain ⟨Au,cu,rfl⟩:=zcn hown
  have HBR:=Lib.hid hb
  have hsr:=hb.size
  have HF:=Lib.hid hf
  clear hf
  by_cases hlt:k<n
  · have hkl:k<L.length:=by rw [HLN.out];exact hlt
    obtain ⟨x,hx⟩:∃ x,L[k]?=some x:=⟨_,List.getElem?_eq_getElem hkl⟩
    obtain ⟨nw,rfl,hnw⟩:=HAT k x hx
    rw [HNN.out] at hnw
    obtain ⟨pn,hpn⟩:∃ pn:Nat,v.per=pn:=⟨v.per.toNat,by have:=HO.out.per.1;omega⟩
    obtain ⟨bb,off,rfl,hbB,z0⟩:=(HN4.out.keep hb).at_ (k:=k) (u:=.int .i64 (nw:Int)) (by simp only [zai,List.getElem?_map,hx,Option.map_some])
    have HX:=Lib.hid hx
    have HPN:=Lib.hid hpn
    clear hx hkl hown hb
    have hp0:=HO.out.per.1
    have hp1:=HO.out.per.2
    have hT:0≤(nw:Int) * v.per∧(nw:Int) * v.per≤480:=⟨Int.mul_nonneg (by omega) (by omega),Int.le_trans (Int.mul_le_mul (show (nw:Int)≤40 by omega) hp1 (by omega) (by omega)) (by omega)⟩
    rw [hpn] at hT
    obtain ⟨T0,hT0⟩:∃ T0,(nw:Int) * (pn:Int)=T0:=⟨_,rfl⟩
    have hT1:((nw:Int)+1) * (pn:Int)=T0+pn:=by rw [Int.add_mul,hT0,Int.one_mul]
    rw [hT0] at hT
    have hpn12:pn≤12:=by have:=HPN.out;omega
    clear hpn hp0 hp1
    have HT0:=Lib.hid hT0
    obtain ⟨_,_,_,g3,_,g5,g6,_,_⟩:_∧_∧_∧_∧_∧_∧_∧_∧_:=zdl (W:=wr) (r:=bw) (t:=34) (a0:=v.vs.v) (a1:=.int .i64 v.window) (a2:=.int .i64 v.tooth) (a3:=.int .i64 v.per) (a4:=.int .i64 v.first) (a5:=.int .i64 v.modulus) (a6:=.int .i64 v.slack) (a7:=.int .i64 v.errors) (a8:=.bool v.round) (blk HBR.out kv)
    rw [HPN.out] at g3
    clear g5 g6
    have HKV:=Lib.hid kv
    have HKC:=Lib.hid kc
    have HKY:=Lib.hid ky
    clear kv kc ky
    go_wp2
    clear z0 g3 hT0 hT1
    have HOL:=Lib.hid hol
    clear hol
    generalize wr=wk at *
    have hkk:w4.heap.size≤wk.heap.size:=HBR.out.size
    go_loopw [8,9,12] (fun u8 u9 u12 wz=>TeRel w4 wk v cnt (out,last) nw T0 out.length pn u8 u9 u12 wz) (fun _ _ u12 _=>((T0+pn) - intOf u12).toNat)
    case atStart=>exact ⟨0,T0,out,last,Nat.zero_le _,by simp,rfl,rfl,HOWN.out,Below.refl _ _,rfl,Nat.le_refl _⟩
    case round =>
     obtain ⟨j,t,out2,last2,hj,ht,rfl,rfl,hown2,hb2,hf2,hol2⟩:=hrel
     have HOW2:=Lib.hid hown2
     obtain ⟨A8,c8,rfl⟩:=zcn hown2
     have HB2:=Lib.hid hb2
     have hsr2:=hb2.size
     have HF2:=Lib.hid hf2
     have HTT:=Lib.hid ht
     have ht0:0≤t:=by omega
     have ht1:t≤492:=by omega
     have HBX:=Lib.hid (HBR.out.trans hb2)
     obtain ⟨_,_,_,g3,_,g5,g6,_,_⟩:_∧_∧_∧_∧_∧_∧_∧_∧_:=zdl (W:=wr) (r:=bw) (t:=34) (a0:=v.vs.v) (a1:=.int .i64 v.window) (a2:=.int .i64 v.tooth) (a3:=.int .i64 v.per) (a4:=.int .i64 v.first) (a5:=.int .i64 v.modulus) (a6:=.int .i64 v.slack) (a7:=.int .i64 v.errors) (a8:=.bool v.round) (blk HBX.out HKV.out)
     rw [HPN.out] at g3
     have hT1:((nw:Int)+1) * (pn:Int)=T0+pn:=by rw [Int.add_mul,HT0.out,Int.one_mul]
     clear hown2 hb2 hf2 ht
     by_cases hlt2:t<T0+pn
     · obtain ⟨_,d1⟩:_∧_:=zaz (blk HBX.out HKC.out)
       obtain ⟨r1,hr1⟩:∃ r1,t.tmod v.modulus=r1:=⟨_,rfl⟩
       have hr1b:=tmod_in (a:=t) (b:=v.modulus) (by omega) (by omega)
       rw [hr1] at hr1b
       obtain ⟨r2,hr2⟩:∃ r2,(r1+v.modulus - cnt).tmod v.modulus=r2:=⟨_,rfl⟩
       have hr2b:=tmod_in (a:=r1+v.modulus - cnt) (b:=v.modulus) (by omega) (by omega)
       rw [hr2] at hr2b
       have HFAR:Hid (farB v cnt t=decide (v.slack<min r2 (v.modulus - r2))):=by rw [Hid,farB,offT,hr1,hr2]
       go_upto_region 13 with (fail)
       have x0:=fun y:Xt wr=>y.cell g5
       have x1:=fun y:Xt wr=>y.cell d1
       refine zak [13] (fun w'=>∃ y:Xt wr,w'=y.1) (by kernel_rfl) ⟨⟨wr.drew,(Below.refl _ _).drew⟩,rfl⟩ ?_
       refine zao [0,1,2,3,4,5,6,7,8,9,10,11,12] 1 rfl (by kernel_rfl) ?_
       simp only [zad,zac,zaa,zX1,zX2,zX3]
       repeat (go_big_quiet_step (fail))
       refine wpQuiet_nil ?_
       have hbd:Below wr.heap.size wr wr.drew:=(Below.refl _ _).drew
       show wpE _ _ _ _ _ _ _ _ _ wr.drew
       generalize wr.drew=we at *
       clear x0 x1 d1 hr1 hr2 hT1 g3 g5
       refine zau rfl (by kernel_rfl) ?_
       simp only [zad,zac,zaa,zX1,zX2,zX3]
       go_wp2
       refine zab ?_
       replace g6:=zat hbd g6
       obtain ⟨_,_,_,_,_,g5,_,_,_⟩:_∧_∧_∧_∧_∧_∧_∧_∧_:=zdl (W:=we) (r:=bw) (t:=34) (a0:=v.vs.v) (a1:=.int .i64 v.window) (a2:=.int .i64 v.tooth) (a3:=.int .i64 v.per) (a4:=.int .i64 v.first) (a5:=.int .i64 v.modulus) (a6:=.int .i64 v.slack) (a7:=.int .i64 v.errors) (a8:=.bool v.round) (blk hbd (blk HBX.out HKV.out))
       have hjp:j+1≤pn:=by have:=HTT.out;omega
       have hq9:out2.length≤500:=by have:=HOL.out;omega
       have HSTEP:Hid ((teeth v nw (j+1)).foldl (posS v cnt) (out,last)=posS v cnt (out2,last2) t):=by
        rw [Hid,teeth_succ,List.foldl_append,HF2.out,HPN.out,HT0.out,← HTT.out]
        rfl
       have HBE:=Lib.hid (HB2.out.trans (hbd.mono (Nat.le_trans hkk hsr2)))
       have HOWE:=Lib.hid (zaf HOW2.out hbd)
       have hse:=Nat.le_trans (Nat.le_trans hkk hsr2) hbd.size
       clear hbd
       by_cases hA:v.slack<min r2 (v.modulus - r2)
       · have HST:Hid (posS v cnt (out2,last2) t=(out2,last2)):=by rw [Hid,posS,HFAR.out,if_pos (by simpa using hA)]
         go_wp2
         go_roundw
         case rel=>exact ⟨j+1,t+1,out2,last2,by omega,by have:=HTT.out;omega,rfl,rfl,HOWE.out,HBE.out,by rw [HSTEP.out,HST.out],by omega⟩
         case measure=>simp [intOf];omega
       · have hA2:farB v cnt t=false:=by rw [HFAR.out];simpa using hA
         have HST:Hid (posS v cnt (out2,last2) t=if (!out2.isEmpty && (last2 == t - 1))=true then (zfg out2 (hiT v t),t) else (out2++[(loT v t,hiT v t)],t)):=by rw [Hid,posS,if_neg (by rw [hA2];decide)]
         have HA:=Lib.hid hA
         clear hA2
         have hky:=blk (HBR.out.trans HBE.out) HKY.out
         have hto0:=HO.out.tooth.1
         have hto1:=HO.out.tooth.2
         have hp9:0≤t * v.tooth∧t * v.tooth≤1000000:=⟨Int.mul_nonneg ht0 (by omega),Int.le_trans (Int.mul_le_mul ht1 hto1 (by omega) (by omega)) (by omega)⟩
         obtain ⟨pp,hpp⟩:∃ pp,t * v.tooth=pp:=⟨_,rfl⟩
         rw [hpp] at hp9
         have PL:=fun W=>places_val v t t pp pp hpp hpp hp9.1 hp9.2 hp9.1 hp9.2 HO.out.first.1 HO.out.first.2 (by omega) hto1 W
         have HLO:Hid (loT v t=v.first+pp∧hiT v t=v.first+pp+v.tooth - 1):=⟨by rw [loT,hpp],by rw [hiT,hpp]⟩
         clear hpp hto0 hto1 hp9
         generalize hlo:v.first+pp=lo at *
         generalize hhi:lo+v.tooth - 1=hi at *
         clear hlo hhi
         obtain ⟨i1,hi1,hy0,hy1,hy2⟩:=info_parts info165s
         generalize hLq:out2.length=Lq at *
         have HLQ:=Lib.hid hLq
         clear hLq
         by_cases hq:0<Lq
         · cases hz:(last2 == t - 1) with
           | true =>
            have HST2:Hid (posS v cnt (out2,last2) t=(zfg out2 (hiT v t),t)):=by
             rw [Hid,HST.out,if_pos]
             have:out2.isEmpty=false:=by
              cases out2 with
              | nil=>have:=HLQ.out;simp at this;omega
              | cons=>rfl
             rw [this,hz];rfl
            obtain ⟨pre,xx,rfl⟩:∃ pre xx,out2=pre++[xx]:=by
             rcases List.eq_nil_or_concat out2 with h9 | ⟨pre,xx,h9⟩
             · rw [h9] at HLQ;have:=HLQ.out;simp at this;omega
             · exact ⟨pre,xx,by rw [h9,List.concat_eq_append]⟩
            obtain ⟨m9,rfl⟩:∃ m9,Lq=m9+1:=⟨Lq - 1,by omega⟩
            have hm9:pre.length=m9:=by have:=HLQ.out;simp at this;omega
            obtain ⟨g,cur,rfl,hg,hcur⟩:=own_at HOWE.out (by omega)
            go_wp2_with (with_reducible refine zaw 432 ?_)
            unfold Stp
            refine wpList_load_row rfl 432 _ rfl y rfl 432 _ (0,0) _ hky Tryz.underlying432 rfl (by kernel_rfl) ?_
            have FI:=field188 lo hi
            go_wp2_with (go_at_call 314;refine (PL _).mono ?_;rintro e wp ⟨rfl,hbp⟩;have fz:=frozen_of_row wp g (m9 * 2+1) _ _ (blk hbp hcur);have cz:wp.cell? ⟨g,m9 * 2+1,none⟩=some (.int .i64 xx.2):=(by have h9:=zby (za7 (zaf HOWE.out hbp)) (k:=m9 * 2+1) (u:=.int .i64 xx.2) (rgCells_at pre xx m9 hm9);rwa [Nat.zero_add] at h9))
            have HB7:=Lib.hid ((HBE.out.trans (hbp.mono hse)).setCell (p:=⟨g,m9 * 2+1,none⟩) hg (.int .i64 hi))
            have HO7:Hid ((wp.setCell ⟨g,m9 * 2+1,none⟩ (.int .i64 hi)).ownsRow w4.heap.size 165 2 (.slice (some ⟨g,0,none⟩) (m9+1) c8) (zfg (pre++[xx]) (hiT v t)).length (zc5 (zfg (pre++[xx]) (hiT v t)))):=by
             rw [Hid,zhy,HLO.out.2,← rgCells_set,hm9]
             simpa [hm9] using own_set (zaf HOWE.out hbp) (i:=m9 * 2+1) (.int .i64 hi)
            clear hbp hcur fz cz hy0 hy1 hy2 hi1 hky PL
            go_wp2
            go_roundw
            case rel=>exact ⟨j+1,t+1,zfg (pre++[xx]) (hiT v t),t,by omega,by have:=HTT.out;omega,rfl,rfl,HO7.out,HB7.out,by rw [HSTEP.out,HST2.out],by rw [zhy,List.length_append,hm9];simp;omega⟩
            case measure=>simp [intOf];omega
           | false =>
            have HST2:Hid (posS v cnt (out2,last2) t=(out2++[(loT v t,hiT v t)],t)):=by rw [Hid,HST.out,hz,if_neg (by simp)]
            go_wp2_with (with_reducible refine zaw 432 ?_)
            unfold Stp
            refine wpList_load_row rfl 432 _ rfl y rfl 432 _ (0,0) _ hky Tryz.underlying432 rfl (by kernel_rfl) ?_
            go_wp2_with (first | (go_at_call 314;refine (PL _).mono ?_;rintro e wp ⟨rfl,hbp⟩) | (at_builtin;refine stp ?_))
            unfold Stp
            have hxo:=HOWE.out
            have hop:=zaf hxo hbp
            have hba:=hB1 wp (.cells #[.int .i64 lo,.int .i64 hi] 165)
            refine wpList_append_lies _ rfl _ _ 374 rfl w4.heap.size 165 i1 _ 2 16 Tryz.underlying374 hi1 hy0 hy1 hy2 rfl (by omega) (.slice A8 Lq c8) Lq _ rfl (zaf hop hba) ⟨wp.heap.size,0,none⟩ 1 1 [.int .i64 lo,.int .i64 hi] rfl rfl (zey (f:=(0,0)) (t:=165) (by rw [zae,if_pos rfl])) (by simp [Value.oneCell']) (by omega) (by simp only [maxLen];omega) (by omega) (by have:=hbp.size;simp;omega) _ rfl ?_
            intro gg cap2 w6 hown6 hgrow6 _ _
            have hb6:=((HBE.out.trans (hbp.mono hse)).trans (hba.mono (Nat.le_trans hse hbp.size))).grown hgrow6 (by have:=hbp.size;simp;omega) (fun q hq=>(zbi (zaf hop hba) hq).1)
            have HB7:=Lib.hid hb6
            have HO7:Hid (w6.ownsRow w4.heap.size 165 2 (.slice (some ⟨gg,0,none⟩) (Lq+1) cap2) (out2++[(loT v t,hiT v t)]).length (zc5 (out2++[(loT v t,hiT v t)]))):=by
             rw [Hid,zdg,List.length_append,HLQ.out,HLO.out.1,HLO.out.2]
             exact hown6
            clear hown6 hgrow6 hb6 hba hop hxo hbp hy0 hy1 hy2 hi1 hky PL
            go_wp2
            go_roundw
            case rel=>exact ⟨j+1,t+1,out2++[(loT v t,hiT v t)],t,by omega,by have:=HTT.out;omega,rfl,rfl,HO7.out,HB7.out,by rw [HSTEP.out,HST2.out],by rw [List.length_append,HLQ.out];simp;omega⟩
            case measure=>simp [intOf];omega
         · have HST2:Hid (posS v cnt (out2,last2) t=(out2++[(loT v t,hiT v t)],t)):=by
            obtain rfl:out2=[]:=List.eq_nil_of_length_eq_zero (by have:=HLQ.out;omega)
            rw [Hid,HST.out];rfl
           obtain rfl:Lq=0:=by omega
           go_wp2_with (with_reducible refine zaw 432 ?_)
           unfold Stp
           refine wpList_load_row rfl 432 _ rfl y rfl 432 _ (0,0) _ hky Tryz.underlying432 rfl (by kernel_rfl) ?_
           go_wp2_with (first | (go_at_call 314;refine (PL _).mono ?_;rintro e wp ⟨rfl,hbp⟩) | (at_builtin;refine stp ?_))
           unfold Stp
           have hxo:=HOWE.out
           have hop:=zaf hxo hbp
           have hba:=hB1 wp (.cells #[.int .i64 lo,.int .i64 hi] 165)
           refine wpList_append_lies _ rfl _ _ 374 rfl w4.heap.size 165 i1 _ 2 16 Tryz.underlying374 hi1 hy0 hy1 hy2 rfl (by omega) (.slice A8 0 c8) 0 _ rfl (zaf hop hba) ⟨wp.heap.size,0,none⟩ 1 1 [.int .i64 lo,.int .i64 hi] rfl rfl (zey (f:=(0,0)) (t:=165) (by rw [zae,if_pos rfl])) (by simp [Value.oneCell']) (by omega) (by simp only [maxLen];omega) (by omega) (by have:=hbp.size;simp;omega) _ rfl ?_
           intro gg cap2 w6 hown6 hgrow6 _ _
           have hb6:=((HBE.out.trans (hbp.mono hse)).trans (hba.mono (Nat.le_trans hse hbp.size))).grown hgrow6 (by have:=hbp.size;simp;omega) (fun q hq=>(zbi (zaf hop hba) hq).1)
           have HB7:=Lib.hid hb6
           have HO7:Hid (w6.ownsRow w4.heap.size 165 2 (.slice (some ⟨gg,0,none⟩) (0+1) cap2) (out2++[(loT v t,hiT v t)]).length (zc5 (out2++[(loT v t,hiT v t)]))):=by
            rw [Hid,zdg,List.length_append,HLQ.out,HLO.out.1,HLO.out.2]
            exact hown6
           clear hown6 hgrow6 hb6 hba hop hxo hbp hy0 hy1 hy2 hi1 hky PL
           go_wp2
           go_roundw
           case rel=>exact ⟨j+1,t+1,out2++[(loT v t,hiT v t)],t,by omega,by have:=HTT.out;omega,rfl,rfl,HO7.out,HB7.out,by rw [HSTEP.out,HST2.out],by rw [List.length_append,HLQ.out];simp;omega⟩
           case measure=>simp [intOf];omega
     · have hje:j=pn:=by have:=HTT.out;omega
       have HSTEP:Hid ((L.take (k+1)).foldl (posW v cnt) ([],-1)=(out2,last2)):=by
        rw [Hid,List.take_add_one,HX.out,List.foldl_append,HF.out]
        show posW v cnt (out,last) (nw:Int)=_
        rw [posW,HPN.out,Int.toNat_natCast,← hje,HF2.out]
       have HBE:=Lib.hid (HBR.out.trans HB2.out)
       clear g5 g6
       go_wp2
       go_roundw
       case rel=>exact ⟨k+1,out2,last2,hlt,by go_num,rfl,HOW2.out,HBE.out,HSTEP.out,by have:=HOL.out;omega⟩
       case measure=>simp [intOf];omega
  · obtain rfl:k=n:=by omega
    have e:L.take k=L:=List.take_of_length_le (by rw [HLN.out];exact Nat.le_refl _)
    have HF2:Hid (posL v cnt L=out):=by rw [Hid,posL,← e,HF.out]
    clear hb hown
    go_wp2
    go_ret2
    rw [HF2.out]
    exact ⟨Au,cu,rfl,za0 HOWN.out (by rw [HBW.out];omega),by rw [HBW.out];exact HB6.out.trans (HBR.out.mono (by omega))⟩
theorem only_ok (w:World) (B:Nat) (A:Option Addr) (c:Nat) (x:Rg) (h:Rd w B A (zc5 [x])):Calls Tryz.prog 257 #[.slice A 1 c,.int .i64 0] w fun e w'=>e=.returned (.tuple #[.agg #[.int .i64 x.1,.int .i64 x.2],.int .i64 0])∧Below w.heap.size w w':=by
 have hb0:=hB2 w (.cells #[.int .i64 0,.int .i64 0] 165) (.cells #[.int .i64 0,.int .i64 0] 165)
 have k0:=hA2a w (.cells #[.int .i64 0,.int .i64 0] 165) (.cells #[.int .i64 0,.int .i64 0] 165)
 have hs0:=hS2 w (.cells #[.int .i64 0,.int .i64 0] 165) (.cells #[.int .i64 0,.int .i64 0] 165)
 obtain ⟨bb,off,rfl,hbb,z0⟩:=(h.keep hb0).at_ (k:=0) (u:=.int .i64 x.1) rfl
 have z1:=zby (h.keep hb0) (k:=1) (u:=.int .i64 x.2) rfl
 rw [Nat.add_zero] at z0
 have HB:=Lib.hid hb0
 have U0:=fun e W=>zee true e 0 rfl W
 clear hb0 h
 go_enter Tryz.func257,Tryz.ntmps257
 go_upto_region 2 with (fail)
 generalize (w.alloc (.cells #[.int .i64 0,.int .i64 0] 165)).alloc (.cells #[.int .i64 0,.int .i64 0] 165)=w0 at *
 generalize hbw:w.heap.size=bw at *
 have HBW:=Lib.hid hbw
 clear hbw
 go_upto_region 3 with (first | (go_at_call 137;refine (U0 _ _).mono ?_;rintro e w' ⟨rfl,rfl⟩) | (go_at_call 136;refine (zlz _ _ _ _).mono ?_;rintro e w' ⟨rfl,rfl⟩))
 have hbn:=hB1 w0 (.cells #[.int .i64 0,.int .i64 0,.int .i64 0] 60)
 have HB1:=Lib.hid (HB.out.trans (hbn.mono (by omega)))
 replace k0:=blk hbn k0
 replace z0:=zat hbn z0
 replace z1:=zat hbn z1
 clear hbn U0
 generalize w0.alloc (.cells #[.int .i64 0,.int .i64 0,.int .i64 0] 60)=w1 at *
 go_wp2_with (with_reducible refine zas 165 ?_)
 unfold Stp
 refine wpList_store_row rfl 165 _ _ rfl bw #[.int .i64 x.1,.int .i64 x.2] rfl rfl 165 _ k0 (by kernel_rfl) rfl (by kernel_rfl) ?_
 have kr:=setRow_heap w1 bw _ #[.int .i64 x.1,.int .i64 x.2] 165 (0,0) k0
 have hbr:Below bw w (w1.setRow bw #[.int .i64 x.1,.int .i64 x.2]):=below_setRow HB1.out (Nat.le_refl _) _
 generalize w1.setRow bw #[.int .i64 x.1,.int .i64 x.2]=w2 at *
 go_wp2
 obtain ⟨c0,c1⟩:_∧_:=zaz kr
 refine bodyPost_ret (v:=.tuple #[.agg #[.int .i64 x.1,.int .i64 x.2],.int .i64 0]) (by simp [results,Tryz.results257,go_sem,c0,c1,zam]) rfl ⟨rfl,by rw [HBW.out];exact hbr⟩
theorem PlaceOf_ok (w:World) (B:Nat) (v:VanV) (A2:Option Addr) (m c2:Nat) (s:List Int) (cnt:Int) (x:Rg) (h:zcs w B v.vs v.vanes.length (zai v.vanes)) (hB:B≤w.heap.size) (hO:VanOk v) (hs:s.length=m) (hm:m≤12) (hr:Rd w w.heap.size A2 (zai s)) (hE:zhk v s=0) (hc:zaj cnt 0 (v.modulus - 1)=true) (hx:posL v cnt (zi7 v s)=[x]) :
 Calls Tryz.prog 205 #[.agg (za8 v).toArray,.agg #[.slice A2 m c2,.int .i64 cnt]] w fun e w'=>e=.returned (.tuple #[.agg #[.int .i64 x.1,.int .i64 x.2],.int .i64 0])∧Below w.heap.size w w':=by
 have hb0:Below w.heap.size w (((w.alloc (.cells (za8 v).toArray 34)).alloc (.cells #[.slice A2 m c2,.int .i64 cnt] 283)).alloc (.cells #[.int .i64 0,.int .i64 0] 165)):=(((Below.refl _ _).alloc (Nat.le_refl _) _).alloc (by simp) _).alloc (by simp;omega) _
 have k0:(((w.alloc (.cells (za8 v).toArray 34)).alloc (.cells #[.slice A2 m c2,.int .i64 cnt] 283)).alloc (.cells #[.int .i64 0,.int .i64 0] 165)).heap[w.heap.size]?=some (.cells (za8 v).toArray 34 (0,0)):=by rw [zae,if_neg (by simp;omega),zae,if_neg (by simp),zae,if_pos rfl]
 have k1:(((w.alloc (.cells (za8 v).toArray 34)).alloc (.cells #[.slice A2 m c2,.int .i64 cnt] 283)).alloc (.cells #[.int .i64 0,.int .i64 0] 165)).heap[w.heap.size+1]?=some (.cells #[.slice A2 m c2,.int .i64 cnt] 283 (0,0)):=by rw [zae,if_neg (by simp),zae,if_pos (by simp)]
 have k2:(((w.alloc (.cells (za8 v).toArray 34)).alloc (.cells #[.slice A2 m c2,.int .i64 cnt] 283)).alloc (.cells #[.int .i64 0,.int .i64 0] 165)).heap[w.heap.size+2]?=some (.cells #[.int .i64 0,.int .i64 0] 165 (0,0)):=by rw [zae,if_pos (by simp)]
 have hs0:w.heap.size+3≤(((w.alloc (.cells (za8 v).toArray 34)).alloc (.cells #[.slice A2 m c2,.int .i64 cnt] 283)).alloc (.cells #[.int .i64 0,.int .i64 0] 165)).heap.size:=by simp
 have PO:=Possible_ok (((w.alloc (.cells (za8 v).toArray 34)).alloc (.cells #[.slice A2 m c2,.int .i64 cnt] 283)).alloc (.cells #[.int .i64 0,.int .i64 0] 165)) B v A2 m c2 s cnt (h.keep hb0) (by omega) hO hs hm ((hr.keep hb0).mono (by omega)) hE hc
 rw [hx] at PO
 have HB:=Lib.hid hb0
 clear hb0 h hr hO hs hE hc hx
 go_enter Tryz.func205,Tryz.ntmps205
 go_upto_region 1 with (fail)
 generalize ((w.alloc (.cells (za8 v).toArray 34)).alloc (.cells #[.slice A2 m c2,.int .i64 cnt] 283)).alloc (.cells #[.int .i64 0,.int .i64 0] 165)=w0 at *
 generalize hbw:w.heap.size=bw at *
 have HBW:=Lib.hid hbw
 clear hbw
 go_wp2_with (with_reducible refine zaw 34 ?_)
 unfold Stp
 refine wpList_load_row rfl 34 _ rfl bw rfl 34 _ (0,0) _ k0 Tryz.underlying34 rfl (by kernel_rfl) ?_
 go_wp2_with (with_reducible refine zaw 283 ?_)
 unfold Stp
 refine wpList_load_row rfl 283 _ rfl (bw+1) rfl 283 _ (0,0) _ k1 Tryz.underlying283 rfl (by kernel_rfl) ?_
 go_wp2_with (first | (go_at_call 258;refine PO.mono ?_;rintro e w1 ⟨A1,c1,rfl,ho1,hb1⟩) | (go_at_call 257;refine stp ?_))
 unfold Stp
 have ON:=only_ok w1 w1.heap.size A1 c1 x (za7 ho1)
 refine ON.mono ?_
 rintro e w2 ⟨rfl,hb2⟩
 have hb12:=hb1.trans (hb2.mono hb1.size)
 have k9:=blk hb12 k2
 go_wp2_with (with_reducible refine zas 165 ?_)
 unfold Stp
 refine wpList_store_row rfl 165 _ _ rfl (bw+2) #[.int .i64 x.1,.int .i64 x.2] rfl rfl 165 _ k9 (by kernel_rfl) rfl (by kernel_rfl) ?_
 have kr:=setRow_heap w2 (bw+2) _ #[.int .i64 x.1,.int .i64 x.2] 165 (0,0) k9
 have hbr:Below bw w (w2.setRow (bw+2) #[.int .i64 x.1,.int .i64 x.2]):=below_setRow (HB.out.trans (hb12.mono (by omega))) (by omega) _
 generalize w2.setRow (bw+2) #[.int .i64 x.1,.int .i64 x.2]=w3 at *
 go_wp2
 obtain ⟨c0,c1⟩:_∧_:=zaz kr
 refine bodyPost_ret (v:=.tuple #[.agg #[.int .i64 x.1,.int .i64 x.2],.int .i64 0]) (by simp [results,Tryz.results205,go_sem,c0,c1]) rfl ⟨rfl,by rw [HBW.out];exact hbr⟩
theorem zln (w:World) (s:Sy):Calls Tryz.prog 42 #[syV s] w (zay w (zj4 s)):=by
 obtain ⟨a,b,c⟩:=s
 unfold syV
 simp only
 obtain ⟨c0,c1,c2⟩:_∧_∧_:=zba (W:=(w.alloc (.cells #[.int .i64 a,.int .i64 b,.int .i64 c] 39))) (by rw [zae,if_pos rfl])
 have hb0:=hB1 w (.cells #[.int .i64 a,.int .i64 b,.int .i64 c] 39)
 have HB:=Lib.hid hb0
 obtain ⟨q1,hq1⟩:∃ q,zaj a 1 3000=q:=⟨_,rfl⟩
 obtain ⟨q2,hq2⟩:∃ q,zaj b 0 500=q:=⟨_,rfl⟩
 obtain ⟨q3,hq3⟩:∃ q,zaj c 0 2000=q:=⟨_,rfl⟩
 have D1:=fun W=>za1 a 1 3000 q1 hq1 W
 have D2:=fun W=>za1 b 0 500 q2 hq2 W
 have D3:=fun W=>za1 c 0 2000 q3 hq3 W
 have HE:Hid (zj4 ⟨a,b,c⟩=zam [zag (q1 && q2 && q3) 2,zag (decide (b≤a)) 9]):=by rw [Hid,← hq1,← hq2,← hq3];rfl
 clear hb0 hq1 hq2 hq3
 by_cases hd:a<b
 · have hd2:¬ b≤a:=by omega
   have HD:Hid (decide (b≤a)=false):=by simp [Hid,hd2]
   clear hd2
   cases q1 <;> cases q2 <;> cases q3
   all_goals
    go_enter Tryz.func42,Tryz.ntmps42
    go_upto_region 1 with (fail)
    generalize (w.alloc (.cells #[.int .i64 a,.int .i64 b,.int .i64 c] 39))=w0 at *
    go_wp2_with (first | (go_at_call_of 9 (Value.int .i64 a);refine (D1 _).mono ?_;rintro e w' ⟨rfl,rfl⟩) | (go_at_call_of 9 (Value.int .i64 b);refine (D2 _).mono ?_;rintro e w' ⟨rfl,rfl⟩) | (go_at_call_of 9 (Value.int .i64 c);refine (D3 _).mono ?_;rintro e w' ⟨rfl,rfl⟩))
    go_ret
    exact ⟨by rw [HE.out,HD.out];rfl,HB.out⟩
 · have hd2:b≤a:=by omega
   have HD:Hid (decide (b≤a)=true):=by simp [Hid,hd2]
   clear hd2
   cases q1 <;> cases q2 <;> cases q3
   all_goals
    go_enter Tryz.func42,Tryz.ntmps42
    go_upto_region 1 with (fail)
    generalize (w.alloc (.cells #[.int .i64 a,.int .i64 b,.int .i64 c] 39))=w0 at *
    go_wp2_with (first | (go_at_call_of 9 (Value.int .i64 a);refine (D1 _).mono ?_;rintro e w' ⟨rfl,rfl⟩) | (go_at_call_of 9 (Value.int .i64 b);refine (D2 _).mono ?_;rintro e w' ⟨rfl,rfl⟩) | (go_at_call_of 9 (Value.int .i64 c);refine (D3 _).mono ?_;rintro e w' ⟨rfl,rfl⟩))
    go_ret
    exact ⟨by rw [HE.out,HD.out];rfl,HB.out⟩
theorem refTrack_any (w:World) (B:Nat) (nm:ByteArray) (s:SlV) (l:List Pc) (h:zcs w B s l.length (zcj l)) (hB:B≤w.heap.size) (hn:l.length≤1000) (hs9:nm.size≤1000) :
 Calls Tryz.prog 71 #[zea nm s.A s.n s.c] w fun e w'=>∃ i:Int,e=.returned (.tuple #[.int .i64 i,.int .i64 (zeb nm l)])∧Below w.heap.size w w':=by
 obtain ⟨A,n,c⟩:=s
 obtain ⟨hl,hr⟩:=h
 simp only at hl hr
 unfold zea
 rw [hl] at hn
 have HL:=Lib.hid hl
 obtain ⟨c0,c1⟩:_∧_:=zaz (W:=(w.alloc (.cells #[.string nm,.slice A n c] 37))) (by rw [zae,if_pos rfl])
 have hb0:=hB1 w (.cells #[.string nm,.slice A n c] 37)
 have HR:=Lib.hid (hr.below (hb0.mono hB))
 have HB:=Lib.hid hb0
 have hs0:=hb0.size
 obtain ⟨q1,hq1⟩:∃ q,za3 nm=q:=⟨_,rfl⟩
 have NM:=fun W=>zbv nm q1 hq1 (by omega) W
 obtain ⟨V,hV⟩:∃ V,zeb nm l=V:=⟨_,rfl⟩
 obtain ⟨V2,hV2⟩:∃ V,za2 (fun _ p=>pcE p) [] l=V:=⟨_,rfl⟩
 rw [hV]
 have HV:Hid (V=zam [zag q1 4,zag (decide (0<(n:Int))) 10,zag (decide ((n:Int)≤12)) 8,V2]):=by
  rw [Hid,← hV,← hq1,← hV2,zeb]
  simp only [HL.out]
 have HV2:=Lib.hid hV2
 clear hl hr hb0 hq1 hV hV2
 go_enter Tryz.func71,Tryz.ntmps71
 go_upto_region 1 with (fail)
 generalize (w.alloc (.cells #[.string nm,.slice A n c] 37))=w0 at *
 generalize hbw:w.heap.size=bw at *
 have HBW:=Lib.hid hbw
 clear hbw
 cases q1 with
 | false =>
  have HN:Hid (V=4):=by rw [Hid,HV.out];rfl
  go_wp2_with (go_at_call 73;refine (NM _).mono ?_;rintro e w' ⟨rfl,rfl⟩)
  go_ret2
  exact ⟨0,by rw [HN.out];rfl,by rw [HBW.out];exact HB.out⟩
 | true =>
  by_cases h0:n=0
  · have HN:Hid (V=10):=by rw [Hid,HV.out,h0];rfl
    subst h0
    go_wp2_with (go_at_call 73;refine (NM _).mono ?_;rintro e w' ⟨rfl,rfl⟩)
    go_ret2
    exact ⟨0,by rw [HN.out];rfl,by rw [HBW.out];exact HB.out⟩
  have g0:((n:Int) == 0)=false:=beq_eq_false_iff_ne.2 (by omega)
  have g0':0<(n:Int):=by omega
  by_cases h12:(12:Int)<(n:Int)
  · have HN:Hid (V=8):=by
     have g:¬ (n:Int)≤12:=by omega
     rw [Hid,HV.out]
     simp only [g0',g,decide_true,decide_false]
     rfl
    clear g0'
    go_wp2_with (go_at_call 73;refine (NM _).mono ?_;rintro e w' ⟨rfl,rfl⟩)
    go_ret2
    exact ⟨0,by rw [HN.out];rfl,by rw [HBW.out];exact HB.out⟩
  have HN:Hid (V=V2):=by
   have g:(n:Int)≤12:=by omega
   rw [Hid,HV.out]
   simp only [g0',g,decide_true]
   by_cases hz:V2=0
   · rw [hz];rfl
   · simp [zam,zag,hz]
  clear g0' HV
  go_wp2_with (go_at_call 73;refine (NM _).mono ?_;rintro e w' ⟨rfl,rfl⟩)
  go_loopw [4] (fun u wr=>zkd w0 (fun _ p=>pcE p) l n V2 u wr) (fun u _=>n - (intOf u).toNat)
  case atStart=>exact ⟨0,Nat.zero_le _,rfl,HV2.out,Below.refl _ _⟩
  case round =>
   obtain ⟨k,hk,rfl,hgo,hb⟩:=hrel
   have HGO:=Lib.hid hgo
   have HBK:=Lib.hid hb
   have hr:=HR.out.below (hb.mono (by omega))
   have hsk:=hb.size
   replace c1:=zat hb c1
   clear hgo hb c0
   by_cases hlt:k<n
   · have hkl:k<l.length:=by rw [HL.out];exact hlt
     obtain ⟨ev,hev⟩:∃ ev,l[k]?=some ev:=⟨_,List.getElem?_eq_getElem hkl⟩
     obtain ⟨bb,off,rfl,hbB,z0,z1,z2,z3⟩:=Rd.pc hr hev
     have HSV:=Lib.hid hev
     obtain ⟨pl,pg,pm,pv⟩:=ev
     simp only at z0 z1 z2 z3
     obtain ⟨d0,d1,d2,d3⟩:_∧_∧_∧_:=zbo (W:=wr.alloc (.cells #[.int .i64 pl,.int .i64 pg,.int .i64 pm,.bool pv] 120)) (by rw [zae,if_pos rfl])
     have hba:=hB1 wr (.cells #[.int .i64 pl,.int .i64 pg,.int .i64 pm,.bool pv] 120)
     have HBA:=Lib.hid (HBK.out.trans (hba.mono hsk))
     obtain ⟨b1,hb1⟩:∃ b,zaj pl 1 10000000=b:=⟨_,rfl⟩
     obtain ⟨b2,hb2⟩:∃ b,zaj pg (-100) 100=b:=⟨_,rfl⟩
     obtain ⟨b3,hb3⟩:∃ b,zaj pm 0 20000000000=b:=⟨_,rfl⟩
     have W1:=fun W=>za1 pl 1 10000000 b1 hb1 W
     have W2:=fun W=>za1 pg (-100) 100 b2 hb2 W
     have W3:=fun W=>za1 pm 0 20000000000 b3 hb3 W
     have HER:Hid (pcE ⟨pl,pg,pm,pv⟩=zag (b1 && b2 && b3) 2):=by rw [Hid,pcE,← hb1,← hb2,← hb3]
     have c1a:=zat hba c1
     clear hba hev hkl hr HBK hb1 hb2 hb3
     cases b1 <;> cases b2 <;> cases b3
     all_goals
      have HER2:pcE _=zag _ _:=HER.out
      simp only [Bool.true_and,Bool.false_and,zag,cond_true,cond_false] at HER2
      have HER3:=Lib.hid HER2
      clear HER HER2
      go_upto_region 11 with (fail)
      clear z0 z1 z2 z3 c1
      generalize wr.alloc (.cells #[.int .i64 pl,.int .i64 pg,.int .i64 pm,.bool pv] 120)=wa at *
      first
       | (have HN2:=Lib.hid (zc1 HSV.out HGO.out HER3.out)
          go_wp2_with (first | (go_at_call_of 9 (Value.int .i64 pl);refine (W1 _).mono ?_;rintro e w' ⟨rfl,rfl⟩) | (go_at_call_of 9 (Value.int .i64 pg);refine (W2 _).mono ?_;rintro e w' ⟨rfl,rfl⟩) | (go_at_call_of 9 (Value.int .i64 pm);refine (W3 _).mono ?_;rintro e w' ⟨rfl,rfl⟩))
          go_roundw
          case rel=>exact ⟨k+1,by omega,by go_num,HN2.out,HBA.out⟩
          case measure=>simp [intOf];omega)
       | (have HN2:Hid (V2=2):=by
           have h9:=zb3 (f:=fun _ p=>pcE p) HSV.out HGO.out (by rw [HER3.out];decide)
           rw [Hid,← h9]
           exact HER3.out
          go_wp2_with (first | (go_at_call_of 9 (Value.int .i64 pl);refine (W1 _).mono ?_;rintro e w' ⟨rfl,rfl⟩) | (go_at_call_of 9 (Value.int .i64 pg);refine (W2 _).mono ?_;rintro e w' ⟨rfl,rfl⟩) | (go_at_call_of 9 (Value.int .i64 pm);refine (W3 _).mono ?_;rintro e w' ⟨rfl,rfl⟩))
          go_ret2
          exact ⟨k,by rw [HN.out,HN2.out];rfl,by rw [HBW.out];exact HB.out.trans (HBA.out.mono (by omega))⟩)
   · have HN2:Hid (V2=0):=zb9 (by rw [HL.out];omega) HGO.out
     go_wp2
     go_ret2
     exact ⟨0,by rw [HN.out,HN2.out];rfl,by rw [HBW.out];exact HB.out.trans (HBK.out.mono (by omega))⟩
theorem ziy (w:World) (B:Nat) (nm:ByteArray) (s:SlV) (l:List Pc) (h:zcs w B s l.length (zcj l)) (hB:B≤w.heap.size) (hn:l.length≤1000) (hs9:nm.size≤1000) :
 Calls Tryz.prog 41 #[zea nm s.A s.n s.c] w (zay w (zeb nm l)):=by
 have hb0:=hB1 w (.cells #[.string nm,.slice s.A s.n s.c] 37)
 obtain ⟨c0,c1⟩:_∧_:=zaz (W:=w.alloc (.cells #[.string nm,.slice s.A s.n s.c] 37)) (by rw [zae,if_pos rfl])
 have RT:=refTrack_any (w.alloc (.cells #[.string nm,.slice s.A s.n s.c] 37)) B nm s l (h.keep hb0) (Nat.le_trans hB hb0.size) hn hs9
 have HB:=Lib.hid hb0
 have hs0:=hb0.size
 generalize zeb nm l=V at *
 unfold zea at RT ⊢
 clear h hb0
 go_enter Tryz.func41,Tryz.ntmps41
 go_upto_region 1 with (fail)
 generalize w.alloc (.cells #[.string nm,.slice s.A s.n s.c] 37)=w0 at *
 go_wp2_with (go_at_call 71;refine RT.mono ?_;rintro e w9 ⟨i,rfl,hb9⟩)
 go_ret
 exact ⟨rfl,HB.out.trans (hb9.mono hs0)⟩
end Go.Proofs.YtoodbfkbbchjiaaGreatDoor
