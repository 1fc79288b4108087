import Derived.Test.YtfdmeojcopkaoaaGreatDoorf3Y5
import Derived.Test.YtfdmeojcopkaoaaGreatDoorf3X10
import Derived.Test.YtfdmeojcopkaoaaGreatDoorf3X14
set_option maxRecDepth 100000
set_option maxHeartbeats 16000000
namespace Go.Proofs.YtfdmeojcopkaoaaGreatDoor
open Go.RowKit
def zeo (v:VanV) (s:List Int) (k:Nat):List Int:=((List.range k).filter fun i=>decide ((difN (winL v i) (zdx s):Int)≤v.errors)).map fun (i:Nat)=>(i:Int)
def zih (v:VanV) (s:List Int):List Int:=zeo v s (winN v).toNat
theorem nearK_succ (v:VanV) (s:List Int) (k:Nat):zeo v s (k+1)=zeo v s k++if (difN (winL v k) (zdx s):Int)≤v.errors then [(k:Int)] else []:=by
 unfold zeo
 rw [List.range_succ,List.filter_append,List.map_append]
 congr 1
 by_cases h:(difN (winL v k) (zdx s):Int)≤v.errors <;> simp [h]
theorem nearK_len (v:VanV) (s:List Int) (k:Nat):(zeo v s k).length≤k:=by
 unfold zeo
 rw [List.length_map]
 exact Nat.le_trans (List.length_filter_le _ _) (by simp)
theorem winL_len (v:VanV) (i:Nat):(winL v i).length=12:=by simp [winL]
theorem seenL_len (s:List Int):(zdx s).length=12:=by simp [zdx]
def NearRel (w2:World) (v:VanV) (s:List Int) (N:Nat) (u5 u13:Value) (wr:World):Prop:=
 ∃ k:Nat,k≤N∧u13=.int .i64 k∧wr.ownsRow w2.heap.size 3 1 u5 (zeo v s k).length (zah (zeo v s k))∧Below w2.heap.size w2 wr
structure VanOk (v:VanV):Prop where
 w0:1≤v.window
 w1:v.window≤12
 len:v.window≤(v.vanes.length:Int)
 most:v.vanes.length≤40
 per:1≤v.per∧v.per≤12
 tooth:1≤v.tooth∧v.tooth≤1000
 first:0≤v.first∧v.first≤999000000
 modu:1≤v.modulus∧v.modulus≤1000
 slack:0≤v.slack∧v.slack≤v.modulus
theorem VanOk.winN {v:VanV} (h:VanOk v):∃ N:Nat,winN v=N∧N≤40∧1≤N:=by
 have h1:=h.w0
 have h2:=h.len
 have h3:=h.most
 refine ⟨(Go.Proofs.YtfdmeojcopkaoaaGreatDoor.winN v).toNat,?_,?_,?_⟩
 all_goals
  unfold Go.Proofs.YtfdmeojcopkaoaaGreatDoor.winN
  split <;> omega
theorem near_any (w:World) (B:Nat) (v:VanV) (A2:Option Addr) (m c2:Nat) (s:List Int) (h:zcs w B v.vs v.vanes.length (zah v.vanes)) (hB:B≤w.heap.size) (hO:VanOk v) (hs:s.length=m) (hm:m≤12) (hr:Rd w w.heap.size A2 (zah s)) :
 Calls Tryz.prog 307 #[.agg (za6 v).toArray,.slice A2 m c2] w (zew w 3 1 (zah (zih v s)) (zih v s).length):=by
 obtain ⟨N,hN,hN40,hN1⟩:=hO.winN
 have hvl:=h.1
 have hb0:∀ o,Below w.heap.size w (w.alloc o):=fun o=>(Below.refl _ _).alloc (Nat.le_refl _) _
 have k0:=hA1 w (.cells (za6 v).toArray 422)
 have hs0:=hS1 w (.cells (za6 v).toArray 422)
 have HB:=Lib.hid (hb0 (.cells (za6 v).toArray 422))
 have HV:=Lib.hid (h.keep HB.out)
 have HR:=Lib.hid (hr.keep HB.out)
 have HO:=Lib.hid hO
 have HN:Hid (zih v s=zeo v s N):=by rw [Hid,zih,hN];rfl
 rw [HN.out]
 have HS:=Lib.hid hs
 have HNN:=Lib.hid hN
 clear hb0 h hr hs hO hN
 go_enter Tryz.func307,Tryz.ntmps307
 go_upto_region 2 with (fail)
 generalize w.alloc (.cells (za6 v).toArray 422)=w0 at *
 generalize hbw:w.heap.size=bw at *
 have HBW:=Lib.hid hbw
 clear hbw
 have SN:=seen_any v A2 m c2 bw s HS.out hm w0 HR.out (by omega)
 go_wp2_with (with_reducible refine zaz 422 ?_)
 unfold Stp
 refine wpList_load_row rfl 422 _ rfl bw rfl 422 _ (0,0) _ k0 Tryz.underlying422 rfl (by kernel_rfl) ?_
 go_wp2_with (first | (go_at_call 354;refine SN.mono ?_;rintro e w1 ⟨rfl,hb1⟩) | (with_reducible refine zat 459 ?_))
 have hba:=hB1 w1 (.cells #[.int .i64 0,.int .i64 0,.int .i64 0,.int .i64 0,.int .i64 0,.int .i64 0,.int .i64 0,.int .i64 0,.int .i64 0,.int .i64 0,.int .i64 0,.int .i64 0] 459)
 have k3:=hA1 w1 (.cells #[.int .i64 0,.int .i64 0,.int .i64 0,.int .i64 0,.int .i64 0,.int .i64 0,.int .i64 0,.int .i64 0,.int .i64 0,.int .i64 0,.int .i64 0,.int .i64 0] 459)
 unfold Stp
 refine wpList_store_row rfl 459 _ _ rfl w1.heap.size (zah (zdx s)).toArray rfl rfl 459 _ k3 (by rw [zci];kernel_rfl) (by rw [zci];rfl) (ze5 _) ?_
 have k4:=setRow_heap _ w1.heap.size _ (zah (zdx s)).toArray 459 (0,0) k3
 have hb4:Below w0.heap.size w0 ((w1.alloc (.cells #[.int .i64 0,.int .i64 0,.int .i64 0,.int .i64 0,.int .i64 0,.int .i64 0,.int .i64 0,.int .i64 0,.int .i64 0,.int .i64 0,.int .i64 0,.int .i64 0] 459)).setRow w1.heap.size (zah (zdx s)).toArray):=below_setRow (hb1.trans (hba.mono hb1.size)) hb1.size _
 have hs4:w1.heap.size+1≤((w1.alloc (.cells #[.int .i64 0,.int .i64 0,.int .i64 0,.int .i64 0,.int .i64 0,.int .i64 0,.int .i64 0,.int .i64 0,.int .i64 0,.int .i64 0,.int .i64 0,.int .i64 0] 459)).setRow w1.heap.size (zah (zdx s)).toArray).heap.size:=by simp [World.setRow]
 clear SN hba k3
 go_upto_region 3 with (fail)
 generalize (w1.alloc (.cells #[.int .i64 0,.int .i64 0,.int .i64 0,.int .i64 0,.int .i64 0,.int .i64 0,.int .i64 0,.int .i64 0,.int .i64 0,.int .i64 0,.int .i64 0,.int .i64 0] 459)).setRow w1.heap.size (zah (zdx s)).toArray=w2 at *
 have hy:w0.heap.size≤w1.heap.size:=hb1.size
 generalize w1.heap.size=y at *
 clear hb1
 have WI:=windows_val v hvl (by have:=HO.out.most;omega) (by have:=HO.out.w0;omega) HO.out.w1 w2
 rw [HNN.out] at WI
 unfold zax at WI
 go_wp2_with (with_reducible refine zaz 422 ?_)
 unfold Stp
 refine wpList_load_row rfl 422 _ rfl bw rfl 422 _ (0,0) _ (blk hb4 k0) Tryz.underlying422 rfl (by kernel_rfl) ?_
 go_wp2_with (go_at_call 355;refine WI.mono ?_;rintro e w3 ⟨rfl,hb3⟩)
 have hb03:=hb4.trans (hb3.mono hb4.size)
 have k5:=blk hb03 k0
 have k6:=blk hb3 k4
 clear k0 k4 WI
 have hs3:=hb3.size
 go_loopw [5,13] (fun u5 u13 wr=>NearRel w3 v s N u5 u13 wr) (fun _ u13 _=>N - (intOf u13).toNat)
 case atStart=>exact ⟨0,Nat.zero_le _,rfl,⟨rfl,.inl ⟨rfl,rfl⟩⟩,Below.refl _ _⟩
 case round =>
  obtain ⟨k,hk,rfl,hown,hb⟩:=hrel
  have HOWN:=Lib.hid hown
  obtain ⟨Au,cu,rfl⟩:=zco hown
  have HBR:=Lib.hid hb
  have hsr:=hb.size
  by_cases hlt:k<N
  · have g5:=blk hb k5
    have g6:=blk hb k6
    have HK5:=Lib.hid k5
    have HK6:=Lib.hid k6
    clear k5 k6 hown hb
    obtain ⟨b0,b1,b2,b3,b4,b5,b6,b7,b8,b9,b10,b11,hsl⟩:=list12 (seenL_len s)
    have HSL:=Lib.hid hsl
    rw [hsl] at g6
    clear hsl
    obtain ⟨d0,d1,d2,d3,d4,d5,d6,d7,d8⟩:_∧_∧_∧_∧_∧_∧_∧_∧_:=zdk (W:=wr) (r:=bw) (t:=422) (a0:=v.vs.v) (a1:=.int .i64 v.window) (a2:=.int .i64 v.tooth) (a3:=.int .i64 v.per) (a4:=.int .i64 v.first) (a5:=.int .i64 v.modulus) (a6:=.int .i64 v.slack) (a7:=.int .i64 v.errors) (a8:=.bool v.round) g5
    have s0:=(cell_of_row wr y 0 _ _ _ g6).trans (by rfl:_=some (Value.int .i64 b0))
    have s1:=(cell_of_row wr y 1 _ _ _ g6).trans (by rfl:_=some (Value.int .i64 b1))
    have s2:=(cell_of_row wr y 2 _ _ _ g6).trans (by rfl:_=some (Value.int .i64 b2))
    have s3:=(cell_of_row wr y 3 _ _ _ g6).trans (by rfl:_=some (Value.int .i64 b3))
    have s4:=(cell_of_row wr y 4 _ _ _ g6).trans (by rfl:_=some (Value.int .i64 b4))
    have s5:=(cell_of_row wr y 5 _ _ _ g6).trans (by rfl:_=some (Value.int .i64 b5))
    have s6:=(cell_of_row wr y 6 _ _ _ g6).trans (by rfl:_=some (Value.int .i64 b6))
    have s7:=(cell_of_row wr y 7 _ _ _ g6).trans (by rfl:_=some (Value.int .i64 b7))
    have s8:=(cell_of_row wr y 8 _ _ _ g6).trans (by rfl:_=some (Value.int .i64 b8))
    have s9:=(cell_of_row wr y 9 _ _ _ g6).trans (by rfl:_=some (Value.int .i64 b9))
    have s10:=(cell_of_row wr y 10 _ _ _ g6).trans (by rfl:_=some (Value.int .i64 b10))
    have s11:=(cell_of_row wr y 11 _ _ _ g6).trans (by rfl:_=some (Value.int .i64 b11))
    clear g5 g6
    go_upto_region 6 with (fail)
    have x0:=fun q:Xt wr=>q.cell d0
    have x1:=fun q:Xt wr=>q.cell d1
    have x2:=fun q:Xt wr=>q.cell d2
    have x3:=fun q:Xt wr=>q.cell d3
    have x4:=fun q:Xt wr=>q.cell d4
    have x5:=fun q:Xt wr=>q.cell d5
    have x6:=fun q:Xt wr=>q.cell d6
    have x7:=fun q:Xt wr=>q.cell d7
    have x8:=fun q:Xt wr=>q.cell d8
    have z0:=fun q:Xt wr=>q.cell s0
    have z1:=fun q:Xt wr=>q.cell s1
    have z2:=fun q:Xt wr=>q.cell s2
    have z3:=fun q:Xt wr=>q.cell s3
    have z4:=fun q:Xt wr=>q.cell s4
    have z5:=fun q:Xt wr=>q.cell s5
    have z6:=fun q:Xt wr=>q.cell s6
    have z7:=fun q:Xt wr=>q.cell s7
    have z8:=fun q:Xt wr=>q.cell s8
    have z9:=fun q:Xt wr=>q.cell s9
    have z10:=fun q:Xt wr=>q.cell s10
    have z11:=fun q:Xt wr=>q.cell s11
    refine zaj [8] (fun w'=>∃ y:Xt wr,w'=y.1) (by kernel_rfl) ⟨⟨wr.drew,(Below.refl _ _).drew⟩,rfl⟩ ?_
    refine zao [0,1,3,5,6,7] 3 rfl (by kernel_rfl) ?_
    simp only [zad,zac,zaa,zX1,zX2,zX3]
    repeat (go_big_quiet_step (fail))
    refine wpQuiet_nil ?_
    have hbd:Below wr.heap.size wr wr.drew:=(Below.refl _ _).drew
    show wpE _ _ _ _ _ _ _ _ _ wr.drew
    generalize wr.drew=we at *
    clear x0 x1 x2 x3 x4 x5 x6 x7 x8 z0 z1 z2 z3 z4 z5 z6 z7 z8 z9 z10 z11 d0 d1 d2 d3 d4 d5 d6 d7 d8 s0 s1 s2 s3 s4 s5 s6 s7 s8 s9 s10 s11
    obtain ⟨mw,hmw⟩:∃ n:Nat,v.window=n:=⟨v.window.toNat,by have:=HO.out.w0;omega⟩
    have AT:=at_any v B k mw hmw (by have:=HO.out.w1;omega) (by omega) (by have:=HO.out.w0;have:=HO.out.len;omega) (by have:=HO.out.most;omega) we (((HV.out.keep hb03).keep HBR.out).keep hbd) (by have:=hbd.size;have:=hb4.size;omega)
    have DF:=fun W=>differ_any (winL v k) (zdx s) (winL_len v k) (seenL_len s) W
    clear hmw
    generalize hD:difN (winL v k) (zdx s)=D at DF
    rw [HSL.out] at DF
    unfold zax at DF
    refine zak (i:=2) rfl (by kernel_rfl) rfl ?_
    unfold zap
    simp only [zad,zac,zaa,zX1,zX2,zX3]
    go_wp2_with (go_at_call 356;refine AT.mono ?_;rintro e wf ⟨rfl,hbf0⟩)
    have hbf:=hbd.trans (hbf0.mono hbd.size)
    refine zab ⟨⟨⟨_,hbf⟩,rfl⟩,?_⟩
    refine zak (i:=4) rfl (by kernel_rfl) rfl ?_
    unfold zap
    simp only [zad,zac,zaa,zX1,zX2,zX3]
    go_wp2_with (go_at_call 357;refine (DF _).mono ?_;rintro e wg ⟨rfl,hbg0⟩)
    have hbg:=hbf.trans (hbg0.mono hbf.size)
    refine zab ⟨⟨⟨_,hbg⟩,rfl⟩,?_⟩
    have HK:=Lib.hid (nearK_succ v s k)
    rw [hD] at HK
    have hD12:D≤12:=by rw [← hD];exact difK_le _ _ 12
    have HBG:=Lib.hid hbg
    have hown1:=zag HOWN.out hbg
    have hlen:=nearK_len v s k
    have hb2:=HBR.out.trans (hbg.mono hsr)
    have hsg:=Nat.le_trans hsr hbg.size
    clear hbf0 hbg0 hbf hbg hbd AT DF hD
    generalize hL:(zeo v s k).length=L at *
    have HLL:=Lib.hid hL
    clear hL
    obtain ⟨i1,hi1,hy0,hy1,hy2⟩:=info_parts zhn
    by_cases hle:(D:Int)≤v.errors
    · have HK2:Hid (zeo v s (k+1)=zeo v s k++[(k:Int)]):=by rw [Hid,HK.out,if_pos hle]
      have HLE:=Lib.hid hle
      refine zau rfl (by kernel_rfl) ?_
      simp only [zad,zac,zaa,zX1,zX2,zX3]
      go_wp2
      refine zab ?_
      go_wp2_with (at_builtin;refine stp ?_)
      unfold Stp
      refine wpList_append_lies _ rfl _ _ 32 rfl w3.heap.size 3 i1 _ 1 8 Tryz.underlying32 hi1 hy0 hy1 hy2 rfl (by omega) (.slice Au L cu) L _ rfl (hown1.alloc _) ⟨wg.heap.size,0,none⟩ 1 1 [.int .i64 k] rfl rfl (zey (by simp)) (by simp [Value.oneCell']) (by omega) (by simp only [maxLen];omega) (by omega) (by simp;omega) _ rfl ?_
      intro gg cap w6 hown6 hgrow6 hat6 hlt6
      have HB7:=Lib.hid ((hb2.alloc hsg _).grown hgrow6 (by simp;omega) (fun j hj=>(zbf hown1 hj).1))
      have HO6:Hid (w6.ownsRow w3.heap.size 3 1 (.slice (some ⟨gg,0,none⟩) (L+1) cap) (zeo v s (k+1)).length (zah (zeo v s (k+1)))):=by
       rw [Hid,HK2.out,List.length_append,HLL.out]
       simpa [zah] using hown6
      clear hown6 hgrow6 hat6 hlt6 hown1 hb2 hy0 hy1 hy2 hi1
      go_wp2
      go_roundw
      case rel=>exact ⟨k+1,hlt,by go_num,HO6.out,HB7.out⟩
      case measure=>simp [intOf];omega
    · have HK2:Hid (zeo v s (k+1)=zeo v s k):=by rw [Hid,HK.out,if_neg hle,List.append_nil]
      refine zau rfl (by kernel_rfl) ?_
      simp only [zad,zac,zaa,zX1,zX2,zX3]
      have HO6:Hid (wg.ownsRow w3.heap.size 3 1 (.slice Au L cu) (zeo v s (k+1)).length (zah (zeo v s (k+1)))):=by
       rw [Hid,HK2.out,HLL.out]
       exact hown1
      have HB7:=Lib.hid hb2
      clear hown1 hb2 hy0 hy1 hy2 hi1
      go_wp2
      refine zab ?_
      go_wp2
      go_roundw
      case rel=>exact ⟨k+1,hlt,by go_num,HO6.out,HB7.out⟩
      case measure=>simp [intOf];omega
  · obtain rfl:k=N:=by omega
    clear hb hown
    go_wp2
    go_ret
    refine ⟨Au,cu,rfl,zbn HOWN.out,za1 HOWN.out (by rw [HBW.out];have:=hb4.size;omega),?_⟩
    rw [HBW.out]
    exact HB.out.trans ((hb03.mono (by omega)).trans (HBR.out.mono (by have:=hb4.size;omega)))
end Go.Proofs.YtfdmeojcopkaoaaGreatDoor
namespace Go.Proofs.YtfdmeojcopkaoaaGreatDoor
open Go.RowKit
abbrev Rg:=Int × Int
def rgVals (x:Rg):List Value:=[.int .i64 x.1,.int .i64 x.2]
def zc3 (l:List Rg):List Value:=l.flatMap rgVals
theorem info188s:(Tryz.prog.info? 188).map (fun i=>(i.zero,i.size,i.bytes))=some (some (.agg #[.int .i64 0,.int .i64 0]),2,16):=by kernel_rfl
theorem zek (l:List Rg):(zc3 l).length=l.length * 2:=zeq (vals:=rgVals) (k:=2) (fun _=>rfl) l
theorem zdf (l:List Rg) (x:Rg):zc3 (l++[x])=zc3 l++[.int .i64 x.1,.int .i64 x.2]:=by simp [zc3,rgVals]
def loT (v:VanV) (t:Int):Int:=v.first+t * v.tooth
def hiT (v:VanV) (t:Int):Int:=v.first+t * v.tooth+v.tooth - 1
def offT (v:VanV) (cnt t:Int):Int:=(t.tmod v.modulus+v.modulus - cnt).tmod v.modulus
def farB (v:VanV) (cnt t:Int):Bool:=decide (v.slack<min (offT v cnt t) (v.modulus - offT v cnt t))
def ze2 (l:List Rg) (h:Int):List Rg:=l.dropLast++[((l.getLast?.getD (0,0)).1,h)]
def posS (v:VanV) (cnt:Int) (s:List Rg × Int) (t:Int):List Rg × Int:=
 if farB v cnt t=true then s else if (!s.1.isEmpty && (s.2 == t - 1))=true then (ze2 s.1 (hiT v t),t) else (s.1++[(loT v t,hiT v t)],t)
def teeth (v:VanV) (w:Int) (j:Nat):List Int:=(List.range j).map fun (i:Nat)=>w * v.per+(i:Int)
def posW (v:VanV) (cnt:Int) (s:List Rg × Int) (w:Int):List Rg × Int:=(teeth v w v.per.toNat).foldl (posS v cnt) s
def posL (v:VanV) (cnt:Int) (l:List Int):List Rg:=(l.foldl (posW v cnt) ([],-1)).1
theorem teeth_succ (v:VanV) (w:Int) (j:Nat):teeth v w (j+1)=teeth v w j++[w * v.per+(j:Int)]:=by simp [teeth,List.range_succ]
theorem zhf (l:List Rg) (x:Rg) (h:Int):ze2 (l++[x]) h=l++[(x.1,h)]:=by simp [ze2]
theorem own_set {w:World} {B e size n g c i:Nat} {xs:List Value} (h:w.ownsRow B e size (.slice (some ⟨g,0,none⟩) n c) n xs) (v:Value) :
 (w.setCell ⟨g,i,none⟩ v).ownsRow B e size (.slice (some ⟨g,0,none⟩) n c) n (xs.set i v):=by
 obtain ⟨h1,h2⟩:=h
 refine ⟨by simpa using h1,?_⟩
 rcases h2 with ⟨h2,_⟩ | ⟨g',cap,cur,h2,h3,h4,h5,h6,h7,h8⟩
 · simp at h2
 · simp only [Value.slice.injEq,Option.some.injEq,Addr.mk.injEq,and_true,true_and] at h2
   obtain ⟨rfl,rfl⟩:=h2
   refine .inr ⟨g,c,cur.setIfInBounds i v,rfl,h3,zdw h4 i v,h5,h6,by simpa using h7,?_⟩
   rw [Array.toList_setIfInBounds,← h8,List.take_set]
theorem rgCells_set (l:List Rg) (x:Rg) (h:Int):(zc3 (l++[x])).set (l.length * 2+1) (.int .i64 h)=zc3 (l++[(x.1,h)]):=by
 rw [zdf,zdf,List.set_append_right _ _ (by rw [zek];omega),zek]
 simp [show l.length * 2+1 - l.length * 2=1 by omega]
theorem field188 (a b:Int) (W:World):Sem.run Tryz.prog (Instr.field 188 (.agg #[.int .i64 a,.int .i64 b]) 1) W=.ok (.int .i64 b) W:=by kernel_rfl
theorem rgCells_at (pre:List Rg) (x:Rg) (m:Nat) (h:pre.length=m):(zc3 (pre++[x]))[m * 2+1]?=some (.int .i64 x.2):=by
 rw [zdf,List.getElem?_append_right (by rw [zek];omega),zek,h]
 simp [show m * 2+1 - m * 2=1 by omega]
def PoRel (w4:World) (v:VanV) (cnt:Int) (l:List Int) (n:Nat) (u8 u9 u39:Value) (wr:World):Prop:=
 ∃ (k:Nat) (out:List Rg) (last:Int),k≤n∧u39=.int .i64 k∧u9=.int .i64 last∧wr.ownsRow w4.heap.size 188 2 u8 out.length (zc3 out)∧Below w4.heap.size w4 wr∧(l.take k).foldl (posW v cnt) ([],-1)=(out,last)∧out.length≤12 * k
def TeRel (w4 wk:World) (v:VanV) (cnt:Int) (s0:List Rg × Int) (nw T0:Int) (m pn:Nat) (u8 u9 u12:Value) (wr:World):Prop:=
 ∃ (j:Nat) (t:Int) (out:List Rg) (last:Int),j≤pn∧t=T0+j∧u12=.int .i64 t∧u9=.int .i64 last∧wr.ownsRow w4.heap.size 188 2 u8 out.length (zc3 out)∧Below w4.heap.size wk wr∧(teeth v nw j).foldl (posS v cnt) s0=(out,last)∧out.length≤m+j
theorem nearI_at {v:VanV} {s:List Int} {k:Nat} {x:Int} (h:(zih v s)[k]?=some x):∃ m:Nat,x=m∧(m:Int)<winN v:=by
 have:=List.mem_of_getElem? h
 simp only [zih,zeo,List.mem_map,List.mem_filter,List.mem_range] at this
 obtain ⟨m,⟨h1,_⟩,rfl⟩:=this
 exact ⟨m,rfl,by omega⟩
theorem tmod_in {a b:Int} (ha:0≤a) (hb:0<b):0≤a.tmod b∧a.tmod b<b:=⟨Int.tmod_nonneg _ ha,Int.tmod_lt_of_pos _ hb⟩
def PosPost (w:World) (E:Int) (l:List Rg) (e:Ending) (w':World):Prop:=
 ∃ A c,e=.returned (.tuple #[.slice A l.length c,.int .i64 E])∧w'.ownsRow w.heap.size 188 2 (.slice A l.length c) l.length (zc3 l)∧Below w.heap.size w w'
theorem Possible_ok (w:World) (B:Nat) (v:VanV) (A2:Option Addr) (m c2:Nat) (s:List Int) (cnt:Int) (h:zcs w B v.vs v.vanes.length (zah v.vanes)) (hB:B≤w.heap.size) (hO:VanOk v) (hs:s.length=m) (hm:m≤12) (hr:Rd w w.heap.size A2 (zah s)) (hE:zg5 v s=0) (hc:zai cnt 0 (v.modulus - 1)=true) :
 Calls Tryz.prog 255 #[.agg (za6 v).toArray,.agg #[.slice A2 m c2,.int .i64 cnt]] w (PosPost w 0 (posL v cnt (zih v s))):=by
 obtain ⟨N,hN,hN40,hN1⟩:=hO.winN
 have hc0:0≤cnt∧cnt≤v.modulus - 1:=by simpa [zai] using hc
 have hb0:=hB2 w (.cells (za6 v).toArray 34) (.cells #[.slice A2 m c2,.int .i64 cnt] 280)
 have k0:=hA2a w (.cells (za6 v).toArray 34) (.cells #[.slice A2 m c2,.int .i64 cnt] 280)
 have k1:=hA2b w (.cells (za6 v).toArray 34) (.cells #[.slice A2 m c2,.int .i64 cnt] 280)
 have hs0:=hS2 w (.cells (za6 v).toArray 34) (.cells #[.slice A2 m c2,.int .i64 cnt] 280)
 have HB:=Lib.hid hb0
 have HV:=Lib.hid (h.keep hb0)
 have HR:=Lib.hid (hr.keep hb0)
 have HO:=Lib.hid hO
 have HS:=Lib.hid hs
 have HE:=Lib.hid hE
 have HC:=Lib.hid hc
 have HNN:=Lib.hid hN
 clear hb0 h hr hs hO hN hE hc
 go_enter Tryz.func255,Tryz.ntmps255
 go_upto_region 1 with (fail)
 generalize (w.alloc (.cells (za6 v).toArray 34)).alloc (.cells #[.slice A2 m c2,.int .i64 cnt] 280)=w0 at *
 generalize hbw:w.heap.size=bw at *
 have HBW:=Lib.hid hbw
 clear hbw
 have OS:=openSeen_any w0 B v A2 m c2 s HV.out (by omega) (by have:=HO.out.most;omega) HS.out (by omega) (HR.out.mono (by omega))
 rw [HE.out] at OS
 obtain ⟨d0,d1⟩:_∧_:=zay k1
 go_wp2_with (with_reducible refine zaz 34 ?_)
 unfold Stp
 refine wpList_load_row rfl 34 _ rfl bw rfl 34 _ (0,0) _ k0 Tryz.underlying34 rfl (by kernel_rfl) ?_
 go_wp2_with (first | (go_at_call 306;refine OS.mono ?_;rintro e w1 ⟨rfl,hb1⟩) | (with_reducible refine zat 422 ?_))
 have hba:=hB1 w1 (.cells #[.slice none 0 0,.int .i64 0,.int .i64 0,.int .i64 0,.int .i64 0,.int .i64 0,.int .i64 0,.int .i64 0,.bool false] 422)
 have k3:=hA1 w1 (.cells #[.slice none 0 0,.int .i64 0,.int .i64 0,.int .i64 0,.int .i64 0,.int .i64 0,.int .i64 0,.int .i64 0,.bool false] 422)
 unfold Stp
 refine wpList_store_row rfl 422 _ _ rfl w1.heap.size (za6 v).toArray rfl rfl 422 _ k3 (by kernel_rfl) rfl (by kernel_rfl) ?_
 have k4:=setRow_heap _ w1.heap.size _ (za6 v).toArray 422 (0,0) k3
 have hb4:Below w0.heap.size w0 ((w1.alloc (.cells #[.slice none 0 0,.int .i64 0,.int .i64 0,.int .i64 0,.int .i64 0,.int .i64 0,.int .i64 0,.int .i64 0,.bool false] 422)).setRow w1.heap.size (za6 v).toArray):=below_setRow (hb1.trans (hba.mono hb1.size)) hb1.size _
 have hs4:w1.heap.size+1≤((w1.alloc (.cells #[.slice none 0 0,.int .i64 0,.int .i64 0,.int .i64 0,.int .i64 0,.int .i64 0,.int .i64 0,.int .i64 0,.bool false] 422)).setRow w1.heap.size (za6 v).toArray).heap.size:=by simp [World.setRow]
 clear OS hba k3 d0 d1
 go_upto_region 2 with (fail)
 generalize (w1.alloc (.cells #[.slice none 0 0,.int .i64 0,.int .i64 0,.int .i64 0,.int .i64 0,.int .i64 0,.int .i64 0,.int .i64 0,.bool false] 422)).setRow w1.heap.size (za6 v).toArray=w2 at *
 have hy:w0.heap.size≤w1.heap.size:=hb1.size
 generalize w1.heap.size=y at *
 clear hb1
 obtain ⟨d0,d1⟩:_∧_:=zay (blk hb4 k1)
 obtain ⟨g0,g1,g2,g3,g4,g5,g6,g7,g8⟩:_∧_∧_∧_∧_∧_∧_∧_∧_:=zdk (W:=w2) (r:=bw) (t:=34) (a0:=v.vs.v) (a1:=.int .i64 v.window) (a2:=.int .i64 v.tooth) (a3:=.int .i64 v.per) (a4:=.int .i64 v.first) (a5:=.int .i64 v.modulus) (a6:=.int .i64 v.slack) (a7:=.int .i64 v.errors) (a8:=.bool v.round) (blk hb4 k0)
 have hm1:=HO.out.modu.1
 have hm2:=HO.out.modu.2
 have WI:=fun W=>zce cnt 0 (v.modulus - 1) true HC.out W
 have U0:=fun e W=>zd7 true e 0 rfl W
 clear g0 g1 g2 g3 g4 g6 g7 g8 d0
 go_upto_region 3 with (first | (go_at_call 75;refine (WI _).mono ?_;rintro e w' ⟨rfl,rfl⟩) | (go_at_call 74;refine (U0 _ _).mono ?_;rintro e w' ⟨rfl,rfl⟩) | (go_at_call 73;refine (loFirst2 _ _ _).mono ?_;rintro e w' ⟨rfl,rfl⟩))
 have hbn:=hB1 w2 (.cells #[.int .i64 0,.int .i64 0] 50)
 have hb5:=hb4.trans (hbn.mono hb4.size)
 have k5:=blk hbn k4
 have hs5:=hbn.size
 clear WI U0 d1 g5 k4 hbn hb4
 generalize w2.alloc (.cells #[.int .i64 0,.int .i64 0] 50)=w3 at *
 have NE:=near_any w3 B v A2 m c2 s (HV.out.keep hb5) (by have:=hb5.size;omega) HO.out HS.out hm ((HR.out.keep hb5).mono (by have:=hb5.size;omega))
 have k0x:=blk hb5 k0
 have k1x:=blk hb5 k1
 obtain ⟨d0,d1⟩:_∧_:=zay k1x
 go_wp2_with (with_reducible refine zaz 422 ?_)
 unfold Stp
 refine wpList_load_row rfl 422 _ rfl y rfl 422 _ (0,0) _ k5 Tryz.underlying422 rfl (by kernel_rfl) ?_
 go_wp2_with (go_at_call 307;refine NE.mono ?_;rintro e w4 ⟨A4,c4,rfl,hc4,ho4,hb6⟩)
 clear NE d0 d1
 have HN4:=Lib.hid (zbe ho4)
 have hb06:=hb5.trans (hb6.mono hb5.size)
 have hs6:=hb6.size
 have kv:=blk hb06 k0
 have kc:=blk hb06 k1
 have ky:=blk hb6 k5
 have HB6:=Lib.hid (HB.out.trans (hb06.mono (by omega)))
 clear ho4 hb6 hb5 hb06 k0 k1 k5 k0x k1x
 generalize hL:zih v s=L at *
 have HAT:=fun (k:Nat) (x:Int) (h:L[k]?=some x)=>nearI_at (v:=v) (s:=s) (show (zih v s)[k]?=some x by rw [hL];exact h)
 have hLn:L.length≤40:=by rw [← hL];exact Nat.le_trans (nearK_len v s _) (by rw [HNN.out];simpa using hN40)
 clear hL
 generalize hln:L.length=n at *
 have HLN:=Lib.hid hln
 clear hln
 go_loopw [8,9,39] (fun u8 u9 u39 wr=>PoRel w4 v cnt L n u8 u9 u39 wr) (fun _ _ u39 _=>n - (intOf u39).toNat)
 case atStart=>exact ⟨0,[],-1,Nat.zero_le _,rfl,rfl,⟨rfl,.inl ⟨rfl,rfl⟩⟩,Below.refl _ _,rfl,Nat.le_refl _⟩
 case round =>
  obtain ⟨k,out,last,hk,rfl,rfl,hown,hb,hf,hol⟩:=hrel
  have HOWN:=Lib.hid hown
  obtain ⟨Au,cu,rfl⟩:=zco hown
  have HBR:=Lib.hid hb
  have hsr:=hb.size
  have HF:=Lib.hid hf
  clear hf
  by_cases hlt:k<n
  · have hkl:k<L.length:=by rw [HLN.out];exact hlt
    obtain ⟨x,hx⟩:∃ x,L[k]?=some x:=⟨_,List.getElem?_eq_getElem hkl⟩
    obtain ⟨nw,rfl,hnw⟩:=HAT k x hx
    rw [HNN.out] at hnw
    obtain ⟨pn,hpn⟩:∃ pn:Nat,v.per=pn:=⟨v.per.toNat,by have:=HO.out.per.1;omega⟩
    obtain ⟨bb,off,rfl,hbB,z0⟩:=(HN4.out.keep hb).at_ (k:=k) (u:=.int .i64 (nw:Int)) (by simp only [zah,List.getElem?_map,hx,Option.map_some])
    have HX:=Lib.hid hx
    have HPN:=Lib.hid hpn
    clear hx hkl hown hb
    have hp0:=HO.out.per.1
    have hp1:=HO.out.per.2
    have hT:0≤(nw:Int) * v.per∧(nw:Int) * v.per≤480:=⟨Int.mul_nonneg (by omega) (by omega),Int.le_trans (Int.mul_le_mul (show (nw:Int)≤40 by omega) hp1 (by omega) (by omega)) (by omega)⟩
    rw [hpn] at hT
    obtain ⟨T0,hT0⟩:∃ T0,(nw:Int) * (pn:Int)=T0:=⟨_,rfl⟩
    have hT1:((nw:Int)+1) * (pn:Int)=T0+pn:=by rw [Int.add_mul,hT0,Int.one_mul]
    rw [hT0] at hT
    have hpn12:pn≤12:=by have:=HPN.out;omega
    clear hpn hp0 hp1
    have HT0:=Lib.hid hT0
    obtain ⟨_,_,_,g3,_,g5,g6,_,_⟩:_∧_∧_∧_∧_∧_∧_∧_∧_:=zdk (W:=wr) (r:=bw) (t:=34) (a0:=v.vs.v) (a1:=.int .i64 v.window) (a2:=.int .i64 v.tooth) (a3:=.int .i64 v.per) (a4:=.int .i64 v.first) (a5:=.int .i64 v.modulus) (a6:=.int .i64 v.slack) (a7:=.int .i64 v.errors) (a8:=.bool v.round) (blk HBR.out kv)
    rw [HPN.out] at g3
    clear g5 g6
    have HKV:=Lib.hid kv
    have HKC:=Lib.hid kc
    have HKY:=Lib.hid ky
    clear kv kc ky
    go_wp2
    clear z0 g3 hT0 hT1
    have HOL:=Lib.hid hol
    clear hol
    generalize wr=wk at *
    have hkk:w4.heap.size≤wk.heap.size:=HBR.out.size
    go_loopw [8,9,12] (fun u8 u9 u12 wz=>TeRel w4 wk v cnt (out,last) nw T0 out.length pn u8 u9 u12 wz) (fun _ _ u12 _=>((T0+pn) - intOf u12).toNat)
    case atStart=>exact ⟨0,T0,out,last,Nat.zero_le _,by simp,rfl,rfl,HOWN.out,Below.refl _ _,rfl,Nat.le_refl _⟩
    case round =>
     obtain ⟨j,t,out2,last2,hj,ht,rfl,rfl,hown2,hb2,hf2,hol2⟩:=hrel
     have HOW2:=Lib.hid hown2
     obtain ⟨A8,c8,rfl⟩:=zco hown2
     have HB2:=Lib.hid hb2
     have hsr2:=hb2.size
     have HF2:=Lib.hid hf2
     have HTT:=Lib.hid ht
     have ht0:0≤t:=by omega
     have ht1:t≤492:=by omega
     have HBX:=Lib.hid (HBR.out.trans hb2)
     obtain ⟨_,_,_,g3,_,g5,g6,_,_⟩:_∧_∧_∧_∧_∧_∧_∧_∧_:=zdk (W:=wr) (r:=bw) (t:=34) (a0:=v.vs.v) (a1:=.int .i64 v.window) (a2:=.int .i64 v.tooth) (a3:=.int .i64 v.per) (a4:=.int .i64 v.first) (a5:=.int .i64 v.modulus) (a6:=.int .i64 v.slack) (a7:=.int .i64 v.errors) (a8:=.bool v.round) (blk HBX.out HKV.out)
     rw [HPN.out] at g3
     have hT1:((nw:Int)+1) * (pn:Int)=T0+pn:=by rw [Int.add_mul,HT0.out,Int.one_mul]
     clear hown2 hb2 hf2 ht
     by_cases hlt2:t<T0+pn
     · obtain ⟨_,d1⟩:_∧_:=zay (blk HBX.out HKC.out)
       obtain ⟨r1,hr1⟩:∃ r1,t.tmod v.modulus=r1:=⟨_,rfl⟩
       have hr1b:=tmod_in (a:=t) (b:=v.modulus) (by omega) (by omega)
       rw [hr1] at hr1b
       obtain ⟨r2,hr2⟩:∃ r2,(r1+v.modulus - cnt).tmod v.modulus=r2:=⟨_,rfl⟩
       have hr2b:=tmod_in (a:=r1+v.modulus - cnt) (b:=v.modulus) (by omega) (by omega)
       rw [hr2] at hr2b
       have HFAR:Hid (farB v cnt t=decide (v.slack<min r2 (v.modulus - r2))):=by rw [Hid,farB,offT,hr1,hr2]
       go_upto_region 13 with (fail)
       have x0:=fun y:Xt wr=>y.cell g5
       have x1:=fun y:Xt wr=>y.cell d1
       refine zaj [13] (fun w'=>∃ y:Xt wr,w'=y.1) (by kernel_rfl) ⟨⟨wr.drew,(Below.refl _ _).drew⟩,rfl⟩ ?_
       refine zao [0,1,2,3,4,5,6,7,8,9,10,11,12] 1 rfl (by kernel_rfl) ?_
       simp only [zad,zac,zaa,zX1,zX2,zX3]
       repeat (go_big_quiet_step (fail))
       refine wpQuiet_nil ?_
       have hbd:Below wr.heap.size wr wr.drew:=(Below.refl _ _).drew
       show wpE _ _ _ _ _ _ _ _ _ wr.drew
       generalize wr.drew=we at *
       clear x0 x1 d1 hr1 hr2 hT1 g3 g5
       refine zau rfl (by kernel_rfl) ?_
       simp only [zad,zac,zaa,zX1,zX2,zX3]
       go_wp2
       refine zab ?_
       replace g6:=zas hbd g6
       obtain ⟨_,_,_,_,_,g5,_,_,_⟩:_∧_∧_∧_∧_∧_∧_∧_∧_:=zdk (W:=we) (r:=bw) (t:=34) (a0:=v.vs.v) (a1:=.int .i64 v.window) (a2:=.int .i64 v.tooth) (a3:=.int .i64 v.per) (a4:=.int .i64 v.first) (a5:=.int .i64 v.modulus) (a6:=.int .i64 v.slack) (a7:=.int .i64 v.errors) (a8:=.bool v.round) (blk hbd (blk HBX.out HKV.out))
       have hjp:j+1≤pn:=by have:=HTT.out;omega
       have hq9:out2.length≤500:=by have:=HOL.out;omega
       have HSTEP:Hid ((teeth v nw (j+1)).foldl (posS v cnt) (out,last)=posS v cnt (out2,last2) t):=by
        rw [Hid,teeth_succ,List.foldl_append,HF2.out,HPN.out,HT0.out,← HTT.out]
        rfl
       have HBE:=Lib.hid (HB2.out.trans (hbd.mono (Nat.le_trans hkk hsr2)))
       have HOWE:=Lib.hid (zag HOW2.out hbd)
       have hse:=Nat.le_trans (Nat.le_trans hkk hsr2) hbd.size
       clear hbd
       by_cases hA:v.slack<min r2 (v.modulus - r2)
       · have HST:Hid (posS v cnt (out2,last2) t=(out2,last2)):=by rw [Hid,posS,HFAR.out,if_pos (by simpa using hA)]
         go_wp2
         go_roundw
         case rel=>exact ⟨j+1,t+1,out2,last2,by omega,by have:=HTT.out;omega,rfl,rfl,HOWE.out,HBE.out,by rw [HSTEP.out,HST.out],by omega⟩
         case measure=>simp [intOf];omega
       · have hA2:farB v cnt t=false:=by rw [HFAR.out];simpa using hA
         have HST:Hid (posS v cnt (out2,last2) t=if (!out2.isEmpty && (last2 == t - 1))=true then (ze2 out2 (hiT v t),t) else (out2++[(loT v t,hiT v t)],t)):=by rw [Hid,posS,if_neg (by rw [hA2];decide)]
         have HA:=Lib.hid hA
         clear hA2
         have hky:=blk (HBR.out.trans HBE.out) HKY.out
         have hto0:=HO.out.tooth.1
         have hto1:=HO.out.tooth.2
         have hp9:0≤t * v.tooth∧t * v.tooth≤1000000:=⟨Int.mul_nonneg ht0 (by omega),Int.le_trans (Int.mul_le_mul ht1 hto1 (by omega) (by omega)) (by omega)⟩
         obtain ⟨pp,hpp⟩:∃ pp,t * v.tooth=pp:=⟨_,rfl⟩
         rw [hpp] at hp9
         have PL:=fun W=>places_val v t t pp pp hpp hpp hp9.1 hp9.2 hp9.1 hp9.2 HO.out.first.1 HO.out.first.2 (by omega) hto1 W
         have HLO:Hid (loT v t=v.first+pp∧hiT v t=v.first+pp+v.tooth - 1):=⟨by rw [loT,hpp],by rw [hiT,hpp]⟩
         clear hpp hto0 hto1 hp9
         generalize hlo:v.first+pp=lo at *
         generalize hhi:lo+v.tooth - 1=hi at *
         clear hlo hhi
         obtain ⟨i1,hi1,hy0,hy1,hy2⟩:=info_parts info188s
         generalize hLq:out2.length=Lq at *
         have HLQ:=Lib.hid hLq
         clear hLq
         by_cases hq:0<Lq
         · cases hz:(last2 == t - 1) with
           | true =>
            have HST2:Hid (posS v cnt (out2,last2) t=(ze2 out2 (hiT v t),t)):=by
             rw [Hid,HST.out,if_pos]
             have:out2.isEmpty=false:=by
              cases out2 with
              | nil=>have:=HLQ.out;simp at this;omega
              | cons=>rfl
             rw [this,hz];rfl
            obtain ⟨pre,xx,rfl⟩:∃ pre xx,out2=pre++[xx]:=by
             rcases List.eq_nil_or_concat out2 with h9 | ⟨pre,xx,h9⟩
             · rw [h9] at HLQ;have:=HLQ.out;simp at this;omega
             · exact ⟨pre,xx,by rw [h9,List.concat_eq_append]⟩
            obtain ⟨m9,rfl⟩:∃ m9,Lq=m9+1:=⟨Lq - 1,by omega⟩
            have hm9:pre.length=m9:=by have:=HLQ.out;simp at this;omega
            obtain ⟨g,cur,rfl,hg,hcur⟩:=own_at HOWE.out (by omega)
            go_wp2_with (with_reducible refine zaz 422 ?_)
            unfold Stp
            refine wpList_load_row rfl 422 _ rfl y rfl 422 _ (0,0) _ hky Tryz.underlying422 rfl (by kernel_rfl) ?_
            have FI:=field188 lo hi
            go_wp2_with (go_at_call 308;refine (PL _).mono ?_;rintro e wp ⟨rfl,hbp⟩;have fz:=frozen_of_row wp g (m9 * 2+1) _ _ (blk hbp hcur);have cz:wp.cell? ⟨g,m9 * 2+1,none⟩=some (.int .i64 xx.2):=(by have h9:=zbz (zbe (zag HOWE.out hbp)) (k:=m9 * 2+1) (u:=.int .i64 xx.2) (rgCells_at pre xx m9 hm9);rwa [Nat.zero_add] at h9))
            have HB7:=Lib.hid ((HBE.out.trans (hbp.mono hse)).setCell (p:=⟨g,m9 * 2+1,none⟩) hg (.int .i64 hi))
            have HO7:Hid ((wp.setCell ⟨g,m9 * 2+1,none⟩ (.int .i64 hi)).ownsRow w4.heap.size 188 2 (.slice (some ⟨g,0,none⟩) (m9+1) c8) (ze2 (pre++[xx]) (hiT v t)).length (zc3 (ze2 (pre++[xx]) (hiT v t)))):=by
             rw [Hid,zhf,HLO.out.2,← rgCells_set,hm9]
             simpa [hm9] using own_set (zag HOWE.out hbp) (i:=m9 * 2+1) (.int .i64 hi)
            clear hbp hcur fz cz hy0 hy1 hy2 hi1 hky PL
            go_wp2
            go_roundw
            case rel=>exact ⟨j+1,t+1,ze2 (pre++[xx]) (hiT v t),t,by omega,by have:=HTT.out;omega,rfl,rfl,HO7.out,HB7.out,by rw [HSTEP.out,HST2.out],by rw [zhf,List.length_append,hm9];simp;omega⟩
            case measure=>simp [intOf];omega
           | false =>
            have HST2:Hid (posS v cnt (out2,last2) t=(out2++[(loT v t,hiT v t)],t)):=by rw [Hid,HST.out,hz,if_neg (by simp)]
            go_wp2_with (with_reducible refine zaz 422 ?_)
            unfold Stp
            refine wpList_load_row rfl 422 _ rfl y rfl 422 _ (0,0) _ hky Tryz.underlying422 rfl (by kernel_rfl) ?_
            go_wp2_with (first | (go_at_call 308;refine (PL _).mono ?_;rintro e wp ⟨rfl,hbp⟩) | (at_builtin;refine stp ?_))
            unfold Stp
            have hxo:=HOWE.out
            have hop:=zag hxo hbp
            have hba:=hB1 wp (.cells #[.int .i64 lo,.int .i64 hi] 188)
            refine wpList_append_lies _ rfl _ _ 369 rfl w4.heap.size 188 i1 _ 2 16 Tryz.underlying369 hi1 hy0 hy1 hy2 rfl (by omega) (.slice A8 Lq c8) Lq _ rfl (zag hop hba) ⟨wp.heap.size,0,none⟩ 1 1 [.int .i64 lo,.int .i64 hi] rfl rfl (zen (f:=(0,0)) (t:=188) (by rw [zae,if_pos rfl])) (by simp [Value.oneCell']) (by omega) (by simp only [maxLen];omega) (by omega) (by have:=hbp.size;simp;omega) _ rfl ?_
            intro gg cap2 w6 hown6 hgrow6 _ _
            have hb6:=((HBE.out.trans (hbp.mono hse)).trans (hba.mono (Nat.le_trans hse hbp.size))).grown hgrow6 (by have:=hbp.size;simp;omega) (fun q hq=>(zbf (zag hop hba) hq).1)
            have HB7:=Lib.hid hb6
            have HO7:Hid (w6.ownsRow w4.heap.size 188 2 (.slice (some ⟨gg,0,none⟩) (Lq+1) cap2) (out2++[(loT v t,hiT v t)]).length (zc3 (out2++[(loT v t,hiT v t)]))):=by
             rw [Hid,zdf,List.length_append,HLQ.out,HLO.out.1,HLO.out.2]
             exact hown6
            clear hown6 hgrow6 hb6 hba hop hxo hbp hy0 hy1 hy2 hi1 hky PL
            go_wp2
            go_roundw
            case rel=>exact ⟨j+1,t+1,out2++[(loT v t,hiT v t)],t,by omega,by have:=HTT.out;omega,rfl,rfl,HO7.out,HB7.out,by rw [HSTEP.out,HST2.out],by rw [List.length_append,HLQ.out];simp;omega⟩
            case measure=>simp [intOf];omega
         · have HST2:Hid (posS v cnt (out2,last2) t=(out2++[(loT v t,hiT v t)],t)):=by
            obtain rfl:out2=[]:=List.eq_nil_of_length_eq_zero (by have:=HLQ.out;omega)
            rw [Hid,HST.out];rfl
           obtain rfl:Lq=0:=by omega
           go_wp2_with (with_reducible refine zaz 422 ?_)
           unfold Stp
           refine wpList_load_row rfl 422 _ rfl y rfl 422 _ (0,0) _ hky Tryz.underlying422 rfl (by kernel_rfl) ?_
           go_wp2_with (first | (go_at_call 308;refine (PL _).mono ?_;rintro e wp ⟨rfl,hbp⟩) | (at_builtin;refine stp ?_))
           unfold Stp
           have hxo:=HOWE.out
           have hop:=zag hxo hbp
           have hba:=hB1 wp (.cells #[.int .i64 lo,.int .i64 hi] 188)
           refine wpList_append_lies _ rfl _ _ 369 rfl w4.heap.size 188 i1 _ 2 16 Tryz.underlying369 hi1 hy0 hy1 hy2 rfl (by omega) (.slice A8 0 c8) 0 _ rfl (zag hop hba) ⟨wp.heap.size,0,none⟩ 1 1 [.int .i64 lo,.int .i64 hi] rfl rfl (zen (f:=(0,0)) (t:=188) (by rw [zae,if_pos rfl])) (by simp [Value.oneCell']) (by omega) (by simp only [maxLen];omega) (by omega) (by have:=hbp.size;simp;omega) _ rfl ?_
           intro gg cap2 w6 hown6 hgrow6 _ _
           have hb6:=((HBE.out.trans (hbp.mono hse)).trans (hba.mono (Nat.le_trans hse hbp.size))).grown hgrow6 (by have:=hbp.size;simp;omega) (fun q hq=>(zbf (zag hop hba) hq).1)
           have HB7:=Lib.hid hb6
           have HO7:Hid (w6.ownsRow w4.heap.size 188 2 (.slice (some ⟨gg,0,none⟩) (0+1) cap2) (out2++[(loT v t,hiT v t)]).length (zc3 (out2++[(loT v t,hiT v t)]))):=by
            rw [Hid,zdf,List.length_append,HLQ.out,HLO.out.1,HLO.out.2]
            exact hown6
           clear hown6 hgrow6 hb6 hba hop hxo hbp hy0 hy1 hy2 hi1 hky PL
           go_wp2
           go_roundw
           case rel=>exact ⟨j+1,t+1,out2++[(loT v t,hiT v t)],t,by omega,by have:=HTT.out;omega,rfl,rfl,HO7.out,HB7.out,by rw [HSTEP.out,HST2.out],by rw [List.length_append,HLQ.out];simp;omega⟩
           case measure=>simp [intOf];omega
     · have hje:j=pn:=by have:=HTT.out;omega
       have HSTEP:Hid ((L.take (k+1)).foldl (posW v cnt) ([],-1)=(out2,last2)):=by
        rw [Hid,List.take_add_one,HX.out,List.foldl_append,HF.out]
        show posW v cnt (out,last) (nw:Int)=_
        rw [posW,HPN.out,Int.toNat_natCast,← hje,HF2.out]
       have HBE:=Lib.hid (HBR.out.trans HB2.out)
       clear g5 g6
       go_wp2
       go_roundw
       case rel=>exact ⟨k+1,out2,last2,hlt,by go_num,rfl,HOW2.out,HBE.out,HSTEP.out,by have:=HOL.out;omega⟩
       case measure=>simp [intOf];omega
  · obtain rfl:k=n:=by omega
    have e:L.take k=L:=List.take_of_length_le (by rw [HLN.out];exact Nat.le_refl _)
    have HF2:Hid (posL v cnt L=out):=by rw [Hid,posL,← e,HF.out]
    clear hb hown
    go_wp2
    go_ret2
    rw [HF2.out]
    exact ⟨Au,cu,rfl,za1 HOWN.out (by rw [HBW.out];omega),by rw [HBW.out];exact HB6.out.trans (HBR.out.mono (by omega))⟩
end Go.Proofs.YtfdmeojcopkaoaaGreatDoor
