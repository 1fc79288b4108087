import Derived.Test.YtfdmeojcopkaoaaGreatDoorf3F2
import Derived.Test.YtfdmeojcopkaoaaGreatDoorf3M7
import Derived.Test.YtfdmeojcopkaoaaGreatDoorf3X4
import Derived.Test.YtfdmeojcopkaoaaGreatDoorf3KA
set_option maxRecDepth 100000
set_option maxHeartbeats 16000000
namespace Go.Proofs.YtfdmeojcopkaoaaGreatDoor
open Go.RowKit
structure LtV where
 s:SlV
 chain:List Int
 under:Int
def zgk (x:LtV):List Value:=[x.s.v,.int .i64 x.under]
def zbo (l:List LtV):List Value:=l.flatMap zgk
structure LsV where
 sw:SlV
 sws:List Int
 tr:SlV
 trs:List LtV
 ctr:Int
def za7 (x:LsV):List Value:=[x.sw.v,x.tr.v,.int .i64 x.ctr]
theorem ltCells_len (l:List LtV):(zbo l).length=l.length * 2:=zeq (vals:=zgk) (k:=2) (fun _=>rfl) l
theorem ltVals_one (x:LtV):∀ u∈zgk x,u.oneCell'=true:=by
 intro u hu
 simp [zgk] at hu
 rcases hu with rfl | rfl <;> rfl
structure LsOw (w:World) (x:Nat) (q:LsV):Prop where
 sws:w.ownsRow x 3 1 q.sw.v q.sw.n (zah q.sws)
 trs:w.ownsRow x 219 2 q.tr.v q.tr.n (zbo q.trs)
 t:∀ t∈q.trs,t.chain.length=t.s.n∧w.ownsRow x 3 1 t.s.v t.s.n (zah t.chain)
 len:q.sws.length=q.sw.n∧q.trs.length=q.tr.n
structure LsAt (w:World) (B:Nat) (q:LsV):Prop where
 sws:zcs w B q.sw q.sws.length (zah q.sws)
 trs:zcs w B q.tr q.trs.length (zbo q.trs)
 t:∀ t∈q.trs,zcs w B t.s t.chain.length (zah t.chain)
 cap:q.sw.n≤q.sw.c∧q.tr.n≤q.tr.c∧∀ t∈q.trs,t.s.n≤t.s.c
theorem LsOw.keep {w w':World} {x:Nat} {q:LsV} (h:LsOw w x q) (hb:Below w.heap.size w w'):LsOw w' x q:=
 ⟨zag h.sws hb,zag h.trs hb,fun t ht=>⟨(h.t t ht).1,zag (h.t t ht).2 hb⟩,h.len⟩
theorem LsOw.base {w:World} {x x':Nat} {q:LsV} (h:LsOw w x q) (hx:x'≤x):LsOw w x' q:=
 ⟨za1 h.sws hx,za1 h.trs hx,fun t ht=>⟨(h.t t ht).1,za1 (h.t t ht).2 hx⟩,h.len⟩
theorem LsOw.setRow {w:World} {x g:Nat} {q:LsV} (h:LsOw w x q) (cs:Array Value) (hg:g<x):LsOw (w.setRow g cs) x q:=
 ⟨zar h.sws cs (zbh h.sws hg),zar h.trs cs (zbh h.trs hg),fun t ht=>⟨(h.t t ht).1,zar (h.t t ht).2 cs (zbh (h.t t ht).2 hg)⟩,h.len⟩
theorem LsOw.other {w w':World} {x:Nat} {q:LsV} (h:LsOw w x q) (hk:∀ (k t:Nat) (cur:Array Value),(t=3∨t=219)→w.heap[k]?=some (.cells cur t (0,0))→w'.heap[k]?=w.heap[k]?):LsOw w' x q:=
 ⟨zbj h.sws fun k cur h1=>hk k 3 cur (.inl rfl) h1,zbj h.trs fun k cur h1=>hk k 219 cur (.inr rfl) h1,fun t ht=>⟨(h.t t ht).1,zbj (h.t t ht).2 fun k cur h1=>hk k 3 cur (.inl rfl) h1⟩,h.len⟩
theorem LsOw.at {w:World} {x:Nat} {q:LsV} (h:LsOw w x q):LsAt w w.heap.size q:=
 ⟨⟨h.len.1,zbe h.sws⟩,⟨h.len.2,zbe h.trs⟩,fun t ht=>⟨(h.t t ht).1,zbe (h.t t ht).2⟩,zbn h.sws,zbn h.trs,fun t ht=>zbn (h.t t ht).2⟩
theorem LsAt.below {w w':World} {B:Nat} {q:LsV} (h:LsAt w B q) (hb:Below B w w'):LsAt w' B q:=
 ⟨h.sws.below hb,h.trs.below hb,fun t ht=>(h.t t ht).below hb,h.cap⟩
theorem LsAt.mono {w:World} {B B':Nat} {q:LsV} (h:LsAt w B q) (hB:B≤B'):LsAt w B' q:=
 ⟨h.sws.mono hB,h.trs.mono hB,fun t ht=>(h.t t ht).mono hB,h.cap⟩
theorem zhx {w:World} {B e size n:Nat} {C:Array Value} (hB:B≤w.heap.size) (hC:C.size=n * size) (hn:n≤maxLen):(w.alloc (.cells C e)).ownsRow B e size (.slice (some ⟨w.heap.size,0,none⟩) n n) n C.toList:=
 ⟨by simp [hC],.inr ⟨w.heap.size,n,C,rfl,hB,by rw [zae,if_pos rfl],Nat.le_refl _,hn,hC,List.take_of_length_le (by rw [Array.length_toList,hC];exact Nat.le_refl _)⟩⟩
theorem made_ints (n:Nat):(madeCells #[Value.int .i64 0] n).toList=zah (List.replicate n 0):=by
 apply List.ext_getElem?
 intro i
 by_cases h:i<n
 · simp [madeCells,zah,h,Nat.mod_one]
 · simp [madeCells,zah,h]
theorem made_lts (n:Nat):(madeCells #[Value.slice none 0 0,Value.int .i64 0] (n * 2)).toList=zbo (List.replicate n ⟨⟨none,0,0⟩,[],0⟩):=by
 induction n with
 | zero=>simp [madeCells,zbo]
 | succ n ih =>
  have e:zbo (List.replicate (n+1) ⟨⟨none,0,0⟩,[],0⟩)=zbo (List.replicate n ⟨⟨none,0,0⟩,[],0⟩)++[.slice none 0 0,.int .i64 0]:=by
   rw [List.replicate_succ',zbo,List.flatMap_append]
   rfl
  rw [e,← ih]
  have e2:(n+1) * 2=n * 2+1+1:=by omega
  simp only [madeCells,Array.toList_map,Array.toList_range,e2,List.range_succ,List.map_append,List.append_assoc]
  congr 1
  have m0:n * 2 % 2=0:=by omega
  have m1:(n * 2+1) % 2=1:=by omega
  simp [m0,m1]
theorem zk0:(Tryz.prog.info? 219).map (fun i=>(i.zero,i.size,i.bytes))=some (some (.agg #[.slice none 0 0,.int .i64 0]),2,32):=by kernel_rfl
def LbPost (w:World) (nw nt:Nat) (e:Ending) (w':World):Prop:=
 ∃ q:LsV,q.sws=List.replicate nw 0∧q.trs=List.replicate nt ⟨⟨none,0,0⟩,[],0⟩∧q.ctr=0∧e=.returned (.agg (za7 q).toArray)∧LsOw w' w.heap.size q∧Below w.heap.size w w'
def lbFr (bw:Nat) (As At Aw Ar:Option Addr) (ns cs nt ct nw cw nr cr:Nat) (e6 e10 e11:Value):Go.Act:=⟨#[.agg #[.slice As ns cs,.slice At nt ct,.slice Aw nw cw,.slice Ar nr cr],.pointer (some ⟨bw,0,none⟩),.pointer (some ⟨(bw+1),0,none⟩),.pointer (some ⟨bw,2,none⟩),.slice Aw nw cw,.int .i64 nw,e6,.pointer (some ⟨bw,1,none⟩),.slice At nt ct,.int .i64 nt,e10,e11],[]⟩
def LbI (bw:Nat) (As At Aw Ar:Option Addr) (ns cs nt ct nw cw nr cr:Nat) (w0:World) (L:Nat→Bool) (a:Go.Act) (w:World):Prop:=
 ∃ e6 e10 e11,a=lbFr bw As At Aw Ar ns cs nt ct nw cw nr cr e6 e10 e11∧Below w0.heap.size w0 w∧(L 3=true→OwAt w w0.heap.size 3 1 nw (zah (List.replicate nw 0)) e6)∧(L 7=true→OwAt w w0.heap.size 219 2 nt (zbo (List.replicate nt ⟨⟨none,0,0⟩,[],0⟩)) e10) ∧
  (L 8=true→L 3=true∧L 7=true∧e11=.agg #[e6,e10,.int .i64 0])
theorem lkbegin_any (w:World) (As At Aw Ar:Option Addr) (ns cs nt ct nw cw nr cr:Nat) (hn:nt≤1000) (hm:nw≤1000) :
 Calls Tryz.prog 170 #[.agg #[.slice As ns cs,.slice At nt ct,.slice Aw nw cw,.slice Ar nr cr]] w (LbPost w nw nt):=by
 have k0:((w.alloc (.cells #[.slice As ns cs,.slice At nt ct,.slice Aw nw cw,.slice Ar nr cr] 26)).alloc (.cells #[.slice none 0 0,.slice none 0 0,.int .i64 0] 133)).heap[w.heap.size]?=some (.cells #[.slice As ns cs,.slice At nt ct,.slice Aw nw cw,.slice Ar nr cr] 26 (0,0)):=by
  rw [zae,if_neg (by simp),zae,if_pos rfl]
 have k1:((w.alloc (.cells #[.slice As ns cs,.slice At nt ct,.slice Aw nw cw,.slice Ar nr cr] 26)).alloc (.cells #[.slice none 0 0,.slice none 0 0,.int .i64 0] 133)).heap[w.heap.size+1]?=some (.cells #[.slice none 0 0,.slice none 0 0,.int .i64 0] 133 (0,0)):=by
  rw [zae,if_pos (by simp)]
 have hb0:=hB2 w (.cells #[.slice As ns cs,.slice At nt ct,.slice Aw nw cw,.slice Ar nr cr] 26) (.cells #[.slice none 0 0,.slice none 0 0,.int .i64 0] 133)
 have hs:=hS2 w (.cells #[.slice As ns cs,.slice At nt ct,.slice Aw nw cw,.slice Ar nr cr] 26) (.cells #[.slice none 0 0,.slice none 0 0,.int .i64 0] 133)
 have HB:=Lib.hid hb0
 clear hb0
 have HM1:=Lib.hid (run_make_row' (P:=Tryz.prog) 32 3 (.int .i64 0) 8 Tryz.underlying32 zhn rfl .i64 .i64 nw (by omega) (by omega))
 obtain ⟨i1,hi1,hy0,hy1,hy2⟩:=info_parts zk0
 have hm2:∀ w,Sem.run Tryz.prog (Instr.makeSlice 131 (.int .i64 (nt:Int)) (.int .i64 (nt:Int))) w=.ok (.slice (some ⟨w.heap.size,0,none⟩) nt nt) (w.alloc (.cells (madeCells #[.slice none 0 0,.int .i64 0] (nt * 2)) 219)):=fun w=>by
  have h9:=run_make (P:=Tryz.prog) w 131 219 i1 _ Tryz.underlying131 hi1 hy0 .i64 .i64 (nt:Int) (nt:Int) (by omega) (Int.le_refl _) (by rw [hy2];omega) (by omega)
  rw [hy1] at h9
  exact h9
 have HM2:=Lib.hid hm2
 clear hm2 hi1 hy0 hy1 hy2
 go_enter Tryz.func170,Tryz.ntmps170
 go_upto_region 1 with (fail)
 generalize ((w.alloc (.cells #[.slice As ns cs,.slice At nt ct,.slice Aw nw cw,.slice Ar nr cr] 26)).alloc (.cells #[.slice none 0 0,.slice none 0 0,.int .i64 0] 133))=w0 at *
 generalize hbw:w.heap.size=bw at *
 have HBW:=Lib.hid hbw
 clear hbw
 obtain ⟨d0,d1,d2,d3⟩:_∧_∧_∧_:=za9 k0
 have x1:=fun y:Xt w0=>y.cell d1
 have x2:=fun y:Xt w0=>y.cell d2
 refine zaj [9] (fun w'=>∃ y:Xt w0,w'=y.1) (by kernel_rfl) ⟨⟨w0.drew,(Below.refl _ _).drew⟩,rfl⟩ ?_
 refine zao [0,1,2,4,5,6] 4 rfl (by kernel_rfl) ?_
 simp only [zad,zac,zaa,zX1,zX2,zX3]
 repeat (go_big_quiet_step (fail))
 refine wpQuiet_nil ?_
 have hbd:Below w0.heap.size w0 w0.drew:=(Below.refl _ _).drew
 show wpE _ _ _ _ _ _ _ _ _ w0.drew
 generalize w0.drew=wd at *
 clear x1 x2
 refine zdr (g:=1) [3,7,8] (LbI bw As At Aw Ar ns cs nt ct nw cw nr cr w0) rfl (by kernel_rfl) ?_ ?_ ?_
 · exact ⟨undef,undef,undef,rfl,hbd,fun h=>absurd (show false=true from h) (by decide),fun h=>absurd (show false=true from h) (by decide),fun h=>absurd (show false=true from h) (by decide)⟩
 · intro a w8 hS8 hI
   obtain ⟨e6,e10,e11,rfl,hb8,hF6,hF10,hF11⟩:=hI
   obtain ⟨A1,c1,rfl,hc1,hf1⟩:=hF6 (by kernel_rfl)
   obtain ⟨A2,c2,rfl,hc2,hf2⟩:=hF10 (by kernel_rfl)
   obtain ⟨_,_,rfl⟩:=hF11 (by kernel_rfl)
   refine zau rfl (by kernel_rfl) ?_
   simp only [zad,zac,zaa,zX1,zX2,zX3]
   unfold lbFr
   have j1:=(hb8.block (bw+1) (by omega)).trans k1
   refine wpList_store_row rfl 133 _ _ rfl (bw+1) #[.slice A1 nw c1,.slice A2 nt c2,.int .i64 0] rfl rfl 133 _ j1 (by kernel_rfl) rfl (by kernel_rfl) ?_
   go_wp2
   refine zab ?_
   have HO1:=Lib.hid hf1
   have HO2:=Lib.hid hf2
   have HB8:=Lib.hid hb8
   clear hf1 hf2 hb8 hS8 hbd d0 d1 d2 d3 k0 k1
   go_wp2
   refine bodyPost_ret (v:=.agg #[.slice A1 nw c1,.slice A2 nt c2,.int .i64 0]) (results_cell_row rfl _ _ (bw+1) 133 _ (0,0) _ rfl (setRow_heap w8 (bw+1) _ _ 133 (0,0) j1) Tryz.underlying133 rfl (by kernel_rfl)) rfl ⟨⟨⟨A1,nw,c1⟩,List.replicate nw 0,⟨A2,nt,c2⟩,List.replicate nt ⟨⟨none,0,0⟩,[],0⟩,0⟩,rfl,rfl,rfl,rfl,?_,?_⟩
   · rw [HBW.out]
     refine LsOw.base (LsOw.setRow ⟨HO1.out,HO2.out,fun t ht=>?_,by simp,by simp⟩ _ (by omega)) (show bw≤w0.heap.size by omega)
     rw [List.eq_of_mem_replicate ht]
     exact ⟨rfl,⟨rfl,.inl ⟨rfl,rfl⟩⟩⟩
   · rw [HBW.out]
     exact below_setRow (HB.out.trans (HB8.out.mono (by omega))) (by omega) _
 · intro i hi L a w8 hL hd hS8 hI
   obtain ⟨e6,e10,e11,rfl,hb8,hF6,hF10,hF11⟩:=hI
   simp only [List.mem_cons,List.not_mem_nil,or_false] at hi
   rcases hi with rfl | rfl | rfl
   · unfold zap
     simp only [zad,zac,zaa,zX1,zX2,zX3]
     unfold lbFr
     have hmk:=HM1.out
     go_wp2
     have hbn:=hB1 w8 (.cells (madeCells #[.int .i64 0] nw) 3)
     have hbx:=hb8.trans (hbn.mono hb8.size)
     have ho:(w8.alloc (.cells (madeCells #[.int .i64 0] nw) 3)).ownsRow w0.heap.size 3 1 (.slice (some ⟨w8.heap.size,0,none⟩) nw nw) nw (zah (List.replicate nw 0)):=by
      rw [← made_ints]
      exact zhx hb8.size (by simp [madeCells]) (by simp only [maxLen];omega)
     exact zab ⟨⟨⟨_,hbx⟩,rfl⟩,⟨_,e10,e11,rfl,hbx,fun _=>⟨_,_,rfl,Nat.le_refl _,ho⟩,fun h=>(hF10 h).keep hbn,fun h=>absurd (hF11 h).1 (by rw [hL];decide)⟩⟩
   · unfold zap
     simp only [zad,zac,zaa,zX1,zX2,zX3]
     unfold lbFr
     have hmk:=HM2.out
     go_wp2
     have hbn:=hB1 w8 (.cells (madeCells #[.slice none 0 0,.int .i64 0] (nt * 2)) 219)
     have hbx:=hb8.trans (hbn.mono hb8.size)
     have ho:(w8.alloc (.cells (madeCells #[.slice none 0 0,.int .i64 0] (nt * 2)) 219)).ownsRow w0.heap.size 219 2 (.slice (some ⟨w8.heap.size,0,none⟩) nt nt) nt (zbo (List.replicate nt ⟨⟨none,0,0⟩,[],0⟩)):=by
      rw [← made_lts]
      exact zhx hb8.size (by simp [madeCells]) (by simp only [maxLen];omega)
     exact zab ⟨⟨⟨_,hbx⟩,rfl⟩,⟨e6,_,e11,rfl,hbx,fun h=>(hF6 h).keep hbn,fun _=>⟨_,_,rfl,Nat.le_refl _,ho⟩,fun h=>absurd (hF11 h).2.1 (by rw [hL];decide)⟩⟩
   · obtain ⟨A1,c1,rfl,hc1,hf1⟩:=hF6 (hd 3 (by kernel_rfl))
     obtain ⟨A2,c2,rfl,hc2,hf2⟩:=hF10 (hd 7 (by kernel_rfl))
     unfold zap
     simp only [zad,zac,zaa,zX1,zX2,zX3]
     unfold lbFr
     go_wp2
     exact zab ⟨⟨⟨_,hb8⟩,rfl⟩,⟨_,_,_,rfl,hb8,hF6,hF10,fun _=>⟨hd 3 (by kernel_rfl),hd 7 (by kernel_rfl),rfl⟩⟩⟩
end Go.Proofs.YtfdmeojcopkaoaaGreatDoor
namespace Go.Proofs.YtfdmeojcopkaoaaGreatDoor
open Go.RowKit
theorem zfx (w:World) (B:Nat) (p:PlantV) (h:PlantAt w B p) (hS:PlantS p) (hB:B≤w.heap.size):Calls Tryz.prog 169 #[.agg (zan p).toArray] w (zax w (zch p)):=by
 have hb0:=hB1 w (.cells (zan p).toArray 26)
 have RT:=zim (w.alloc (.cells (zan p).toArray 26)) B p (h.keep hb0) hS (Nat.le_trans hB hb0.size)
 have k0:=hA1 w (.cells (zan p).toArray 26)
 generalize zch p=V at *
 have HB:=Lib.hid hb0
 have hs0:=hb0.size
 clear hb0 h hS hB
 go_enter Tryz.func169,Tryz.ntmps169
 go_upto_region 1 with (fail)
 generalize w.alloc (.cells (zan p).toArray 26)=w0 at *
 generalize hbw:w.heap.size=bw at *
 have HBW:=Lib.hid hbw
 clear hbw
 go_wp2_with (with_reducible refine zaz 26 ?_)
 unfold Stp
 refine wpList_load_row rfl 26 _ rfl bw rfl 26 _ (0,0) _ k0 Tryz.underlying26 rfl (by kernel_rfl) ?_
 go_wp2_with (go_at_call 16;refine RT.mono ?_;rintro e wa ⟨ma,mb,rfl,hb1⟩)
 go_ret
 exact ⟨rfl,by rw [HBW.out];exact HB.out.trans ((hb1.mono hs0).alloc (Nat.le_trans hs0 hb1.size) _)⟩
def LbgPost (w:World) (nw nt:Nat) (e:Ending) (w':World):Prop:=
 ∃ q:LsV,q.sws=List.replicate nw 0∧q.trs=List.replicate nt ⟨⟨none,0,0⟩,[],0⟩∧q.ctr=0∧e=.returned (.tuple #[.agg (za7 q).toArray,.int .i64 0])∧LsOw w' w.heap.size q∧Below w.heap.size w w'
theorem lkBegin_any (w:World) (B:Nat) (p:PlantV) (h:PlantAt w B p) (hS:PlantS p) (h0:zch p=0) (hB:B≤w.heap.size):Calls Tryz.prog 144 #[.agg (zan p).toArray] w (LbgPost w p.ws.n p.ts.n):=by
 have k0:((w.alloc (.cells (zan p).toArray 26)).alloc (.cells #[.slice none 0 0,.slice none 0 0,.int .i64 0] 133)).heap[w.heap.size]?=some (.cells (zan p).toArray 26 (0,0)):=by
  rw [zae,if_neg (by simp),zae,if_pos rfl]
 have k1:((w.alloc (.cells (zan p).toArray 26)).alloc (.cells #[.slice none 0 0,.slice none 0 0,.int .i64 0] 133)).heap[w.heap.size+1]?=some (.cells #[.slice none 0 0,.slice none 0 0,.int .i64 0] 133 (0,0)):=by
  rw [zae,if_pos (by simp)]
 have hb0:=hB2 w (.cells (zan p).toArray 26) (.cells #[.slice none 0 0,.slice none 0 0,.int .i64 0] 133)
 have hs:=hS2 w (.cells (zan p).toArray 26) (.cells #[.slice none 0 0,.slice none 0 0,.int .i64 0] 133)
 have RT:=zfx ((w.alloc (.cells (zan p).toArray 26)).alloc (.cells #[.slice none 0 0,.slice none 0 0,.int .i64 0] 133)) B p (h.keep hb0) hS (Nat.le_trans hB hb0.size)
 rw [h0] at RT
 have hn:p.ts.n≤1000:=by rw [← h.trains.1];exact hS.trains.1
 have hm:p.ws.n≤1000:=by rw [← h.sws.1];exact hS.sws.1
 have HB:=Lib.hid hb0
 clear hb0 h hS hB h0
 go_enter Tryz.func144,Tryz.ntmps144
 go_upto_region 1 with (fail)
 generalize (w.alloc (.cells (zan p).toArray 26)).alloc (.cells #[.slice none 0 0,.slice none 0 0,.int .i64 0] 133)=w0 at *
 generalize hbw:w.heap.size=bw at *
 have HBW:=Lib.hid hbw
 clear hbw
 go_wp2_with (with_reducible refine zaz 26 ?_)
 unfold Stp
 refine wpList_load_row rfl 26 _ rfl bw rfl 26 _ (0,0) _ k0 Tryz.underlying26 rfl (by kernel_rfl) ?_
 go_upto_region 2 with (go_at_call 169;refine RT.mono ?_;rintro e wa ⟨rfl,hb1⟩)
 replace k0:=blk hb1 k0
 replace k1:=blk hb1 k1
 replace HB:=Lib.hid (HB.out.trans (hb1.mono (by omega)))
 replace hs:=Nat.le_trans hs hb1.size
 clear hb1 RT
 go_wp2_with (with_reducible refine zaz 26 ?_)
 unfold Stp
 refine wpList_load_row rfl 26 _ rfl bw rfl 26 _ (0,0) _ k0 Tryz.underlying26 rfl (by kernel_rfl) ?_
 have RB:=lkbegin_any wa p.ss.A p.ts.A p.ws.A p.rs.A p.ss.n p.ss.c p.ts.n p.ts.c p.ws.n p.ws.c p.rs.n p.rs.c hn hm
 go_wp2_with (first | (go_at_call 170;refine RB.mono ?_;rintro e wb ⟨q,hq1,hq2,hq3,rfl,hO,hb1⟩) | (with_reducible refine zat 133 ?_))
 unfold Stp
 replace k1:=blk hb1 k1
 replace HB:=Lib.hid (HB.out.trans (hb1.mono (by omega)))
 refine wpList_store_row rfl 133 _ _ rfl (bw+1) (za7 q).toArray rfl rfl 133 _ k1 (by kernel_rfl) rfl (by kernel_rfl) ?_
 obtain ⟨r0,r1,r2⟩:_∧_∧_:=zbc (setRow_heap wb (bw+1) _ #[.slice q.sw.A q.sw.n q.sw.c,.slice q.tr.A q.tr.n q.tr.c,.int .i64 q.ctr] 133 (0,0) k1)
 have HQ:=Lib.hid (And.intro hq1 (And.intro hq2 hq3))
 have HO:=Lib.hid hO
 clear hq1 hq2 hq3 hO hb1 RB
 change wpList _ _ _ _ _ (wb.setRow (bw+1) #[.slice q.sw.A q.sw.n q.sw.c,.slice q.tr.A q.tr.n q.tr.c,.int .i64 q.ctr])
 go_wp2
 refine bodyPost_ret (v:=.tuple #[.agg #[.slice q.sw.A q.sw.n q.sw.c,.slice q.tr.A q.tr.n q.tr.c,.int .i64 q.ctr],.int .i64 0]) (by simp [results,Tryz.results144,go_sem,r0,r1,r2]) rfl ⟨q,HQ.out.1,HQ.out.2.1,HQ.out.2.2,rfl,?_,?_⟩
 · rw [HBW.out]
   exact (HO.out.setRow _ (by omega)).base (by omega)
 · rw [HBW.out]
   exact below_setRow HB.out (by omega) _
end Go.Proofs.YtfdmeojcopkaoaaGreatDoor
namespace Go.Proofs.YtfdmeojcopkaoaaGreatDoor
open Go.RowKit
theorem hasB_ok (k:Nat) (hk:k<3) (w:World):Calls Tryz.prog 260 #[.int .i64 k] w fun e w'=>e=.returned (.bool true)∧w=w':=by
 have:k=0∨k=1∨k=2:=by omega
 rcases this with rfl | rfl | rfl
 all_goals
  go_enter Tryz.func260,Tryz.ntmps260
  go_wp2
  go_ret
  exact ⟨rfl,rfl⟩
def NumsOf (ws:List ByteArray) (ns:List Int):Prop:=ns.length=ws.length∧∀ (k:Nat) (s:ByteArray),ws[k]?=some s→s.size≤1000000∧∃ n,ns[k]?=some n∧numL s.data.toList 4=some n∧0≤n
def NumsPost (w:World) (ns:List Int) (e:Ending) (w':World):Prop:=
 ∃ A c,e=.returned (.tuple #[.slice A ns.length c,.bool true])∧w'.ownsRow w.heap.size 3 1 (.slice A ns.length c) ns.length (zah ns)∧Below w.heap.size w w'
def NumsRel (w:World) (ns:List Int) (u4 u11:Value) (wr:World):Prop:=
 ∃ (k:Nat),k≤ns.length∧u11=.int .i64 k∧wr.ownsRow w.heap.size 3 1 u4 k (zah (ns.take k))∧Below w.heap.size w wr
theorem zgo {ns:List Int} {k:Nat} {n:Int} (h:ns[k]?=some n):zah (ns.take (k+1))=zah (ns.take k)++[.int .i64 n]:=by
 rw [List.take_add_one,h]
 simp [zah]
theorem numbers_ok (A:Option Addr) (c:Nat) (ws:List ByteArray) (ns:List Int) (hn:NumsOf ws ns) (hl:ws.length≤1000) (w:World) (ht:TxtAt w) (hr:Rd w w.heap.size A (strCells ws)) :
 Calls Tryz.prog 259 #[.slice A ws.length c] w (NumsPost w ns):=by
 obtain ⟨i1,hi1,hy0,hy1,hy2⟩:=info_parts zhn
 have hlen:=hn.1
 rw [← hlen] at hl ⊢
 obtain ⟨m,hm⟩:∃ m,ns.length=m:=⟨_,rfl⟩
 rw [hm] at hl hlen ⊢
 have HM:=Lib.hid hm
 have HN:=Lib.hid hn.2
 have HLEN:=Lib.hid hlen
 have HT:=Lib.hid ht
 have HRD:=Lib.hid hr
 clear hn hm hlen ht hr
 go_enter Tryz.func259,Tryz.ntmps259
 go_wp2
 go_loopw [4,11] (fun u4 u11 wr=>NumsRel w ns u4 u11 wr) (fun _ u11 _=>m - (intOf u11).toNat)
 case atStart=>exact ⟨0,Nat.zero_le _,rfl,⟨rfl,.inl ⟨rfl,rfl⟩⟩,Below.refl _ _⟩
 case round =>
  obtain ⟨k,hk,rfl,hown,hb⟩:=hrel
  rw [HM.out] at hk
  have HOWN:=Lib.hid hown
  obtain ⟨Au,cu,rfl⟩:=zco hown
  have HB:=Lib.hid hb
  have hsz:=hb.size
  by_cases hlt:k<m
  · obtain ⟨s,hs⟩:∃ s,ws[k]?=some s:=⟨_,List.getElem?_eq_getElem (by rw [← HLEN.out];exact hlt)⟩
    obtain ⟨hss,n,hn,hn2,hn0⟩:=HN.out k s hs
    obtain ⟨b,off,rfl,hbB,hc⟩:=(HRD.out.keep hb).at_ (k:=k) (u:=.string s) (by simp only [strCells,List.getElem?_map,hs,Option.map_some])
    have C:=number313_ok s hss n hn2 hn0 wr (HT.out.below hb)
    have HV:=Lib.hid (zgo hn)
    clear hs hss hn hn2 hn0 hb hown HRD HLEN hk
    go_upto_region 5 with (fail)
    go_upto_region 6 with (go_at_call 313;refine C.mono ?_;rintro e w1 ⟨rfl,hb1⟩)
    have hown1:=zag HOWN.out hb1
    have hb2:=HB.out.trans (hb1.mono hsz)
    have hsz2:=Nat.le_trans hsz hb1.size
    clear HB HOWN hb1 C hc
    go_upto_region 8 with (fail)
    go_wp2_with (at_builtin;refine stp ?_)
    unfold Stp
    refine wpList_append_lies _ rfl _ _ 32 rfl w.heap.size 3 i1 _ 1 8 Tryz.underlying32 hi1 hy0 hy1 hy2 rfl (by omega) (.slice Au k cu) k _ rfl (hown1.alloc _) ⟨w1.heap.size,0,none⟩ 1 1 [.int .i64 n] rfl rfl (zey (by simp)) (by simp [Value.oneCell']) (by omega) (by simp only [maxLen];omega) (by omega) (by simp;omega) _ rfl ?_
    intro gg cap w6 hown6 hgrow6 hat6 hlt6
    have HB7:=Lib.hid ((hb2.alloc hsz2 _).grown hgrow6 (by simp;omega) (fun j hj=>(zbf hown1 hj).1))
    have HO6:Hid (w6.ownsRow w.heap.size 3 1 (.slice (some ⟨gg,0,none⟩) (k+1) cap) (k+1) (zah (ns.take (k+1)))):=by
     rw [Hid,HV.out]
     exact hown6
    clear hown6 hgrow6 hat6 hlt6 hown1 hb2 HV
    go_wp2
    go_roundw
    case rel=>exact ⟨k+1,by rw [HM.out];omega,by go_num,HO6.out,HB7.out⟩
    case measure=>simp [intOf];omega
  · obtain rfl:k=m:=by omega
    have e:ns.take k=ns:=List.take_of_length_le (by rw [HM.out];exact Nat.le_refl _)
    rw [e] at hown
    have HO:=Lib.hid hown
    clear hown HOWN hb
    go_wp2
    go_ret2
    exact ⟨Au,cu,by rw [HM.out];rfl,by rw [HM.out];exact HO.out,HB.out⟩
end Go.Proofs.YtfdmeojcopkaoaaGreatDoor
namespace Go.Proofs.YtfdmeojcopkaoaaGreatDoor
open Go.RowKit
theorem info373s:(Tryz.prog.info? 373).map (fun i=>(i.zero,i.size,i.bytes))=some (some (.pointer none),1,8):=by kernel_rfl
def SplitPost (w:World) (l:List ByteArray) (n:Nat) (e:Ending) (w':World):Prop:=
 ∃ bb,e=.returned (.slice (some ⟨bb,0,none⟩) n n)∧bb<w'.heap.size∧Rd w' w'.heap.size (some ⟨bb,0,none⟩) (strCells l)∧Below w.heap.size w w'
theorem zev (s:ByteArray) (hs:s.size≤1000000) (w:World) (ht:TxtAt w):Calls Tryz.prog 115 #[.string s,.string ⟨#[32]⟩] w (SplitPost w (zkk s) (zkk s).length):=by
 obtain ⟨m,hm⟩:=ht.mx
 refine (Tryz.strings_Split s ⟨#[32]⟩ m w (by omega) hm (by decide)).mono fun e w' ⟨he,hw⟩=>⟨w.heap.size,?_,?_,?_,?_⟩
 · rw [he,splitB_len]
 · rw [hw];simp
 · rw [hw,zjt]
   exact zby (t:=9) (fr:=(0,0)) (cs:=((zkk s).map Value.string).toArray) (by rw [zae,if_pos rfl])
 · rw [hw]
   exact (Below.refl _ _).alloc (Nat.le_refl _) _
theorem zbz {w:World} {B b off k:Nat} {u:Value} {xs:List Value} (h:Rd w B (some ⟨b,off,none⟩) xs) (hk:xs[k]?=some u):w.cell? ⟨b,off+k,none⟩=some u:=by
 obtain ⟨b',off',hA,_,hc⟩:=h k u hk
 injection hA with hA
 injection hA with h1 h2
 subst h1 h2
 exact hc
theorem zfh {w:World} {B b off:Nat} {u:Value} {us:List Value} (h:Rd w B (some ⟨b,off,none⟩) (u :: us)):Rd w B (some ⟨b,off+1,none⟩) us:=fun k v hk=>by
 obtain ⟨b',off',hA,hB,hc⟩:=h (k+1) v (by simpa using hk)
 injection hA with hA
 injection hA with h1 h2
 subst h1 h2
 exact ⟨b,off+1,rfl,hB,by rw [show off+1+k=off+(k+1) by omega];exact hc⟩
def ziw:List ByteArray:=[ba [112,108,97,99,101],ba [114,101,113,117,101,115,116],ba [116,117,114,110],ba [101,110,116,101,114],ba [108,101,97,118,101],ba [103,105,118,101],ba [116,97,107,101]]
structure CtAt (w:World):Prop where
 txt:TxtAt w
 words:∀ (k:Nat) (s:ByteArray),ziw[k]?=some s→w.cell? ⟨2,k,none⟩=some (.string s)
theorem CtAt.below {w w':World} (h:CtAt w) (hb:Below w.heap.size w w'):CtAt w':=⟨h.txt.below hb,fun k s hk=>zas hb (h.words k s hk)⟩
def EvPost (w:World) (k:Nat) (a b:Int) (e:Ending) (w':World):Prop:=e=.returned (.tuple #[.agg #[.int .i64 k,.int .i64 a,.int .i64 b],.int .i64 0])∧Below w.heap.size w w'
theorem zjq (w:World) (hw:CtAt w) (wd:ByteArray) (k:Nat) (hk:Lib.idxOfS ziw wd=(k:Int)):Calls Tryz.prog 127 #[.slice (some ⟨2,0,none⟩) 7 7,.string wd] w fun e w'=>e=.returned (.int .i64 k)∧w=w':=
 (Tryz.slices_Index_string 2 0 7 7 ziw wd w (by decide) (by decide) (fun j hj=>by
  rw [Nat.zero_add]
  refine hw.words j _ ?_
  rw [List.getD_eq_getElem?_getD,List.getElem?_eq_getElem hj]
  rfl)).mono fun _ _ ⟨he,hq⟩=>⟨by rw [he];exact congrArg (fun z=>Ending.returned (.int .i64 z)) hk,hq.symm⟩
def EvRel (w6:World) (y1 gg bn on k:Nat) (a b:Int) (u:Value) (wr:World):Prop:=
 ∃ (i:Nat) (va vb:Int),u=.int .i64 i∧wr.heap[y1]?=some (.cells #[.int .i64 k,.int .i64 va,.int .i64 vb] 292 (0,0))∧wr.cell? ⟨gg,0,none⟩=some (.pointer (some ⟨y1,1,none⟩))∧wr.cell? ⟨gg,1,none⟩=some (.pointer (some ⟨y1,2,none⟩)) ∧
  wr.cell? ⟨bn,on,none⟩=some (.int .i64 a)∧wr.cell? ⟨bn,on+1,none⟩=some (.int .i64 b)∧Below y1 w6 wr∧(i=0∧va=0∧vb=0∨i=1∧va=a∧vb=0∨i=2∧va=a∧vb=b)
theorem EvRel.set {w6 wr:World} {y1 gg bn on i:Nat} {a b:Int} {v:Value} (hg:y1+1≤gg) (hn:bn<y1) (h0:wr.cell? ⟨gg,0,none⟩=some (.pointer (some ⟨y1,1,none⟩))) (h1:wr.cell? ⟨gg,1,none⟩=some (.pointer (some ⟨y1,2,none⟩)))
 (h2:wr.cell? ⟨bn,on,none⟩=some (.int .i64 a)) (h3:wr.cell? ⟨bn,on+1,none⟩=some (.int .i64 b)) (hb:Below y1 w6 wr) :
 (wr.setCell ⟨y1,i,none⟩ v).cell? ⟨gg,0,none⟩=some (.pointer (some ⟨y1,1,none⟩))∧(wr.setCell ⟨y1,i,none⟩ v).cell? ⟨gg,1,none⟩=some (.pointer (some ⟨y1,2,none⟩)) ∧
 (wr.setCell ⟨y1,i,none⟩ v).cell? ⟨bn,on,none⟩=some (.int .i64 a)∧(wr.setCell ⟨y1,i,none⟩ v).cell? ⟨bn,on+1,none⟩=some (.int .i64 b)∧Below y1 w6 (wr.setCell ⟨y1,i,none⟩ v):=by
 refine ⟨?_,?_,?_,?_,hb.setCell (Nat.le_refl y1) _⟩
 · rw [World.cell?_setCell_other _ _ _ _ (fun he=>by have:y1=gg:=congrArg Addr.block he;omega)];exact h0
 · rw [World.cell?_setCell_other _ _ _ _ (fun he=>by have:y1=gg:=congrArg Addr.block he;omega)];exact h1
 · rw [World.cell?_setCell_other _ _ _ _ (fun he=>by have:y1=bn:=congrArg Addr.block he;omega)];exact h2
 · rw [World.cell?_setCell_other _ _ _ _ (fun he=>by have:y1=bn:=congrArg Addr.block he;omega)];exact h3
theorem zgx (s wd x y:ByteArray) (k:Nat) (a b:Int) (hs:s.size≤1000000) (hsp:zkk s=[wd,x,y]) (hk:Lib.idxOfS ziw wd=(k:Int)) (hk3:k<3) (ha:numL x.data.toList 4=some a) (ha0:0≤a) (hb:numL y.data.toList 4=some b) (hb0:0≤b)
 (w:World) (hw:CtAt w):Calls Tryz.prog 207 #[.string s] w (EvPost w k a b):=by
 have hpart:=zgb s
 have CC:=zev s hs
 rw [hsp] at CC hpart
 have hx:x.size≤1000000:=Nat.le_trans (hpart x (by simp)) hs
 have hy:y.size≤1000000:=Nat.le_trans (hpart y (by simp)) hs
 have NS:NumsOf [x,y] [a,b]:=⟨rfl,fun k s h=>by
  match k,h with
  | 0,h=>cases h;exact ⟨hx,a,rfl,ha,ha0⟩
  | 1,h=>cases h;exact ⟨hy,b,rfl,hb,hb0⟩⟩
 have hB0:=hB1 w (.cells #[.int .i64 0,.int .i64 0,.int .i64 0] 292)
 have k0:=hA1 w (.cells #[.int .i64 0,.int .i64 0,.int .i64 0] 292)
 have hz0:w.heap.size<(w.alloc (.cells #[.int .i64 0,.int .i64 0,.int .i64 0] 292)).heap.size:=by simp
 have HW:=Lib.hid (hw.below hB0)
 replace CC:=CC _ HW.out.txt
 have HKK:=Lib.hid hk
 have HB:=Lib.hid hB0
 clear hpart hx hy hB0 hw hsp ha hb hk ha0 hb0
 go_enter Tryz.func207,Tryz.ntmps207
 go_upto_region 1 with (fail)
 generalize (w.alloc (.cells #[.int .i64 0,.int .i64 0,.int .i64 0] 292))=wa at *
 generalize hxx:w.heap.size=z at *
 have HX:=Lib.hid hxx
 clear hxx
 go_upto_region 2 with (go_at_call 115;refine CC.mono ?_;rintro e w1 ⟨bb,rfl,hbB,hrd,hb1⟩)
 have hc0:=zbz hrd (k:=0) (u:=.string wd) rfl
 rw [Nat.zero_add] at hc0
 have W1:=HW.out.below hb1
 have IX:=zjq w1 W1 wd k HKK.out
 replace k0:=blk hb1 k0
 replace HB:=Lib.hid (HB.out.trans (hb1.mono (by omega)))
 replace hz0:=Nat.lt_of_lt_of_le hz0 hb1.size
 have HRD:=Lib.hid hrd
 clear hb1 CC HW hrd
 have W1X:=fun y:Xt w1=>W1.below y.2
 have x0:=fun y:Xt w1=>y.cell hc0
 refine zaw [] [0,1,2,3] 4 [5] (fun w'=>∃ y:Xt w1,w'=y.1) (by as_aux_lemma=>kernel_rfl) (by as_aux_lemma=>kernel_rfl) ⟨⟨w1.drew,(Below.refl _ _).drew⟩,rfl⟩ ?_
 simp only [zad,zac,zaa,zX1,zX2,zX3]
 refine wpQuiet_nil ?_
 show wpQuiet _ _ _ _ _ _
 repeat (go_big_quiet_step (fail))
 refine wpQuiet_nil ?_
 intro wb hx
 have hb3:=Xt.below hx
 have IX:=zjq wb (W1.below hb3) wd k HKK.out
 replace W1:=Lib.hid (W1.below hb3)
 replace k0:=blk hb3 k0
 replace HB:=Lib.hid (HB.out.trans (hb3.mono (by omega)))
 replace hz0:=Nat.lt_of_lt_of_le hz0 hb3.size
 have HRD2:=Lib.hid ((HRD.out.keep hb3).mono hb3.size)
 clear x0 hx W1X hb3 HRD hc0 hbB
 go_upto_region 3 with (go_at_call 127;refine IX.mono ?_;rintro e w' ⟨rfl,rfl⟩)
 refine zab ?_
 clear IX
 have NN:=numbers_ok (some ⟨bb,1,none⟩) 2 [x,y] [a,b] NS (by simp) wb W1.out.txt (zfh HRD2.out)
 go_upto_region 4 with (go_at_call 259;refine NN.mono ?_;rintro e w2 ⟨An,cn,rfl,hO,hb2⟩)
 replace k0:=blk hb2 k0
 replace HB:=Lib.hid (HB.out.trans (hb2.mono (by omega)))
 replace hz0:=Nat.lt_of_lt_of_le hz0 hb2.size
 have HRN:=Lib.hid ((zbe hO).mono (Nat.le_refl _))
 clear hb2 hO NN NS W1 HRD2
 have q0:¬ (k:Int)<0:=by omega
 clear IX
 go_upto_region 8 with (fail)
 obtain ⟨bn,on,rfl,hbn,hn0⟩:=HRN.out.at_ (k:=0) (u:=.int .i64 a) rfl
 have hn1:=zbz HRN.out (k:=1) (u:=.int .i64 b) rfl
 rw [Nat.add_zero] at hn0
 clear HRN
 have ky:((w2.alloc (.cells #[.int .i64 k,.int .i64 0,.int .i64 0] 292)).alloc (.cells #[.pointer (some ⟨w2.heap.size,1,none⟩)] 373)).heap[w2.heap.size]?=some (.cells #[.int .i64 k,.int .i64 0,.int .i64 0] 292 (0,0)):=by
  rw [zae,if_neg (by simp),zae,if_pos rfl]
 have hbx:=hB2 w2 (.cells #[.int .i64 k,.int .i64 0,.int .i64 0] 292) (.cells #[.pointer (some ⟨w2.heap.size,1,none⟩)] 373)
 have hO:((w2.alloc (.cells #[.int .i64 k,.int .i64 0,.int .i64 0] 292)).alloc (.cells #[.pointer (some ⟨w2.heap.size,1,none⟩)] 373)).ownsRow (w2.heap.size+1) 373 1 (.slice (some ⟨w2.heap.size+1,0,none⟩) 1 1) 1 [.pointer (some ⟨w2.heap.size,1,none⟩)]:=by
  have:=zhx (w:=w2.alloc (.cells #[.int .i64 k,.int .i64 0,.int .i64 0] 292)) (B:=w2.heap.size+1) (e:=373) (size:=1) (n:=1) (C:=#[.pointer (some ⟨w2.heap.size,1,none⟩)]) (by simp) rfl (by decide)
  simpa using this
 replace hn0:=zas hbx hn0
 replace hn1:=zas hbx hn1
 replace k0:=blk hbx k0
 replace HB:=Lib.hid (HB.out.trans (hbx.mono (by omega)))
 have hsw:=hS2 w2 (.cells #[.int .i64 k,.int .i64 0,.int .i64 0] 292) (.cells #[.pointer (some ⟨w2.heap.size,1,none⟩)] 373)
 clear hbx
 generalize (w2.alloc (.cells #[.int .i64 k,.int .i64 0,.int .i64 0] 292)).alloc (.cells #[.pointer (some ⟨w2.heap.size,1,none⟩)] 373)=w3 at *
 generalize w2.heap.size=y1 at *
 have HH:=fun W=>hasB_ok k hk3 W
 have HO:=Lib.hid hO
 clear hO
 obtain ⟨i1,hi1,hy0,hy1,hy2⟩:=info_parts info373s
 go_upto_region 9 with (go_at_call 260;refine (HH _).mono ?_;rintro e w' ⟨rfl,rfl⟩)
 go_wp2_with (at_builtin;refine stp ?_)
 unfold Stp
 refine wpList_append_lies _ rfl _ _ 378 rfl (y1+1) 373 i1 _ 1 8 Tryz.underlying378 hi1 hy0 hy1 hy2 rfl (by omega) (.slice (some ⟨y1+1,0,none⟩) 1 1) 1 _ rfl (HO.out.alloc _) ⟨w3.heap.size,0,none⟩ 1 1 [.pointer (some ⟨y1,2,none⟩)] rfl rfl (zey (by simp)) (by simp [Value.oneCell']) (by omega) (by simp only [maxLen];omega) (by omega) (by simp;omega) _ rfl ?_
 intro gg cap w6 hown6 hgrow6 hat6 hlt6
 have hb6:Below (y1+1) w3 w6:=(((Below.refl (y1+1) w3).alloc (by omega) _)).grown hgrow6 (by simp;omega) (fun j hj=>(zbf HO.out hj).1)
 have p0:w6.cell? ⟨gg,0,none⟩=some (.pointer (some ⟨y1,1,none⟩)):=zbz (zbe hown6) (k:=0) rfl
 have p1:w6.cell? ⟨gg,1,none⟩=some (.pointer (some ⟨y1,2,none⟩)):=zbz (zbe hown6) (k:=1) rfl
 have hgg:y1+1≤gg:=(zbf hown6 (k:=gg) rfl).1
 replace hn0:=keptB hb6 (show bn<y1+1 by omega) hn0
 replace hn1:=keptB hb6 (show bn<y1+1 by omega) hn1
 replace k0:=(hb6.block z (by omega)).trans k0
 replace ky:=(hb6.block y1 (by omega)).trans ky
 replace HB:=Lib.hid (HB.out.trans (hb6.mono (by omega)))
 have hs6:=hb6.size
 clear hb6 hown6 hgrow6 hat6 hlt6 HO hi1 hy0 hy1 hy2 HH
 go_wp2
 go_loopw [50] (fun u50 wr=>EvRel w6 y1 gg bn on k a b u50 wr) (fun u50 _=>2 - (intOf u50).toNat)
 case atStart=>exact ⟨0,0,0,rfl,ky,p0,p1,hn0,hn1,Below.refl _ _,.inl ⟨rfl,rfl,rfl⟩⟩
 case round =>
  obtain ⟨i,va,vb,rfl,hy,h0,h1,h2,h3,hb,hst⟩:=hrel
  have f1:=frozen_of_row wr y1 1 _ _ hy
  have f2:=frozen_of_row wr y1 2 _ _ hy
  obtain ⟨_,c1,c2⟩:_∧_∧_:=zbc hy
  have HB9:=Lib.hid hb
  have S1:=fun v=>EvRel.set (i:=1) (v:=v) hgg hbn h0 h1 h2 h3 hb
  have S2:=fun v=>EvRel.set (i:=2) (v:=v) hgg hbn h0 h1 h2 h3 hb
  have kz:=(hb.block z (by omega)).trans k0
  have hsz:=hb.size
  clear hn0 hn1 p0 p1 ky k0 hb
  rcases hst with ⟨rfl,rfl,rfl⟩ | ⟨rfl,rfl,rfl⟩ | ⟨rfl,rfl,rfl⟩
  · have HY:Hid ((wr.setCell ⟨y1,1,none⟩ (.int .i64 a)).heap[y1]?=some (.cells #[.int .i64 k,.int .i64 a,.int .i64 0] 292 (0,0))):=by
     rw [Hid,zd0,if_pos rfl,hy]
     rfl
    have HS:=Lib.hid (S1 (.int .i64 a))
    clear hy S1 S2 f2 c2 h1 h3
    go_wp2
    go_roundw
    case rel=>exact ⟨1,a,0,rfl,HY.out,HS.out.1,HS.out.2.1,HS.out.2.2.1,HS.out.2.2.2.1,HS.out.2.2.2.2,.inr (.inl ⟨rfl,rfl,rfl⟩)⟩
    case measure=>simp [intOf]
  · have HY:Hid ((wr.setCell ⟨y1,2,none⟩ (.int .i64 b)).heap[y1]?=some (.cells #[.int .i64 k,.int .i64 va,.int .i64 b] 292 (0,0))):=by
     rw [Hid,zd0,if_pos rfl,hy]
     rfl
    have HS:=Lib.hid (S2 (.int .i64 b))
    clear hy S1 S2 f1 c1 h0 h2
    go_wp2
    go_roundw
    case rel=>exact ⟨2,va,b,rfl,HY.out,HS.out.1,HS.out.2.1,HS.out.2.2.1,HS.out.2.2.2.1,HS.out.2.2.2.2,.inr (.inr ⟨rfl,rfl,rfl⟩)⟩
    case measure=>simp [intOf]
  · clear S1 S2 h0 h1 h2 h3 f1 f2 c1 c2
    go_wp2_with (with_reducible refine zaz 292 ?_)
    unfold Stp
    refine wpList_load_row rfl 292 _ rfl y1 rfl 292 _ (0,0) _ hy Tryz.underlying292 rfl (by kernel_rfl) ?_
    go_wp2_with (with_reducible refine zat 292 ?_)
    unfold Stp
    refine wpList_store_row rfl 292 _ _ rfl z #[.int .i64 k,.int .i64 va,.int .i64 vb] rfl rfl 292 _ kz (by kernel_rfl) rfl (by kernel_rfl) ?_
    obtain ⟨r0,r1,r2⟩:_∧_∧_:=zbc (setRow_heap wr z _ #[.int .i64 k,.int .i64 va,.int .i64 vb] 292 (0,0) kz)
    have HB8:Hid (Below z w (wr.setRow z #[.int .i64 k,.int .i64 va,.int .i64 vb])):=below_setRow (HB.out.trans (HB9.out.mono (by omega))) (Nat.le_refl z) _
    clear hy kz
    generalize wr.setRow z #[.int .i64 k,.int .i64 va,.int .i64 vb]=wz at *
    go_wp2
    refine bodyPost_ret (v:=.tuple #[.agg #[.int .i64 k,.int .i64 va,.int .i64 vb],.int .i64 0]) (by simp [results,Tryz.results207,go_sem,r0,r1,r2]) rfl ⟨rfl,?_⟩
    rw [HX.out]
    exact HB8.out
end Go.Proofs.YtfdmeojcopkaoaaGreatDoor
namespace Go.Proofs.YtfdmeojcopkaoaaGreatDoor
open Go.ChangeShapes Go.WideShapes Go.ChangeAt Go.RowKit Go Go.Joins
theorem gPow:Tryz.prog.globalNamed "internal/strconv.uint64pow10" = some 1:=by kernel_rfl
theorem tPow:(Tryz.prog.globals[1]?).map (·.type)=some 359:=by kernel_rfl
theorem cells273:Tryz.prog.cellsOf 273=1:=by kernel_rfl
theorem cells359:Tryz.prog.cellsOf 359=20:=by kernel_rfl
theorem cells9k:Tryz.prog.cellsOf 9=1:=by kernel_rfl
theorem pow_tab:(Rows.laid_internal_strconv_uint64pow10:DataW Unit)=Lib.tabData .u64 Lib.pow10Tab:=by rfl
theorem gES:Tryz.prog.globalNamed "strconv.ErrSyntax" = some 5:=by kernel_rfl
theorem tES:(Tryz.prog.globals[5]?).map (·.type)=some 176:=by kernel_rfl
theorem gER:Tryz.prog.globalNamed "strconv.ErrRange" = some 6:=by kernel_rfl
theorem tER:(Tryz.prog.globals[6]?).map (·.type)=some 176:=by kernel_rfl
theorem gWd:Tryz.prog.globalNamed "guideway/lock.words" = some 2:=by kernel_rfl
theorem tWd:(Tryz.prog.globals[2]?).map (·.type)=some 376:=by kernel_rfl
theorem cells376:Tryz.prog.cellsOf 376=7:=by kernel_rfl
theorem cells492:Tryz.prog.cellsOf 492=1:=by kernel_rfl
theorem starZ : "*" ++ "errors.errorString" = "*errors.errorString":=by decide
theorem row490 (u:TypeId) (h:Tryz.prog.typeName? 3 u=some "*errors.errorString"):u=490:=
 typeName_ptr_named (nm:="errors.errorString") (by rw [starZ];kernel_rfl) (by kernel_rfl) (by decide) u (by rw [starZ];exact h)
theorem zkc {W:World} {rest:List (String × DataW Unit)} (h:laidMet Tryz.prog (("guideway/lock.words",Rows.laid_guideway_lock_words) :: rest) W):∀ (k:Nat) (s:ByteArray),ziw[k]?=some s→W.cell? ⟨2,k,none⟩=some (.string s):=by
 obtain ⟨ps,⟨g,t,cs,fuel,p,q,hg,ht,hv,hd,_,_⟩,_⟩:=h
 obtain rfl:=Option.some.inj (gWd.symm.trans hg)
 obtain rfl:=Option.some.inj (tWd.symm.trans ht)
 obtain ⟨xs,m,_,hx,hl,hlen,hel⟩:=DataW.trod_array Tryz.underlying376 hd
 rw [cells376] at hl
 simp only [Prod.mk.injEq] at hx
 have hx1:=hx.1
 unfold Rows.laid_guideway_lock_words at hx1
 simp only [DataW.agg.injEq] at hx1
 rw [cells9k] at hel
 have row:∀ (i:Nat) (s:List UInt8),i<7→(xs.map (·.1))[i]?=some (.lit (.string s))→cs.toList[i]?=some (.string ⟨s.toArray⟩):=by
  intro i s hi hm
  have h1:=hel i hi
  rw [List.getElem?_map] at hm
  cases hy:xs[i]? with
  | none=>rw [hy] at hm;simp at hm
  | some y =>
   rw [hy] at hm h1
   obtain ⟨z,p1⟩:=y
   simp only [Option.map_some,Option.some.injEq] at hm
   subst hm
   rw [Nat.mul_one] at h1
   have hil:i<cs.toList.length:=by omega
   have e:(cs.toList.drop i).take 1=[cs.toList[i]]:=by rw [List.drop_eq_getElem_cons hil];rfl
   rw [e] at h1
   rw [List.getElem?_eq_getElem hil]
   generalize cs.toList[i]=c at h1
   have k0:c=.string ⟨s.toArray⟩:=by
    cases m with
    | zero=>simp [DataW.trod] at h1
    | succ m =>
     cases c <;> simp [DataW.trod,Tryz.underlying9] at h1
     obtain ⟨_,hs,_⟩:=h1
     simp [← hs]
   rw [k0]
 rw [← hx1] at row
 intro k s hk
 rw [World.var?_cell gWd hv k,← Array.getElem?_toList]
 match k,hk with
 | 0,hk=>obtain rfl:=Option.some.inj hk;exact row 0 _ (by decide) rfl
 | 1,hk=>obtain rfl:=Option.some.inj hk;exact row 1 _ (by decide) rfl
 | 2,hk=>obtain rfl:=Option.some.inj hk;exact row 2 _ (by decide) rfl
 | 3,hk=>obtain rfl:=Option.some.inj hk;exact row 3 _ (by decide) rfl
 | 4,hk=>obtain rfl:=Option.some.inj hk;exact row 4 _ (by decide) rfl
 | 5,hk=>obtain rfl:=Option.some.inj hk;exact row 5 _ (by decide) rfl
 | 6,hk=>obtain rfl:=Option.some.inj hk;exact row 6 _ (by decide) rfl
theorem laidC_eq:Rows.centreHousesRow.laid=[("math/bits.deBruijn32tab",Rows.laid_math_bits_deBruijn32tab),("math/bits.deBruijn64tab",Rows.laid_math_bits_deBruijn64tab),("internal/strconv.uint64pow10",Rows.laid_internal_strconv_uint64pow10),("unicode/utf8.acceptRanges",Rows.laid_unicode_utf8_acceptRanges),("strconv.ErrRange",Rows.laid_strconv_ErrRange),("strconv.ErrSyntax",Rows.laid_strconv_ErrSyntax),("guideway/lock.words",Rows.laid_guideway_lock_words),("unicode/utf8.first",Rows.laid_unicode_utf8_first)]:=rfl
theorem ctC {W:World} (h:laidMetH Tryz.prog Rows.centreHousesRow.laid W) (hs:W.ShapedOpen Tryz.prog):CtAt W:=by
 have hp:=laidH_iff.1 h
 rw [laidC_eq] at hp
 have h1:=hp.tail.tail
 have h2:=hp.tail.tail.tail.tail
 have h3:=hp.tail.tail.tail.tail.tail
 have h4:=hp.tail.tail.tail.tail.tail.tail
 rw [pow_tab] at h1
 obtain ⟨a0,s0,hv0,-,-,-⟩:=laid_sentinel h3 gES tES Tryz.underlying176 row490 Tryz.underlying490 Tryz.underlying492 rfl rfl Tryz.underlying9 cells492 cells9k
 obtain ⟨a1,s1,hv1,-,-,-⟩:=laid_sentinel h2 gER tER Tryz.underlying176 row490 Tryz.underlying490 Tryz.underlying492 rfl rfl Tryz.underlying9 cells492 cells9k
 exact ⟨⟨Lib.tabIs_of_head gPow tPow Tryz.underlying359 Tryz.underlying273 cells273 cells359 h1,⟨_,_,by have h0:=World.var?_cell gES hv0 0;simpa using h0⟩,⟨_,_,by have h0:=World.var?_cell gER hv1 0;simpa using h0⟩,Tryz.laysM145.s1_3 W hs⟩,zkc h4⟩
end Go.Proofs.YtfdmeojcopkaoaaGreatDoor
