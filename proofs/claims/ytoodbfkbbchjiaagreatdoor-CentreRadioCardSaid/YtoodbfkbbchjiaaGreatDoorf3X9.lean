import Derived.Test.YtoodbfkbbchjiaaGreatDoorf3F2
import Derived.Test.YtoodbfkbbchjiaaGreatDoorf3M7
import Derived.Test.YtoodbfkbbchjiaaGreatDoorf3X4
import Derived.Test.YtoodbfkbbchjiaaGreatDoorf3M4
import Derived.Test.YtoodbfkbbchjiaaGreatDoorf3S3
set_option maxRecDepth 100000
set_option maxHeartbeats 16000000
namespace Go.Proofs.YtoodbfkbbchjiaaGreatDoor
open Go.RowKit
structure LtV where
 s:SlV
 chain:List Int
 under:Int
def zg0 (x:LtV):List Value:=[x.s.v,.int .i64 x.under]
def zbs (l:List LtV):List Value:=l.flatMap zg0
structure LsV where
 sw:SlV
 sws:List Int
 tr:SlV
 trs:List LtV
 ctr:Int
def zbf (x:LsV):List Value:=[x.sw.v,x.tr.v,.int .i64 x.ctr]
theorem ltCells_len (l:List LtV):(zbs l).length=l.length * 2:=zef (vals:=zg0) (k:=2) (fun _=>rfl) l
theorem ltVals_one (x:LtV):∀ u∈zg0 x,u.oneCell'=true:=by
 intro u hu
 simp [zg0] at hu
 rcases hu with rfl | rfl <;> rfl
structure LsOw (w:World) (x:Nat) (q:LsV):Prop where
 sws:w.ownsRow x 3 1 q.sw.v q.sw.n (zai q.sws)
 trs:w.ownsRow x 224 2 q.tr.v q.tr.n (zbs q.trs)
 t:∀ t∈q.trs,t.chain.length=t.s.n∧w.ownsRow x 3 1 t.s.v t.s.n (zai t.chain)
 len:q.sws.length=q.sw.n∧q.trs.length=q.tr.n
structure LsAt (w:World) (B:Nat) (q:LsV):Prop where
 sws:zcs w B q.sw q.sws.length (zai q.sws)
 trs:zcs w B q.tr q.trs.length (zbs q.trs)
 t:∀ t∈q.trs,zcs w B t.s t.chain.length (zai t.chain)
 cap:q.sw.n≤q.sw.c∧q.tr.n≤q.tr.c∧∀ t∈q.trs,t.s.n≤t.s.c
theorem LsOw.keep {w w':World} {x:Nat} {q:LsV} (h:LsOw w x q) (hb:Below w.heap.size w w'):LsOw w' x q:=
 ⟨zaf h.sws hb,zaf h.trs hb,fun t ht=>⟨(h.t t ht).1,zaf (h.t t ht).2 hb⟩,h.len⟩
theorem LsOw.base {w:World} {x x':Nat} {q:LsV} (h:LsOw w x q) (hx:x'≤x):LsOw w x' q:=
 ⟨za0 h.sws hx,za0 h.trs hx,fun t ht=>⟨(h.t t ht).1,za0 (h.t t ht).2 hx⟩,h.len⟩
theorem LsOw.setRow {w:World} {x g:Nat} {q:LsV} (h:LsOw w x q) (cs:Array Value) (hg:g<x):LsOw (w.setRow g cs) x q:=
 ⟨zaq h.sws cs (zbh h.sws hg),zaq h.trs cs (zbh h.trs hg),fun t ht=>⟨(h.t t ht).1,zaq (h.t t ht).2 cs (zbh (h.t t ht).2 hg)⟩,h.len⟩
theorem LsOw.other {w w':World} {x:Nat} {q:LsV} (h:LsOw w x q) (hk:∀ (k t:Nat) (cur:Array Value),(t=3∨t=224)→w.heap[k]?=some (.cells cur t (0,0))→w'.heap[k]?=w.heap[k]?):LsOw w' x q:=
 ⟨zbc h.sws fun k cur h1=>hk k 3 cur (.inl rfl) h1,zbc h.trs fun k cur h1=>hk k 224 cur (.inr rfl) h1,fun t ht=>⟨(h.t t ht).1,zbc (h.t t ht).2 fun k cur h1=>hk k 3 cur (.inl rfl) h1⟩,h.len⟩
theorem LsOw.at {w:World} {x:Nat} {q:LsV} (h:LsOw w x q):LsAt w w.heap.size q:=
 ⟨⟨h.len.1,za7 h.sws⟩,⟨h.len.2,za7 h.trs⟩,fun t ht=>⟨(h.t t ht).1,za7 (h.t t ht).2⟩,zbn h.sws,zbn h.trs,fun t ht=>zbn (h.t t ht).2⟩
theorem LsAt.below {w w':World} {B:Nat} {q:LsV} (h:LsAt w B q) (hb:Below B w w'):LsAt w' B q:=
 ⟨h.sws.below hb,h.trs.below hb,fun t ht=>(h.t t ht).below hb,h.cap⟩
theorem LsAt.mono {w:World} {B B':Nat} {q:LsV} (h:LsAt w B q) (hB:B≤B'):LsAt w B' q:=
 ⟨h.sws.mono hB,h.trs.mono hB,fun t ht=>(h.t t ht).mono hB,h.cap⟩
theorem zgx {w:World} {B e size n:Nat} {C:Array Value} (hB:B≤w.heap.size) (hC:C.size=n * size) (hn:n≤maxLen):(w.alloc (.cells C e)).ownsRow B e size (.slice (some ⟨w.heap.size,0,none⟩) n n) n C.toList:=
 ⟨by simp [hC],.inr ⟨w.heap.size,n,C,rfl,hB,by rw [zae,if_pos rfl],Nat.le_refl _,hn,hC,List.take_of_length_le (by rw [Array.length_toList,hC];exact Nat.le_refl _)⟩⟩
theorem made_ints (n:Nat):(madeCells #[Value.int .i64 0] n).toList=zai (List.replicate n 0):=by
 apply List.ext_getElem?
 intro i
 by_cases h:i<n
 · simp [madeCells,zai,h,Nat.mod_one]
 · simp [madeCells,zai,h]
theorem made_lts (n:Nat):(madeCells #[Value.slice none 0 0,Value.int .i64 0] (n * 2)).toList=zbs (List.replicate n ⟨⟨none,0,0⟩,[],0⟩):=by
 induction n with
 | zero=>simp [madeCells,zbs]
 | succ n ih =>
  have e:zbs (List.replicate (n+1) ⟨⟨none,0,0⟩,[],0⟩)=zbs (List.replicate n ⟨⟨none,0,0⟩,[],0⟩)++[.slice none 0 0,.int .i64 0]:=by
   rw [List.replicate_succ',zbs,List.flatMap_append]
   rfl
  rw [e,← ih]
  have e2:(n+1) * 2=n * 2+1+1:=by omega
  simp only [madeCells,Array.toList_map,Array.toList_range,e2,List.range_succ,List.map_append,List.append_assoc]
  congr 1
  have m0:n * 2 % 2=0:=by omega
  have m1:(n * 2+1) % 2=1:=by omega
  simp [m0,m1]
theorem zl0:(Tryz.prog.info? 224).map (fun i=>(i.zero,i.size,i.bytes))=some (some (.agg #[.slice none 0 0,.int .i64 0]),2,32):=by kernel_rfl
def LbPost (w:World) (nw nt:Nat) (e:Ending) (w':World):Prop:=
 ∃ q:LsV,q.sws=List.replicate nw 0∧q.trs=List.replicate nt ⟨⟨none,0,0⟩,[],0⟩∧q.ctr=0∧e=.returned (.agg (zbf q).toArray)∧LsOw w' w.heap.size q∧Below w.heap.size w w'
def lbFr (bw:Nat) (As At Aw Ar:Option Addr) (ns cs nt ct nw cw nr cr:Nat) (e6 e10 e11:Value):Go.Act:=⟨#[.agg #[.slice As ns cs,.slice At nt ct,.slice Aw nw cw,.slice Ar nr cr],.pointer (some ⟨bw,0,none⟩),.pointer (some ⟨(bw+1),0,none⟩),.pointer (some ⟨bw,2,none⟩),.slice Aw nw cw,.int .i64 nw,e6,.pointer (some ⟨bw,1,none⟩),.slice At nt ct,.int .i64 nt,e10,e11],[]⟩
def LbI (bw:Nat) (As At Aw Ar:Option Addr) (ns cs nt ct nw cw nr cr:Nat) (w0:World) (L:Nat→Bool) (a:Go.Act) (w:World):Prop:=
 ∃ e6 e10 e11,a=lbFr bw As At Aw Ar ns cs nt ct nw cw nr cr e6 e10 e11∧Below w0.heap.size w0 w∧(L 3=true→OwAt w w0.heap.size 3 1 nw (zai (List.replicate nw 0)) e6)∧(L 7=true→OwAt w w0.heap.size 224 2 nt (zbs (List.replicate nt ⟨⟨none,0,0⟩,[],0⟩)) e10) ∧
  (L 8=true→L 3=true∧L 7=true∧e11=.agg #[e6,e10,.int .i64 0])
theorem lkbegin_any (w:World) (As At Aw Ar:Option Addr) (ns cs nt ct nw cw nr cr:Nat) (hn:nt≤1000) (hm:nw≤1000) :
 Calls Tryz.prog 154 #[.agg #[.slice As ns cs,.slice At nt ct,.slice Aw nw cw,.slice Ar nr cr]] w (LbPost w nw nt):=by
 have k0:((w.alloc (.cells #[.slice As ns cs,.slice At nt ct,.slice Aw nw cw,.slice Ar nr cr] 26)).alloc (.cells #[.slice none 0 0,.slice none 0 0,.int .i64 0] 103)).heap[w.heap.size]?=some (.cells #[.slice As ns cs,.slice At nt ct,.slice Aw nw cw,.slice Ar nr cr] 26 (0,0)):=by
  rw [zae,if_neg (by simp),zae,if_pos rfl]
 have k1:((w.alloc (.cells #[.slice As ns cs,.slice At nt ct,.slice Aw nw cw,.slice Ar nr cr] 26)).alloc (.cells #[.slice none 0 0,.slice none 0 0,.int .i64 0] 103)).heap[w.heap.size+1]?=some (.cells #[.slice none 0 0,.slice none 0 0,.int .i64 0] 103 (0,0)):=by
  rw [zae,if_pos (by simp)]
 have hb0:=hB2 w (.cells #[.slice As ns cs,.slice At nt ct,.slice Aw nw cw,.slice Ar nr cr] 26) (.cells #[.slice none 0 0,.slice none 0 0,.int .i64 0] 103)
 have hs:=hS2 w (.cells #[.slice As ns cs,.slice At nt ct,.slice Aw nw cw,.slice Ar nr cr] 26) (.cells #[.slice none 0 0,.slice none 0 0,.int .i64 0] 103)
 have HB:=Lib.hid hb0
 clear hb0
 have HM1:=Lib.hid (run_make_row' (P:=Tryz.prog) 32 3 (.int .i64 0) 8 Tryz.underlying32 zh8 rfl .i64 .i64 nw (by omega) (by omega))
 obtain ⟨i1,hi1,hy0,hy1,hy2⟩:=info_parts zl0
 have hm2:∀ w,Sem.run Tryz.prog (Instr.makeSlice 101 (.int .i64 (nt:Int)) (.int .i64 (nt:Int))) w=.ok (.slice (some ⟨w.heap.size,0,none⟩) nt nt) (w.alloc (.cells (madeCells #[.slice none 0 0,.int .i64 0] (nt * 2)) 224)):=fun w=>by
  have h9:=run_make (P:=Tryz.prog) w 101 224 i1 _ Tryz.underlying101 hi1 hy0 .i64 .i64 (nt:Int) (nt:Int) (by omega) (Int.le_refl _) (by rw [hy2];omega) (by omega)
  rw [hy1] at h9
  exact h9
 have HM2:=Lib.hid hm2
 clear hm2 hi1 hy0 hy1 hy2
 go_enter Tryz.func154,Tryz.ntmps154
 go_upto_region 1 with (fail)
 generalize ((w.alloc (.cells #[.slice As ns cs,.slice At nt ct,.slice Aw nw cw,.slice Ar nr cr] 26)).alloc (.cells #[.slice none 0 0,.slice none 0 0,.int .i64 0] 103))=w0 at *
 generalize hbw:w.heap.size=bw at *
 have HBW:=Lib.hid hbw
 clear hbw
 obtain ⟨d0,d1,d2,d3⟩:_∧_∧_∧_:=zbo k0
 have x1:=fun y:Xt w0=>y.cell d1
 have x2:=fun y:Xt w0=>y.cell d2
 refine zak [9] (fun w'=>∃ y:Xt w0,w'=y.1) (by kernel_rfl) ⟨⟨w0.drew,(Below.refl _ _).drew⟩,rfl⟩ ?_
 refine zao [0,1,2,4,5,6] 4 rfl (by kernel_rfl) ?_
 simp only [zad,zac,zaa,zX1,zX2,zX3]
 repeat (go_big_quiet_step (fail))
 refine wpQuiet_nil ?_
 have hbd:Below w0.heap.size w0 w0.drew:=(Below.refl _ _).drew
 show wpE _ _ _ _ _ _ _ _ _ w0.drew
 generalize w0.drew=wd at *
 clear x1 x2
 refine zdt (g:=1) [3,7,8] (LbI bw As At Aw Ar ns cs nt ct nw cw nr cr w0) rfl (by kernel_rfl) ?_ ?_ ?_
 · exact ⟨undef,undef,undef,rfl,hbd,fun h=>absurd (show false=true from h) (by decide),fun h=>absurd (show false=true from h) (by decide),fun h=>absurd (show false=true from h) (by decide)⟩
 · intro a w8 hS8 hI
   obtain ⟨e6,e10,e11,rfl,hb8,hF6,hF10,hF11⟩:=hI
   obtain ⟨A1,c1,rfl,hc1,hf1⟩:=hF6 (by kernel_rfl)
   obtain ⟨A2,c2,rfl,hc2,hf2⟩:=hF10 (by kernel_rfl)
   obtain ⟨_,_,rfl⟩:=hF11 (by kernel_rfl)
   refine zau rfl (by kernel_rfl) ?_
   simp only [zad,zac,zaa,zX1,zX2,zX3]
   unfold lbFr
   have j1:=(hb8.block (bw+1) (by omega)).trans k1
   refine wpList_store_row rfl 103 _ _ rfl (bw+1) #[.slice A1 nw c1,.slice A2 nt c2,.int .i64 0] rfl rfl 103 _ j1 (by kernel_rfl) rfl (by kernel_rfl) ?_
   go_wp2
   refine zab ?_
   have HO1:=Lib.hid hf1
   have HO2:=Lib.hid hf2
   have HB8:=Lib.hid hb8
   clear hf1 hf2 hb8 hS8 hbd d0 d1 d2 d3 k0 k1
   go_wp2
   refine bodyPost_ret (v:=.agg #[.slice A1 nw c1,.slice A2 nt c2,.int .i64 0]) (results_cell_row rfl _ _ (bw+1) 103 _ (0,0) _ rfl (setRow_heap w8 (bw+1) _ _ 103 (0,0) j1) Tryz.underlying103 rfl (by kernel_rfl)) rfl ⟨⟨⟨A1,nw,c1⟩,List.replicate nw 0,⟨A2,nt,c2⟩,List.replicate nt ⟨⟨none,0,0⟩,[],0⟩,0⟩,rfl,rfl,rfl,rfl,?_,?_⟩
   · rw [HBW.out]
     refine LsOw.base (LsOw.setRow ⟨HO1.out,HO2.out,fun t ht=>?_,by simp,by simp⟩ _ (by omega)) (show bw≤w0.heap.size by omega)
     rw [List.eq_of_mem_replicate ht]
     exact ⟨rfl,⟨rfl,.inl ⟨rfl,rfl⟩⟩⟩
   · rw [HBW.out]
     exact below_setRow (HB.out.trans (HB8.out.mono (by omega))) (by omega) _
 · intro i hi L a w8 hL hd hS8 hI
   obtain ⟨e6,e10,e11,rfl,hb8,hF6,hF10,hF11⟩:=hI
   simp only [List.mem_cons,List.not_mem_nil,or_false] at hi
   rcases hi with rfl | rfl | rfl
   · unfold zar
     simp only [zad,zac,zaa,zX1,zX2,zX3]
     unfold lbFr
     have hmk:=HM1.out
     go_wp2
     have hbn:=hB1 w8 (.cells (madeCells #[.int .i64 0] nw) 3)
     have hbx:=hb8.trans (hbn.mono hb8.size)
     have ho:(w8.alloc (.cells (madeCells #[.int .i64 0] nw) 3)).ownsRow w0.heap.size 3 1 (.slice (some ⟨w8.heap.size,0,none⟩) nw nw) nw (zai (List.replicate nw 0)):=by
      rw [← made_ints]
      exact zgx hb8.size (by simp [madeCells]) (by simp only [maxLen];omega)
     exact zab ⟨⟨⟨_,hbx⟩,rfl⟩,⟨_,e10,e11,rfl,hbx,fun _=>⟨_,_,rfl,Nat.le_refl _,ho⟩,fun h=>(hF10 h).keep hbn,fun h=>absurd (hF11 h).1 (by rw [hL];decide)⟩⟩
   · unfold zar
     simp only [zad,zac,zaa,zX1,zX2,zX3]
     unfold lbFr
     have hmk:=HM2.out
     go_wp2
     have hbn:=hB1 w8 (.cells (madeCells #[.slice none 0 0,.int .i64 0] (nt * 2)) 224)
     have hbx:=hb8.trans (hbn.mono hb8.size)
     have ho:(w8.alloc (.cells (madeCells #[.slice none 0 0,.int .i64 0] (nt * 2)) 224)).ownsRow w0.heap.size 224 2 (.slice (some ⟨w8.heap.size,0,none⟩) nt nt) nt (zbs (List.replicate nt ⟨⟨none,0,0⟩,[],0⟩)):=by
      rw [← made_lts]
      exact zgx hb8.size (by simp [madeCells]) (by simp only [maxLen];omega)
     exact zab ⟨⟨⟨_,hbx⟩,rfl⟩,⟨e6,_,e11,rfl,hbx,fun h=>(hF6 h).keep hbn,fun _=>⟨_,_,rfl,Nat.le_refl _,ho⟩,fun h=>absurd (hF11 h).2.1 (by rw [hL];decide)⟩⟩
   · obtain ⟨A1,c1,rfl,hc1,hf1⟩:=hF6 (hd 3 (by kernel_rfl))
     obtain ⟨A2,c2,rfl,hc2,hf2⟩:=hF10 (hd 7 (by kernel_rfl))
     unfold zar
     simp only [zad,zac,zaa,zX1,zX2,zX3]
     unfold lbFr
     go_wp2
     exact zab ⟨⟨⟨_,hb8⟩,rfl⟩,⟨_,_,_,rfl,hb8,hF6,hF10,fun _=>⟨hd 3 (by kernel_rfl),hd 7 (by kernel_rfl),rfl⟩⟩⟩
theorem zgg (w:World) (B:Nat) (p:PlantV) (h:PlantAt w B p) (hS:PlantS p) (hB:B≤w.heap.size):Calls Tryz.prog 153 #[.agg (zap p).toArray] w (zay w (zb7 p)):=by
 have hb0:=hB1 w (.cells (zap p).toArray 26)
 have RT:=zjc (w.alloc (.cells (zap p).toArray 26)) B p (h.keep hb0) hS (Nat.le_trans hB hb0.size)
 have k0:=hA1 w (.cells (zap p).toArray 26)
 generalize zb7 p=V at *
 have HB:=Lib.hid hb0
 have hs0:=hb0.size
 clear hb0 h hS hB
 go_enter Tryz.func153,Tryz.ntmps153
 go_upto_region 1 with (fail)
 generalize w.alloc (.cells (zap p).toArray 26)=w0 at *
 generalize hbw:w.heap.size=bw at *
 have HBW:=Lib.hid hbw
 clear hbw
 go_wp2_with (with_reducible refine zaw 26 ?_)
 unfold Stp
 refine wpList_load_row rfl 26 _ rfl bw rfl 26 _ (0,0) _ k0 Tryz.underlying26 rfl (by kernel_rfl) ?_
 go_wp2_with (go_at_call 76;refine RT.mono ?_;rintro e wa ⟨ma,mb,rfl,hb1⟩)
 go_ret
 exact ⟨rfl,by rw [HBW.out];exact HB.out.trans ((hb1.mono hs0).alloc (Nat.le_trans hs0 hb1.size) _)⟩
def LbgPost (w:World) (nw nt:Nat) (e:Ending) (w':World):Prop:=
 ∃ q:LsV,q.sws=List.replicate nw 0∧q.trs=List.replicate nt ⟨⟨none,0,0⟩,[],0⟩∧q.ctr=0∧e=.returned (.tuple #[.agg (zbf q).toArray,.int .i64 0])∧LsOw w' w.heap.size q∧Below w.heap.size w w'
theorem lkBegin_any (w:World) (B:Nat) (p:PlantV) (h:PlantAt w B p) (hS:PlantS p) (h0:zb7 p=0) (hB:B≤w.heap.size):Calls Tryz.prog 88 #[.agg (zap p).toArray] w (LbgPost w p.ws.n p.ts.n):=by
 have k0:((w.alloc (.cells (zap p).toArray 26)).alloc (.cells #[.slice none 0 0,.slice none 0 0,.int .i64 0] 103)).heap[w.heap.size]?=some (.cells (zap p).toArray 26 (0,0)):=by
  rw [zae,if_neg (by simp),zae,if_pos rfl]
 have k1:((w.alloc (.cells (zap p).toArray 26)).alloc (.cells #[.slice none 0 0,.slice none 0 0,.int .i64 0] 103)).heap[w.heap.size+1]?=some (.cells #[.slice none 0 0,.slice none 0 0,.int .i64 0] 103 (0,0)):=by
  rw [zae,if_pos (by simp)]
 have hb0:=hB2 w (.cells (zap p).toArray 26) (.cells #[.slice none 0 0,.slice none 0 0,.int .i64 0] 103)
 have hs:=hS2 w (.cells (zap p).toArray 26) (.cells #[.slice none 0 0,.slice none 0 0,.int .i64 0] 103)
 have RT:=zgg ((w.alloc (.cells (zap p).toArray 26)).alloc (.cells #[.slice none 0 0,.slice none 0 0,.int .i64 0] 103)) B p (h.keep hb0) hS (Nat.le_trans hB hb0.size)
 rw [h0] at RT
 have hn:p.ts.n≤1000:=by rw [← h.trains.1];exact hS.trains.1
 have hm:p.ws.n≤1000:=by rw [← h.sws.1];exact hS.sws.1
 have HB:=Lib.hid hb0
 clear hb0 h hS hB h0
 go_enter Tryz.func88,Tryz.ntmps88
 go_upto_region 1 with (fail)
 generalize (w.alloc (.cells (zap p).toArray 26)).alloc (.cells #[.slice none 0 0,.slice none 0 0,.int .i64 0] 103)=w0 at *
 generalize hbw:w.heap.size=bw at *
 have HBW:=Lib.hid hbw
 clear hbw
 go_wp2_with (with_reducible refine zaw 26 ?_)
 unfold Stp
 refine wpList_load_row rfl 26 _ rfl bw rfl 26 _ (0,0) _ k0 Tryz.underlying26 rfl (by kernel_rfl) ?_
 go_upto_region 2 with (go_at_call 153;refine RT.mono ?_;rintro e wa ⟨rfl,hb1⟩)
 replace k0:=blk hb1 k0
 replace k1:=blk hb1 k1
 replace HB:=Lib.hid (HB.out.trans (hb1.mono (by omega)))
 replace hs:=Nat.le_trans hs hb1.size
 clear hb1 RT
 go_wp2_with (with_reducible refine zaw 26 ?_)
 unfold Stp
 refine wpList_load_row rfl 26 _ rfl bw rfl 26 _ (0,0) _ k0 Tryz.underlying26 rfl (by kernel_rfl) ?_
 have RB:=lkbegin_any wa p.ss.A p.ts.A p.ws.A p.rs.A p.ss.n p.ss.c p.ts.n p.ts.c p.ws.n p.ws.c p.rs.n p.rs.c hn hm
 go_wp2_with (first | (go_at_call 154;refine RB.mono ?_;rintro e wb ⟨q,hq1,hq2,hq3,rfl,hO,hb1⟩) | (with_reducible refine zas 103 ?_))
 unfold Stp
 replace k1:=blk hb1 k1
 replace HB:=Lib.hid (HB.out.trans (hb1.mono (by omega)))
 refine wpList_store_row rfl 103 _ _ rfl (bw+1) (zbf q).toArray rfl rfl 103 _ k1 (by kernel_rfl) rfl (by kernel_rfl) ?_
 obtain ⟨r0,r1,r2⟩:_∧_∧_:=zba (setRow_heap wb (bw+1) _ #[.slice q.sw.A q.sw.n q.sw.c,.slice q.tr.A q.tr.n q.tr.c,.int .i64 q.ctr] 103 (0,0) k1)
 have HQ:=Lib.hid (And.intro hq1 (And.intro hq2 hq3))
 have HO:=Lib.hid hO
 clear hq1 hq2 hq3 hO hb1 RB
 change wpList _ _ _ _ _ (wb.setRow (bw+1) #[.slice q.sw.A q.sw.n q.sw.c,.slice q.tr.A q.tr.n q.tr.c,.int .i64 q.ctr])
 go_wp2
 refine bodyPost_ret (v:=.tuple #[.agg #[.slice q.sw.A q.sw.n q.sw.c,.slice q.tr.A q.tr.n q.tr.c,.int .i64 q.ctr],.int .i64 0]) (by simp [results,Tryz.results88,go_sem,r0,r1,r2]) rfl ⟨q,HQ.out.1,HQ.out.2.1,HQ.out.2.2,rfl,?_,?_⟩
 · rw [HBW.out]
   exact (HO.out.setRow _ (by omega)).base (by omega)
 · rw [HBW.out]
   exact below_setRow HB.out (by omega) _
theorem hasB_ok (k:Nat) (hk:k<3) (w:World):Calls Tryz.prog 263 #[.int .i64 k] w fun e w'=>e=.returned (.bool true)∧w=w':=by
 have:k=0∨k=1∨k=2:=by omega
 rcases this with rfl | rfl | rfl
 all_goals
  go_enter Tryz.func263,Tryz.ntmps263
  go_wp2
  go_ret
  exact ⟨rfl,rfl⟩
def NumsOf (ws:List ByteArray) (ns:List Int):Prop:=ns.length=ws.length∧∀ (k:Nat) (s:ByteArray),ws[k]?=some s→s.size≤1000000∧∃ n,ns[k]?=some n∧numL s.data.toList 4=some n∧0≤n
def NumsPost (w:World) (ns:List Int) (e:Ending) (w':World):Prop:=
 ∃ A c,e=.returned (.tuple #[.slice A ns.length c,.bool true])∧w'.ownsRow w.heap.size 3 1 (.slice A ns.length c) ns.length (zai ns)∧Below w.heap.size w w'
def NumsRel (w:World) (ns:List Int) (u4 u11:Value) (wr:World):Prop:=
 ∃ (k:Nat),k≤ns.length∧u11=.int .i64 k∧wr.ownsRow w.heap.size 3 1 u4 k (zai (ns.take k))∧Below w.heap.size w wr
theorem zg4 {ns:List Int} {k:Nat} {n:Int} (h:ns[k]?=some n):zai (ns.take (k+1))=zai (ns.take k)++[.int .i64 n]:=by
 rw [List.take_add_one,h]
 simp [zai]
theorem numbers_ok (A:Option Addr) (c:Nat) (ws:List ByteArray) (ns:List Int) (hn:NumsOf ws ns) (hl:ws.length≤1000) (w:World) (ht:TxtAt w) (hr:Rd w w.heap.size A (strCells ws)) :
 Calls Tryz.prog 262 #[.slice A ws.length c] w (NumsPost w ns):=by
 obtain ⟨i1,hi1,hy0,hy1,hy2⟩:=info_parts zh8
 have hlen:=hn.1
 rw [← hlen] at hl ⊢
 obtain ⟨m,hm⟩:∃ m,ns.length=m:=⟨_,rfl⟩
 rw [hm] at hl hlen ⊢
 have HM:=Lib.hid hm
 have HN:=Lib.hid hn.2
 have HLEN:=Lib.hid hlen
 have HT:=Lib.hid ht
 have HRD:=Lib.hid hr
 clear hn hm hlen ht hr
 go_enter Tryz.func262,Tryz.ntmps262
 go_wp2
 go_loopw [4,11] (fun u4 u11 wr=>NumsRel w ns u4 u11 wr) (fun _ u11 _=>m - (intOf u11).toNat)
 case atStart=>exact ⟨0,Nat.zero_le _,rfl,⟨rfl,.inl ⟨rfl,rfl⟩⟩,Below.refl _ _⟩
 case round =>
  obtain ⟨k,hk,rfl,hown,hb⟩:=hrel
  rw [HM.out] at hk
  have HOWN:=Lib.hid hown
  obtain ⟨Au,cu,rfl⟩:=zcn hown
  have HB:=Lib.hid hb
  have hsz:=hb.size
  by_cases hlt:k<m
  · obtain ⟨s,hs⟩:∃ s,ws[k]?=some s:=⟨_,List.getElem?_eq_getElem (by rw [← HLEN.out];exact hlt)⟩
    obtain ⟨hss,n,hn,hn2,hn0⟩:=HN.out k s hs
    obtain ⟨b,off,rfl,hbB,hc⟩:=(HRD.out.keep hb).at_ (k:=k) (u:=.string s) (by simp only [strCells,List.getElem?_map,hs,Option.map_some])
    have C:=number313_ok s hss n hn2 hn0 wr (HT.out.below hb)
    have HV:=Lib.hid (zg4 hn)
    clear hs hss hn hn2 hn0 hb hown HRD HLEN hk
    go_upto_region 5 with (fail)
    go_upto_region 6 with (go_at_call 319;refine C.mono ?_;rintro e w1 ⟨rfl,hb1⟩)
    have hown1:=zaf HOWN.out hb1
    have hb2:=HB.out.trans (hb1.mono hsz)
    have hsz2:=Nat.le_trans hsz hb1.size
    clear HB HOWN hb1 C hc
    go_upto_region 8 with (fail)
    go_wp2_with (at_builtin;refine stp ?_)
    unfold Stp
    refine wpList_append_lies _ rfl _ _ 32 rfl w.heap.size 3 i1 _ 1 8 Tryz.underlying32 hi1 hy0 hy1 hy2 rfl (by omega) (.slice Au k cu) k _ rfl (hown1.alloc _) ⟨w1.heap.size,0,none⟩ 1 1 [.int .i64 n] rfl rfl (zez (by simp)) (by simp [Value.oneCell']) (by omega) (by simp only [maxLen];omega) (by omega) (by simp;omega) _ rfl ?_
    intro gg cap w6 hown6 hgrow6 hat6 hlt6
    have HB7:=Lib.hid ((hb2.alloc hsz2 _).grown hgrow6 (by simp;omega) (fun j hj=>(zbi hown1 hj).1))
    have HO6:Hid (w6.ownsRow w.heap.size 3 1 (.slice (some ⟨gg,0,none⟩) (k+1) cap) (k+1) (zai (ns.take (k+1)))):=by
     rw [Hid,HV.out]
     exact hown6
    clear hown6 hgrow6 hat6 hlt6 hown1 hb2 HV
    go_wp2
    go_roundw
    case rel=>exact ⟨k+1,by rw [HM.out];omega,by go_num,HO6.out,HB7.out⟩
    case measure=>simp [intOf];omega
  · obtain rfl:k=m:=by omega
    have e:ns.take k=ns:=List.take_of_length_le (by rw [HM.out];exact Nat.le_refl _)
    rw [e] at hown
    have HO:=Lib.hid hown
    clear hown HOWN hb
    go_wp2
    go_ret2
    exact ⟨Au,cu,by rw [HM.out];rfl,by rw [HM.out];exact HO.out,HB.out⟩
theorem info378s:(Tryz.prog.info? 378).map (fun i=>(i.zero,i.size,i.bytes))=some (some (.pointer none),1,8):=by kernel_rfl
def SplitPost (w:World) (l:List ByteArray) (n:Nat) (e:Ending) (w':World):Prop:=
 ∃ bb,e=.returned (.slice (some ⟨bb,0,none⟩) n n)∧bb<w'.heap.size∧Rd w' w'.heap.size (some ⟨bb,0,none⟩) (strCells l)∧Below w.heap.size w w'
theorem zl9 (s:ByteArray) (hs:s.size≤1000000) (w:World) (ht:TxtAt w):Calls Tryz.prog 66 #[.string s,.string ⟨#[32]⟩] w (SplitPost w (zli s) (zli s).length):=by
 obtain ⟨m,hm⟩:=ht.mx
 refine (Tryz.strings_Split s ⟨#[32]⟩ m w (by omega) hm (by decide)).mono fun e w' ⟨he,hw⟩=>⟨w.heap.size,?_,?_,?_,?_⟩
 · rw [he,splitB_len]
 · rw [hw];simp
 · rw [hw,zkk]
   exact zbq (t:=9) (fr:=(0,0)) (cs:=((zli s).map Value.string).toArray) (by rw [zae,if_pos rfl])
 · rw [hw]
   exact (Below.refl _ _).alloc (Nat.le_refl _) _
theorem zby {w:World} {B b off k:Nat} {u:Value} {xs:List Value} (h:Rd w B (some ⟨b,off,none⟩) xs) (hk:xs[k]?=some u):w.cell? ⟨b,off+k,none⟩=some u:=by
 obtain ⟨b',off',hA,_,hc⟩:=h k u hk
 injection hA with hA
 injection hA with h1 h2
 subst h1 h2
 exact hc
theorem zma {w:World} {B b off:Nat} {u:Value} {us:List Value} (h:Rd w B (some ⟨b,off,none⟩) (u :: us)):Rd w B (some ⟨b,off+1,none⟩) us:=fun k v hk=>by
 obtain ⟨b',off',hA,hB,hc⟩:=h (k+1) v (by simpa using hk)
 injection hA with hA
 injection hA with h1 h2
 subst h1 h2
 exact ⟨b,off+1,rfl,hB,by rw [show off+1+k=off+(k+1) by omega];exact hc⟩
def zjo:List ByteArray:=[ba [112,108,97,99,101],ba [114,101,113,117,101,115,116],ba [116,117,114,110],ba [101,110,116,101,114],ba [108,101,97,118,101],ba [103,105,118,101],ba [116,97,107,101]]
structure CtAt (w:World):Prop where
 txt:TxtAt w
 words:∀ (k:Nat) (s:ByteArray),zjo[k]?=some s→w.cell? ⟨0,k,none⟩=some (.string s)
theorem CtAt.below {w w':World} (h:CtAt w) (hb:Below w.heap.size w w'):CtAt w':=⟨h.txt.below hb,fun k s hk=>zat hb (h.words k s hk)⟩
def EvPost (w:World) (k:Nat) (a b:Int) (e:Ending) (w':World):Prop:=e=.returned (.tuple #[.agg #[.int .i64 k,.int .i64 a,.int .i64 b],.int .i64 0])∧Below w.heap.size w w'
theorem zkh (w:World) (hw:CtAt w) (wd:ByteArray) (k:Nat) (hk:Lib.idxOfS zjo wd=(k:Int)):Calls Tryz.prog 75 #[.slice (some ⟨0,0,none⟩) 7 7,.string wd] w fun e w'=>e=.returned (.int .i64 k)∧w=w':=
 (Tryz.slices_Index_string 0 0 7 7 zjo wd w (by decide) (by decide) (fun j hj=>by
  rw [Nat.zero_add]
  refine hw.words j _ ?_
  rw [List.getD_eq_getElem?_getD,List.getElem?_eq_getElem hj]
  rfl)).mono fun _ _ ⟨he,hq⟩=>⟨by rw [he];exact congrArg (fun z=>Ending.returned (.int .i64 z)) hk,hq.symm⟩
def EvRel (w6:World) (y1 gg bn on k:Nat) (a b:Int) (u:Value) (wr:World):Prop:=
 ∃ (i:Nat) (va vb:Int),u=.int .i64 i∧wr.heap[y1]?=some (.cells #[.int .i64 k,.int .i64 va,.int .i64 vb] 295 (0,0))∧wr.cell? ⟨gg,0,none⟩=some (.pointer (some ⟨y1,1,none⟩))∧wr.cell? ⟨gg,1,none⟩=some (.pointer (some ⟨y1,2,none⟩)) ∧
  wr.cell? ⟨bn,on,none⟩=some (.int .i64 a)∧wr.cell? ⟨bn,on+1,none⟩=some (.int .i64 b)∧Below y1 w6 wr∧(i=0∧va=0∧vb=0∨i=1∧va=a∧vb=0∨i=2∧va=a∧vb=b)
theorem EvRel.set {w6 wr:World} {y1 gg bn on i:Nat} {a b:Int} {v:Value} (hg:y1+1≤gg) (hn:bn<y1) (h0:wr.cell? ⟨gg,0,none⟩=some (.pointer (some ⟨y1,1,none⟩))) (h1:wr.cell? ⟨gg,1,none⟩=some (.pointer (some ⟨y1,2,none⟩)))
 (h2:wr.cell? ⟨bn,on,none⟩=some (.int .i64 a)) (h3:wr.cell? ⟨bn,on+1,none⟩=some (.int .i64 b)) (hb:Below y1 w6 wr) :
 (wr.setCell ⟨y1,i,none⟩ v).cell? ⟨gg,0,none⟩=some (.pointer (some ⟨y1,1,none⟩))∧(wr.setCell ⟨y1,i,none⟩ v).cell? ⟨gg,1,none⟩=some (.pointer (some ⟨y1,2,none⟩)) ∧
 (wr.setCell ⟨y1,i,none⟩ v).cell? ⟨bn,on,none⟩=some (.int .i64 a)∧(wr.setCell ⟨y1,i,none⟩ v).cell? ⟨bn,on+1,none⟩=some (.int .i64 b)∧Below y1 w6 (wr.setCell ⟨y1,i,none⟩ v):=by
 refine ⟨?_,?_,?_,?_,hb.setCell (Nat.le_refl y1) _⟩
 · rw [World.cell?_setCell_other _ _ _ _ (fun he=>by have:y1=gg:=congrArg Addr.block he;omega)];exact h0
 · rw [World.cell?_setCell_other _ _ _ _ (fun he=>by have:y1=gg:=congrArg Addr.block he;omega)];exact h1
 · rw [World.cell?_setCell_other _ _ _ _ (fun he=>by have:y1=bn:=congrArg Addr.block he;omega)];exact h2
 · rw [World.cell?_setCell_other _ _ _ _ (fun he=>by have:y1=bn:=congrArg Addr.block he;omega)];exact h3
theorem zhc (s wd x y:ByteArray) (k:Nat) (a b:Int) (hs:s.size≤1000000) (hsp:zli s=[wd,x,y]) (hk:Lib.idxOfS zjo wd=(k:Int)) (hk3:k<3) (ha:numL x.data.toList 4=some a) (ha0:0≤a) (hb:numL y.data.toList 4=some b) (hb0:0≤b)
 (w:World) (hw:CtAt w):Calls Tryz.prog 208 #[.string s] w (EvPost w k a b):=by
 have hpart:=splB_part s
 have CC:=zl9 s hs
 rw [hsp] at CC hpart
 have hx:x.size≤1000000:=Nat.le_trans (hpart x (by simp)) hs
 have hy:y.size≤1000000:=Nat.le_trans (hpart y (by simp)) hs
 have NS:NumsOf [x,y] [a,b]:=⟨rfl,fun k s h=>by
  match k,h with
  | 0,h=>cases h;exact ⟨hx,a,rfl,ha,ha0⟩
  | 1,h=>cases h;exact ⟨hy,b,rfl,hb,hb0⟩⟩
 have hB0:=hB1 w (.cells #[.int .i64 0,.int .i64 0,.int .i64 0] 295)
 have k0:=hA1 w (.cells #[.int .i64 0,.int .i64 0,.int .i64 0] 295)
 have hz0:w.heap.size<(w.alloc (.cells #[.int .i64 0,.int .i64 0,.int .i64 0] 295)).heap.size:=by simp
 have HW:=Lib.hid (hw.below hB0)
 replace CC:=CC _ HW.out.txt
 have HKK:=Lib.hid hk
 have HB:=Lib.hid hB0
 clear hpart hx hy hB0 hw hsp ha hb hk ha0 hb0
 go_enter Tryz.func208,Tryz.ntmps208
 go_upto_region 1 with (fail)
 generalize (w.alloc (.cells #[.int .i64 0,.int .i64 0,.int .i64 0] 295))=wa at *
 generalize hxx:w.heap.size=z at *
 have HX:=Lib.hid hxx
 clear hxx
 go_upto_region 2 with (go_at_call 66;refine CC.mono ?_;rintro e w1 ⟨bb,rfl,hbB,hrd,hb1⟩)
 have hc0:=zby hrd (k:=0) (u:=.string wd) rfl
 rw [Nat.zero_add] at hc0
 have W1:=HW.out.below hb1
 have IX:=zkh w1 W1 wd k HKK.out
 replace k0:=blk hb1 k0
 replace HB:=Lib.hid (HB.out.trans (hb1.mono (by omega)))
 replace hz0:=Nat.lt_of_lt_of_le hz0 hb1.size
 have HRD:=Lib.hid hrd
 clear hb1 CC HW hrd
 have W1X:=fun y:Xt w1=>W1.below y.2
 have x0:=fun y:Xt w1=>y.cell hc0
 refine zax [] [0,1,2,3] 4 [5] (fun w'=>∃ y:Xt w1,w'=y.1) (by as_aux_lemma=>kernel_rfl) (by as_aux_lemma=>kernel_rfl) ⟨⟨w1.drew,(Below.refl _ _).drew⟩,rfl⟩ ?_
 simp only [zad,zac,zaa,zX1,zX2,zX3]
 refine wpQuiet_nil ?_
 show wpQuiet _ _ _ _ _ _
 repeat (go_big_quiet_step (fail))
 refine wpQuiet_nil ?_
 intro wb hx
 have hb3:=Xt.below hx
 have IX:=zkh wb (W1.below hb3) wd k HKK.out
 replace W1:=Lib.hid (W1.below hb3)
 replace k0:=blk hb3 k0
 replace HB:=Lib.hid (HB.out.trans (hb3.mono (by omega)))
 replace hz0:=Nat.lt_of_lt_of_le hz0 hb3.size
 have HRD2:=Lib.hid ((HRD.out.keep hb3).mono hb3.size)
 clear x0 hx W1X hb3 HRD hc0 hbB
 go_upto_region 3 with (go_at_call 75;refine IX.mono ?_;rintro e w' ⟨rfl,rfl⟩)
 refine zab ?_
 clear IX
 have NN:=numbers_ok (some ⟨bb,1,none⟩) 2 [x,y] [a,b] NS (by simp) wb W1.out.txt (zma HRD2.out)
 go_upto_region 4 with (go_at_call 262;refine NN.mono ?_;rintro e w2 ⟨An,cn,rfl,hO,hb2⟩)
 replace k0:=blk hb2 k0
 replace HB:=Lib.hid (HB.out.trans (hb2.mono (by omega)))
 replace hz0:=Nat.lt_of_lt_of_le hz0 hb2.size
 have HRN:=Lib.hid ((za7 hO).mono (Nat.le_refl _))
 clear hb2 hO NN NS W1 HRD2
 have q0:¬ (k:Int)<0:=by omega
 clear IX
 go_upto_region 8 with (fail)
 obtain ⟨bn,on,rfl,hbn,hn0⟩:=HRN.out.at_ (k:=0) (u:=.int .i64 a) rfl
 have hn1:=zby HRN.out (k:=1) (u:=.int .i64 b) rfl
 rw [Nat.add_zero] at hn0
 clear HRN
 have ky:((w2.alloc (.cells #[.int .i64 k,.int .i64 0,.int .i64 0] 295)).alloc (.cells #[.pointer (some ⟨w2.heap.size,1,none⟩)] 378)).heap[w2.heap.size]?=some (.cells #[.int .i64 k,.int .i64 0,.int .i64 0] 295 (0,0)):=by
  rw [zae,if_neg (by simp),zae,if_pos rfl]
 have hbx:=hB2 w2 (.cells #[.int .i64 k,.int .i64 0,.int .i64 0] 295) (.cells #[.pointer (some ⟨w2.heap.size,1,none⟩)] 378)
 have hO:((w2.alloc (.cells #[.int .i64 k,.int .i64 0,.int .i64 0] 295)).alloc (.cells #[.pointer (some ⟨w2.heap.size,1,none⟩)] 378)).ownsRow (w2.heap.size+1) 378 1 (.slice (some ⟨w2.heap.size+1,0,none⟩) 1 1) 1 [.pointer (some ⟨w2.heap.size,1,none⟩)]:=by
  have:=zgx (w:=w2.alloc (.cells #[.int .i64 k,.int .i64 0,.int .i64 0] 295)) (B:=w2.heap.size+1) (e:=378) (size:=1) (n:=1) (C:=#[.pointer (some ⟨w2.heap.size,1,none⟩)]) (by simp) rfl (by decide)
  simpa using this
 replace hn0:=zat hbx hn0
 replace hn1:=zat hbx hn1
 replace k0:=blk hbx k0
 replace HB:=Lib.hid (HB.out.trans (hbx.mono (by omega)))
 have hsw:=hS2 w2 (.cells #[.int .i64 k,.int .i64 0,.int .i64 0] 295) (.cells #[.pointer (some ⟨w2.heap.size,1,none⟩)] 378)
 clear hbx
 generalize (w2.alloc (.cells #[.int .i64 k,.int .i64 0,.int .i64 0] 295)).alloc (.cells #[.pointer (some ⟨w2.heap.size,1,none⟩)] 378)=w3 at *
 generalize w2.heap.size=y1 at *
 have HH:=fun W=>hasB_ok k hk3 W
 have HO:=Lib.hid hO
 clear hO
 obtain ⟨i1,hi1,hy0,hy1,hy2⟩:=info_parts info378s
 go_upto_region 9 with (go_at_call 263;refine (HH _).mono ?_;rintro e w' ⟨rfl,rfl⟩)
 go_wp2_with (at_builtin;refine stp ?_)
 unfold Stp
 refine wpList_append_lies _ rfl _ _ 383 rfl (y1+1) 378 i1 _ 1 8 Tryz.underlying383 hi1 hy0 hy1 hy2 rfl (by omega) (.slice (some ⟨y1+1,0,none⟩) 1 1) 1 _ rfl (HO.out.alloc _) ⟨w3.heap.size,0,none⟩ 1 1 [.pointer (some ⟨y1,2,none⟩)] rfl rfl (zez (by simp)) (by simp [Value.oneCell']) (by omega) (by simp only [maxLen];omega) (by omega) (by simp;omega) _ rfl ?_
 intro gg cap w6 hown6 hgrow6 hat6 hlt6
 have hb6:Below (y1+1) w3 w6:=(((Below.refl (y1+1) w3).alloc (by omega) _)).grown hgrow6 (by simp;omega) (fun j hj=>(zbi HO.out hj).1)
 have p0:w6.cell? ⟨gg,0,none⟩=some (.pointer (some ⟨y1,1,none⟩)):=zby (za7 hown6) (k:=0) rfl
 have p1:w6.cell? ⟨gg,1,none⟩=some (.pointer (some ⟨y1,2,none⟩)):=zby (za7 hown6) (k:=1) rfl
 have hgg:y1+1≤gg:=(zbi hown6 (k:=gg) rfl).1
 replace hn0:=keptB hb6 (show bn<y1+1 by omega) hn0
 replace hn1:=keptB hb6 (show bn<y1+1 by omega) hn1
 replace k0:=(hb6.block z (by omega)).trans k0
 replace ky:=(hb6.block y1 (by omega)).trans ky
 replace HB:=Lib.hid (HB.out.trans (hb6.mono (by omega)))
 have hs6:=hb6.size
 clear hb6 hown6 hgrow6 hat6 hlt6 HO hi1 hy0 hy1 hy2 HH
 go_wp2
 go_loopw [50] (fun u50 wr=>EvRel w6 y1 gg bn on k a b u50 wr) (fun u50 _=>2 - (intOf u50).toNat)
 case atStart=>exact ⟨0,0,0,rfl,ky,p0,p1,hn0,hn1,Below.refl _ _,.inl ⟨rfl,rfl,rfl⟩⟩
 case round =>
  obtain ⟨i,va,vb,rfl,hy,h0,h1,h2,h3,hb,hst⟩:=hrel
  have f1:=frozen_of_row wr y1 1 _ _ hy
  have f2:=frozen_of_row wr y1 2 _ _ hy
  obtain ⟨_,c1,c2⟩:_∧_∧_:=zba hy
  have HB9:=Lib.hid hb
  have S1:=fun v=>EvRel.set (i:=1) (v:=v) hgg hbn h0 h1 h2 h3 hb
  have S2:=fun v=>EvRel.set (i:=2) (v:=v) hgg hbn h0 h1 h2 h3 hb
  have kz:=(hb.block z (by omega)).trans k0
  have hsz:=hb.size
  clear hn0 hn1 p0 p1 ky k0 hb
  rcases hst with ⟨rfl,rfl,rfl⟩ | ⟨rfl,rfl,rfl⟩ | ⟨rfl,rfl,rfl⟩
  · have HY:Hid ((wr.setCell ⟨y1,1,none⟩ (.int .i64 a)).heap[y1]?=some (.cells #[.int .i64 k,.int .i64 a,.int .i64 0] 295 (0,0))):=by
     rw [Hid,zd6,if_pos rfl,hy]
     rfl
    have HS:=Lib.hid (S1 (.int .i64 a))
    clear hy S1 S2 f2 c2 h1 h3
    go_wp2
    go_roundw
    case rel=>exact ⟨1,a,0,rfl,HY.out,HS.out.1,HS.out.2.1,HS.out.2.2.1,HS.out.2.2.2.1,HS.out.2.2.2.2,.inr (.inl ⟨rfl,rfl,rfl⟩)⟩
    case measure=>simp [intOf]
  · have HY:Hid ((wr.setCell ⟨y1,2,none⟩ (.int .i64 b)).heap[y1]?=some (.cells #[.int .i64 k,.int .i64 va,.int .i64 b] 295 (0,0))):=by
     rw [Hid,zd6,if_pos rfl,hy]
     rfl
    have HS:=Lib.hid (S2 (.int .i64 b))
    clear hy S1 S2 f1 c1 h0 h2
    go_wp2
    go_roundw
    case rel=>exact ⟨2,va,b,rfl,HY.out,HS.out.1,HS.out.2.1,HS.out.2.2.1,HS.out.2.2.2.1,HS.out.2.2.2.2,.inr (.inr ⟨rfl,rfl,rfl⟩)⟩
    case measure=>simp [intOf]
  · clear S1 S2 h0 h1 h2 h3 f1 f2 c1 c2
    go_wp2_with (with_reducible refine zaw 295 ?_)
    unfold Stp
    refine wpList_load_row rfl 295 _ rfl y1 rfl 295 _ (0,0) _ hy Tryz.underlying295 rfl (by kernel_rfl) ?_
    go_wp2_with (with_reducible refine zas 295 ?_)
    unfold Stp
    refine wpList_store_row rfl 295 _ _ rfl z #[.int .i64 k,.int .i64 va,.int .i64 vb] rfl rfl 295 _ kz (by kernel_rfl) rfl (by kernel_rfl) ?_
    obtain ⟨r0,r1,r2⟩:_∧_∧_:=zba (setRow_heap wr z _ #[.int .i64 k,.int .i64 va,.int .i64 vb] 295 (0,0) kz)
    have HB8:Hid (Below z w (wr.setRow z #[.int .i64 k,.int .i64 va,.int .i64 vb])):=below_setRow (HB.out.trans (HB9.out.mono (by omega))) (Nat.le_refl z) _
    clear hy kz
    generalize wr.setRow z #[.int .i64 k,.int .i64 va,.int .i64 vb]=wz at *
    go_wp2
    refine bodyPost_ret (v:=.tuple #[.agg #[.int .i64 k,.int .i64 va,.int .i64 vb],.int .i64 0]) (by simp [results,Tryz.results208,go_sem,r0,r1,r2]) rfl ⟨rfl,?_⟩
    rw [HX.out]
    exact HB8.out
def IxRel {α:Type} (w0:World) (l:List α) (p:α→Bool) (n:Nat) (V:Int) (u:Value) (wr:World):Prop:=∃ k:Nat,k≤n∧u=.int .i64 k∧za4 p (l.drop k) k=V∧Below w0.heap.size w0 wr
theorem Rd.lt {w:World} {B:Nat} {A:Option Addr} {l:List LtV} (h:Rd w B A (zbs l)) {i:Nat} {x:LtV} (hi:l[i]?=some x) :
 ∃ b off,A=some ⟨b,off,none⟩∧b<B∧w.cell? ⟨b,off+i * 2,none⟩=some (.slice x.s.A x.s.n x.s.c)∧w.cell? ⟨b,off+i * 2+1,none⟩=some (.int .i64 x.under):=by
 obtain ⟨b,off,e,hb,c⟩:=Rd.row (k:=2) (vals:=zg0) h (fun _=>rfl) (by decide) hi
 exact ⟨b,off,e,hb,c 0 _ rfl,c 1 _ rfl⟩
theorem Index76 (g:Nat) (lb:Array Value) (hf:∀ av W,(callFunc g av).run Tryz.prog W=.ok (.enter g av) W) (A:Option Addr) (n c B:Nat) (l:List Int) (p:Int→Bool) (w:World) (hn:n≤1000000000) (hl:l.length=n) (h:Rd w B A (zai l)) (hB:B≤w.heap.size)
 (hp:∀ (W:World) (x:Int),Below w.heap.size w W→x∈l→Calls Tryz.prog g (#[.int .i64 x]++lb) W fun e w'=>e=.returned (.bool (p x))∧Below W.heap.size W w') :
 Calls Tryz.prog 139 #[.slice A n c,.func (.func g) #[] lb] w (zay w (za4 p l 0)):=by
 have HL:=Lib.hid hl
 have HP:=Lib.hid hp
 clear hl hp
 obtain ⟨V,hV⟩:∃ V,za4 p l 0=V:=⟨_,rfl⟩
 rw [hV]
 have HV:=Lib.hid hV
 clear hV
 go_enter Tryz.func139,Tryz.ntmps139
 go_wp2
 go_loopw [5,8] (fun _ i wr=>IxRel w l p n V i wr) (fun _ i _=>n - (intOf i).toNat)
 case atStart=>exact ⟨0,Nat.zero_le _,rfl,HV.out,Below.refl _ _⟩
 case round =>
  obtain ⟨k,hk,rfl,he,hb⟩:=hrel
  have HE:=Lib.hid he
  have HB:=Lib.hid hb
  have hr:=h.below (hb.mono hB)
  have hsk:=hb.size
  clear he
  by_cases hlt:k<n
  · have hkl:k<l.length:=by rw [HL.out];exact hlt
    obtain ⟨x,hx⟩:∃ x,l[k]?=some x:=⟨_,List.getElem?_eq_getElem hkl⟩
    obtain ⟨bb,off,rfl,hbB,z0⟩:=hr.at_ (k:=k) (u:=.int .i64 x) (by simp only [zai,List.getElem?_map,hx,Option.map_some])
    have HS:=Lib.hid (za9 hx)
    have SS:=HP.out wr x hb (List.mem_of_getElem? hx)
    clear hkl hx hb hr
    cases hpx:p x with
    | true =>
     have HV9:Hid (V=k):=by rw [Hid,← HE.out,HS.out,za4];simp [hpx]
     rw [hpx] at SS
     clear hpx
     go_wp2_with (refine SS.mono ?_;rintro e w9 ⟨rfl,hb9⟩)
     go_ret
     exact ⟨by rw [HV9.out];rfl,HB.out.trans (hb9.mono hsk)⟩
    | false =>
     rw [hpx] at SS
     have HN:Hid (za4 p (l.drop (k+1)) (k+1)=V):=by
      have h9:=HE.out
      rw [HS.out,za4] at h9
      simp only [hpx] at h9
      exact h9
     clear hpx
     go_wp2_with (refine SS.mono ?_;rintro e w9 ⟨rfl,hb9⟩)
     go_roundw
     case rel=>exact ⟨k+1,by omega,by go_num,HN.out,HB.out.trans (hb9.mono hsk)⟩
     case measure=>simp [intOf];omega
  · have HV9:Hid (V=-1):=by
     have h9:=HE.out
     rw [List.drop_eq_nil_iff.2 (by rw [HL.out];omega),za4] at h9
     exact h9.symm
    clear hb hr
    go_wp2
    go_ret
    exact ⟨by rw [HV9.out];rfl,HB.out⟩
theorem ze8 (g:Nat) (lb:Array Value) (hf:∀ av W,(callFunc g av).run Tryz.prog W=.ok (.enter g av) W) (A:Option Addr) (n c B:Nat) (l:List Int) (p:Int→Bool) (b:Bool) (hb:l.any p=b) (w:World) (hn:n≤1000000000) (hl:l.length=n) (h:Rd w B A (zai l)) (hB:B≤w.heap.size)
 (hp:∀ (W:World) (x:Int),Below w.heap.size w W→x∈l→Calls Tryz.prog g (#[.int .i64 x]++lb) W fun e w'=>e=.returned (.bool (p x))∧Below W.heap.size W w') :
 Calls Tryz.prog 210 #[.slice A n c,.func (.func g) #[] lb] w fun e w'=>e=.returned (.bool b)∧Below w.heap.size w w':=by
 have HV:Hid (decide (0≤za4 p l 0)=b):=by rw [Hid,zcc,hb]
 have IX:=Index76 g lb hf A n c B l p w hn hl h hB hp
 unfold zay at IX
 clear hb hp h
 generalize za4 p l 0=ix at *
 go_enter Tryz.func210,Tryz.ntmps210
 go_wp2_with (go_at_call 139;refine IX.mono ?_;rintro e w9 ⟨rfl,hb9⟩)
 go_ret
 exact ⟨by rw [← HV.out];rfl,hb9⟩
theorem Index236 (g:Nat) (lb:Array Value) (hf:∀ av W,(callFunc g av).run Tryz.prog W=.ok (.enter g av) W) (A:Option Addr) (n c B:Nat) (l:List LtV) (p:LtV→Bool) (w:World) (hn:n≤1000000000) (hl:l.length=n) (h:Rd w B A (zbs l)) (hB:B≤w.heap.size)
 (hp:∀ (W:World) (x:LtV),Below w.heap.size w W→x∈l→Calls Tryz.prog g (#[.agg #[.slice x.s.A x.s.n x.s.c,.int .i64 x.under]]++lb) W fun e w'=>e=.returned (.bool (p x))∧Below W.heap.size W w') :
 Calls Tryz.prog 242 #[.slice A n c,.func (.func g) #[] lb] w (zay w (za4 p l 0)):=by
 have HL:=Lib.hid hl
 have HP:=Lib.hid hp
 clear hl hp
 obtain ⟨V,hV⟩:∃ V,za4 p l 0=V:=⟨_,rfl⟩
 rw [hV]
 have HV:=Lib.hid hV
 clear hV
 go_enter Tryz.func242,Tryz.ntmps242
 go_wp2
 go_loopw [5,8] (fun _ i wr=>IxRel w l p n V i wr) (fun _ i _=>n - (intOf i).toNat)
 case atStart=>exact ⟨0,Nat.zero_le _,rfl,HV.out,Below.refl _ _⟩
 case round =>
  obtain ⟨k,hk,rfl,he,hb⟩:=hrel
  have HE:=Lib.hid he
  have HB:=Lib.hid hb
  have hr:=h.below (hb.mono hB)
  have hsk:=hb.size
  clear he
  by_cases hlt:k<n
  · have hkl:k<l.length:=by rw [HL.out];exact hlt
    obtain ⟨x,hx⟩:∃ x,l[k]?=some x:=⟨_,List.getElem?_eq_getElem hkl⟩
    obtain ⟨bb,off,rfl,hbB,z0,z1⟩:=Rd.lt hr hx
    have HS:=Lib.hid (za9 hx)
    have SS:=HP.out wr x hb (List.mem_of_getElem? hx)
    clear hkl hx hb hr
    cases hpx:p x with
    | true =>
     have HV9:Hid (V=k):=by rw [Hid,← HE.out,HS.out,za4];simp [hpx]
     rw [hpx] at SS
     clear hpx
     go_wp2_with (refine SS.mono ?_;rintro e w9 ⟨rfl,hb9⟩)
     go_ret
     exact ⟨by rw [HV9.out];rfl,HB.out.trans (hb9.mono hsk)⟩
    | false =>
     rw [hpx] at SS
     have HN:Hid (za4 p (l.drop (k+1)) (k+1)=V):=by
      have h9:=HE.out
      rw [HS.out,za4] at h9
      simp only [hpx] at h9
      exact h9
     clear hpx
     go_wp2_with (refine SS.mono ?_;rintro e w9 ⟨rfl,hb9⟩)
     go_roundw
     case rel=>exact ⟨k+1,by omega,by go_num,HN.out,HB.out.trans (hb9.mono hsk)⟩
     case measure=>simp [intOf];omega
  · have HV9:Hid (V=-1):=by
     have h9:=HE.out
     rw [List.drop_eq_nil_iff.2 (by rw [HL.out];omega),za4] at h9
     exact h9.symm
    clear hb hr
    go_wp2
    go_ret
    exact ⟨by rw [HV9.out];rfl,HB.out⟩
theorem Index90 (g:Nat) (lb:Array Value) (hf:∀ av W,(callFunc g av).run Tryz.prog W=.ok (.enter g av) W) (A:Option Addr) (n c B:Nat) (l:List Sw) (p:Sw→Bool) (w:World) (hn:n≤1000000000) (hl:l.length=n) (h:Rd w B A (zbl l)) (hB:B≤w.heap.size)
 (hp:∀ (W:World) (x:Sw),Below w.heap.size w W→x∈l→Calls Tryz.prog g (#[.agg #[.string x.1,.int .i64 x.2]]++lb) W fun e w'=>e=.returned (.bool (p x))∧Below W.heap.size W w') :
 Calls Tryz.prog 89 #[.slice A n c,.func (.func g) #[] lb] w (zay w (za4 p l 0)):=by
 have HL:=Lib.hid hl
 have HP:=Lib.hid hp
 clear hl hp
 obtain ⟨V,hV⟩:∃ V,za4 p l 0=V:=⟨_,rfl⟩
 rw [hV]
 have HV:=Lib.hid hV
 clear hV
 go_enter Tryz.func89,Tryz.ntmps89
 go_wp2
 go_loopw [5,8] (fun _ i wr=>IxRel w l p n V i wr) (fun _ i _=>n - (intOf i).toNat)
 case atStart=>exact ⟨0,Nat.zero_le _,rfl,HV.out,Below.refl _ _⟩
 case round =>
  obtain ⟨k,hk,rfl,he,hb⟩:=hrel
  have HE:=Lib.hid he
  have HB:=Lib.hid hb
  have hr:=h.below (hb.mono hB)
  have hsk:=hb.size
  clear he
  by_cases hlt:k<n
  · have hkl:k<l.length:=by rw [HL.out];exact hlt
    obtain ⟨x,hx⟩:∃ x,l[k]?=some x:=⟨_,List.getElem?_eq_getElem hkl⟩
    obtain ⟨bb,off,rfl,hbB,z0,z1⟩:=Rd.sw hr hx
    have HS:=Lib.hid (za9 hx)
    have SS:=HP.out wr x hb (List.mem_of_getElem? hx)
    clear hkl hx hb hr
    cases hpx:p x with
    | true =>
     have HV9:Hid (V=k):=by rw [Hid,← HE.out,HS.out,za4];simp [hpx]
     rw [hpx] at SS
     clear hpx
     go_wp2_with (refine SS.mono ?_;rintro e w9 ⟨rfl,hb9⟩)
     go_ret
     exact ⟨by rw [HV9.out];rfl,HB.out.trans (hb9.mono hsk)⟩
    | false =>
     rw [hpx] at SS
     have HN:Hid (za4 p (l.drop (k+1)) (k+1)=V):=by
      have h9:=HE.out
      rw [HS.out,za4] at h9
      simp only [hpx] at h9
      exact h9
     clear hpx
     go_wp2_with (refine SS.mono ?_;rintro e w9 ⟨rfl,hb9⟩)
     go_roundw
     case rel=>exact ⟨k+1,by omega,by go_num,HN.out,HB.out.trans (hb9.mono hsk)⟩
     case measure=>simp [intOf];omega
  · have HV9:Hid (V=-1):=by
     have h9:=HE.out
     rw [List.drop_eq_nil_iff.2 (by rw [HL.out];omega),za4] at h9
     exact h9.symm
    clear hb hr
    go_wp2
    go_ret
    exact ⟨by rw [HV9.out];rfl,HB.out⟩
structure LnAt (w:World) (B b:Nat) (p:PlantV) (q:LsV):Prop where
 blk:w.heap[b]?=some (.cells #[p.ss.v,p.ts.v,p.ws.v,p.rs.v,q.sw.v,q.tr.v,.int .i64 q.ctr] 437 (0,0))
 plant:PlantAt w B p
 st:LsAt w B q
theorem LsAt.keep {w w':World} {B:Nat} {q:LsV} (h:LsAt w B q) (hb:Below w.heap.size w w'):LsAt w' B q:=
 ⟨h.sws.keep hb,h.trs.keep hb,fun t ht=>(h.t t ht).keep hb,h.cap⟩
theorem LnAt.keep {w w':World} {B b:Nat} {p:PlantV} {q:LsV} (h:LnAt w B b p q) (hb:Below w.heap.size w w'):LnAt w' B b p q:=
 ⟨(hb.block b (lt_of_block h.blk)).trans h.blk,h.plant.keep hb,h.st.keep hb⟩
theorem zdc {W:World} {r t:Nat} {a0 a1 a2 a3 a4 a5 a6:Value} (h:W.heap[r]?=some (.cells #[a0,a1,a2,a3,a4,a5,a6] t (0,0))) :
 W.cell? ⟨r,0,none⟩=some a0∧W.cell? ⟨r,1,none⟩=some a1∧W.cell? ⟨r,2,none⟩=some a2∧W.cell? ⟨r,3,none⟩=some a3∧W.cell? ⟨r,4,none⟩=some a4∧W.cell? ⟨r,5,none⟩=some a5∧W.cell? ⟨r,6,none⟩=some a6:=by
 refine ⟨?_,?_,?_,?_,?_,?_,?_⟩ <;> rw [cell_of_row _ _ _ _ _ _ h] <;> rfl
theorem notPos_val (x:Int) (b:Bool) (h:zf4 x=b) (w:World):Calls Tryz.prog 320 #[.int .i64 x] w fun e w'=>e=.returned (.bool (!b))∧w=w':=by
 have I:=fun W=>isPos_val x b h W
 clear h
 go_enter Tryz.func320,Tryz.ntmps320
 go_wp2_with (go_at_call 195;refine (I _).mono ?_;rintro e w' ⟨rfl,rfl⟩)
 go_ret
 exact ⟨rfl,rfl⟩
theorem isByte_val (x:Int) (b:Bool) (h:zaj x 0 250=b) (w:World):Calls Tryz.prog 321 #[.int .i64 x] w fun e w'=>e=.returned (.bool b)∧w=w':=by
 have I:=fun W=>zb0 x 0 250 b h W
 clear h
 go_enter Tryz.func321,Tryz.ntmps321
 go_wp2_with (go_at_call 193;refine (I _).mono ?_;rintro e w' ⟨rfl,rfl⟩)
 go_ret
 exact ⟨rfl,rfl⟩
theorem zks (x:Int) (b:Bool) (h:zaj x 0 6=b) (w:World):Calls Tryz.prog 323 #[.int .i64 x] w fun e w'=>e=.returned (.bool b)∧w=w':=by
 have I:=fun W=>zb0 x 0 6 b h W
 clear h
 go_enter Tryz.func323,Tryz.ntmps323
 go_wp2_with (go_at_call 193;refine (I _).mono ?_;rintro e w' ⟨rfl,rfl⟩)
 go_ret
 exact ⟨rfl,rfl⟩
def secE (p:PlantV) (x:Int):Int:=zag (zaj x 0 ((p.ss.n:Int) - 1)) 6
theorem secE_any (w:World) (p:PlantV) (x:Int) (hn:p.ss.n≤1000):Calls Tryz.prog 324 #[.agg (zap p).toArray,.int .i64 x] w (zay w (secE p x)):=by
 have hb0:=hB1 w (.cells (zap p).toArray 26)
 have k0:(w.alloc (.cells (zap p).toArray 26)).heap[w.heap.size]?=some (.cells #[p.ss.v,p.ts.v,p.ws.v,p.rs.v] 26 (0,0)):=by rw [zae,if_pos rfl];rfl
 obtain ⟨b1,hb1⟩:∃ b,zaj x 0 ((p.ss.n:Int) - 1)=b:=⟨_,rfl⟩
 have W1:=fun W=>zb0 x 0 ((p.ss.n:Int) - 1) b1 hb1 W
 obtain ⟨E,hE⟩:∃ E,zag b1 6=E:=⟨_,rfl⟩
 have U1:=fun W=>zbt b1 6 E hE W
 have HE:Hid (secE p x=E):=by rw [Hid,secE,hb1,hE]
 have HB:=Lib.hid hb0
 clear hb0 hb1 hE
 go_enter Tryz.func324,Tryz.ntmps324
 go_upto_region 1 with (fail)
 generalize w.alloc (.cells (zap p).toArray 26)=w0 at *
 generalize hbw:w.heap.size=bw at *
 have HBW:=Lib.hid hbw
 clear hbw
 obtain ⟨d0,d1,d2,d3⟩:_∧_∧_∧_:=zbo k0
 simp only [SlV.v] at d0 d1 d2 d3
 clear k0
 generalize p.ss.n=n at *
 go_wp2_with (first | (go_at_call 193;refine (W1 _).mono ?_;rintro e w' ⟨rfl,rfl⟩) | (go_at_call 115;refine (U1 _).mono ?_;rintro e w' ⟨rfl,rfl⟩))
 go_ret
 exact ⟨by rw [HE.out];rfl,by rw [HBW.out];exact HB.out⟩
def trnE (p:PlantV) (x:Int):Int:=zag (zaj x 0 ((p.ts.n:Int) - 1)) 6
theorem trnE_any (w:World) (p:PlantV) (x:Int) (hn:p.ts.n≤1000):Calls Tryz.prog 325 #[.agg (zap p).toArray,.int .i64 x] w (zay w (trnE p x)):=by
 have hb0:=hB1 w (.cells (zap p).toArray 26)
 have k0:(w.alloc (.cells (zap p).toArray 26)).heap[w.heap.size]?=some (.cells #[p.ss.v,p.ts.v,p.ws.v,p.rs.v] 26 (0,0)):=by rw [zae,if_pos rfl];rfl
 obtain ⟨b1,hb1⟩:∃ b,zaj x 0 ((p.ts.n:Int) - 1)=b:=⟨_,rfl⟩
 have W1:=fun W=>zb0 x 0 ((p.ts.n:Int) - 1) b1 hb1 W
 obtain ⟨E,hE⟩:∃ E,zag b1 6=E:=⟨_,rfl⟩
 have U1:=fun W=>zbt b1 6 E hE W
 have HE:Hid (trnE p x=E):=by rw [Hid,trnE,hb1,hE]
 have HB:=Lib.hid hb0
 clear hb0 hb1 hE
 go_enter Tryz.func325,Tryz.ntmps325
 go_upto_region 1 with (fail)
 generalize w.alloc (.cells (zap p).toArray 26)=w0 at *
 generalize hbw:w.heap.size=bw at *
 have HBW:=Lib.hid hbw
 clear hbw
 obtain ⟨d0,d1,d2,d3⟩:_∧_∧_∧_:=zbo k0
 simp only [SlV.v] at d0 d1 d2 d3
 clear k0
 generalize p.ts.n=n at *
 go_wp2_with (first | (go_at_call 193;refine (W1 _).mono ?_;rintro e w' ⟨rfl,rfl⟩) | (go_at_call 115;refine (U1 _).mono ?_;rintro e w' ⟨rfl,rfl⟩))
 go_ret
 exact ⟨by rw [HE.out];rfl,by rw [HBW.out];exact HB.out⟩
theorem has392_val (t:LtV) (B q:Nat) (s:Int) (w:World) (ht:zcs w B t.s t.chain.length (zai t.chain)) (hn:t.chain.length≤1000000) (hq:w.cell? ⟨q,0,none⟩=some (.int .i64 s)) :
 Calls Tryz.prog 400 #[.agg #[.slice t.s.A t.s.n t.s.c,.int .i64 t.under],.pointer (some ⟨q,0,none⟩)] w fun e w'=>e=.returned (.bool (ze1 t.chain s))∧Below w.heap.size w w':=by
 have hb0:=hB1 w (.cells #[.slice t.s.A t.s.n t.s.c,.int .i64 t.under] 224)
 have hp2:=zb6 (.cells #[.slice t.s.A t.s.n t.s.c,.int .i64 t.under] 224) hq
 obtain ⟨c0,c1⟩:_∧_:=zaz (W:=w.alloc (.cells #[.slice t.s.A t.s.n t.s.c,.int .i64 t.under] 224)) (by rw [zae,if_pos rfl])
 have hr:=(ht.keep hb0).2
 have hl:=ht.1
 rw [hl] at hn
 have CI:=zcv t.s.A t.s.n t.s.c B t.chain s _ rfl _ (by omega) hl hr
 generalize ze1 t.chain s=V at *
 have HB:=Lib.hid hb0
 clear hb0 hr hl hn ht hq
 go_enter Tryz.func400,Tryz.ntmps400
 go_wp2_with (go_at_call 194;refine CI.mono ?_;rintro e w' ⟨rfl,rfl⟩)
 go_ret
 exact ⟨rfl,HB.out⟩
theorem has237_val (t:LtV) (B q:Nat) (s:Int) (w:World) (ht:zcs w B t.s t.chain.length (zai t.chain)) (hn:t.chain.length≤1000000) (hq:w.cell? ⟨q,0,none⟩=some (.int .i64 s)) :
 Calls Tryz.prog 243 #[.agg #[.slice t.s.A t.s.n t.s.c,.int .i64 t.under],.pointer (some ⟨q,0,none⟩)] w fun e w'=>e=.returned (.bool (ze1 t.chain s))∧Below w.heap.size w w':=by
 have hb0:=hB1 w (.cells #[.slice t.s.A t.s.n t.s.c,.int .i64 t.under] 224)
 have hp2:=zb6 (.cells #[.slice t.s.A t.s.n t.s.c,.int .i64 t.under] 224) hq
 obtain ⟨c0,c1⟩:_∧_:=zaz (W:=w.alloc (.cells #[.slice t.s.A t.s.n t.s.c,.int .i64 t.under] 224)) (by rw [zae,if_pos rfl])
 have hr:=(ht.keep hb0).2
 have hl:=ht.1
 rw [hl] at hn
 have CI:=zcv t.s.A t.s.n t.s.c B t.chain s _ rfl _ (by omega) hl hr
 generalize ze1 t.chain s=V at *
 have HB:=Lib.hid hb0
 clear hb0 hr hl hn ht hq
 go_enter Tryz.func243,Tryz.ntmps243
 go_wp2_with (go_at_call 194;refine CI.mono ?_;rintro e w' ⟨rfl,rfl⟩)
 go_ret
 exact ⟨rfl,HB.out⟩
def zep (q:LsV) (s:Int):Int:=za4 (fun t:LtV=>ze1 t.chain s) q.trs 0
def LsS (q:LsV):Prop:=q.trs.length≤1000∧q.sws.length≤1000∧∀ t∈q.trs,t.chain.length≤1000
theorem lnHolder_any (w:World) (B b:Nat) (p:PlantV) (q:LsV) (s:Int) (h:LnAt w B b p q) (hS:LsS q) (hB:B≤w.heap.size):Calls Tryz.prog 368 #[.pointer (some ⟨b,0,none⟩),.int .i64 s] w (zay w (zep q s)):=by
 have hb0:=hB1 w (.cells #[.int .i64 s] 3)
 have q0:(w.alloc (.cells #[.int .i64 s] 3)).cell? ⟨w.heap.size,0,none⟩=some (.int .i64 s):=by simp
 have hk:=h.keep hb0
 have hs0:=hb0.size
 have hl:=hk.st.trs.1
 have IX:=Index236 400 #[.pointer (some ⟨w.heap.size,0,none⟩)] (fun _ _=>by kernel_rfl) q.tr.A q.tr.n q.tr.c B q.trs (fun t=>ze1 t.chain s) (w.alloc (.cells #[.int .i64 s] 3)) (by have:=hS.1;omega) hl hk.st.trs.2 (by omega)
  (fun W t hb ht=>has392_val t B _ s W ((hk.st.t t ht).keep hb) (by have:=hS.2.2 t ht;omega) (zat hb q0))
 unfold zay at IX
 have HV:Hid (za4 (fun t:LtV=>ze1 t.chain s) q.trs 0=zep q s):=rfl
 rw [HV.out] at IX
 generalize zep q s=V at *
 obtain ⟨d0,d1,d2,d3,d4,d5,d6⟩:_∧_∧_∧_∧_∧_∧_:=zdc hk.blk
 simp only [SlV.v] at d5
 have HB:=Lib.hid hb0
 clear hb0 hk hl h hS HV d0 d1 d2 d3 d4 d6 q0
 go_enter Tryz.func368,Tryz.ntmps368
 go_upto_region 1 with (fail)
 generalize w.alloc (.cells #[.int .i64 s] 3)=w0 at *
 generalize hbw:w.heap.size=bw at *
 have HBW:=Lib.hid hbw
 clear hbw
 go_wp2_with (go_at_call 242;refine IX.mono ?_;rintro e w9 ⟨rfl,hb9⟩)
 go_ret
 exact ⟨rfl,by rw [HBW.out];exact HB.out.trans (hb9.mono hs0)⟩
theorem takenC_val (w:World) (B b c:Nat) (p:PlantV) (q:LsV) (x:Int) (h:LnAt w B b p q) (hS:LsS q) (hB:B≤w.heap.size) (hc:w.cell? ⟨c,0,none⟩=some (.pointer (some ⟨b,0,none⟩))) :
 Calls Tryz.prog 367 #[.int .i64 x,.pointer (some ⟨c,0,none⟩)] w fun e w'=>e=.returned (.bool (decide (0≤zep q x)))∧Below w.heap.size w w':=by
 have HH:=lnHolder_any w B b p q x h hS hB
 unfold zay at HH
 clear h hS hB
 generalize zep q x=V at *
 go_enter Tryz.func367,Tryz.ntmps367
 go_wp2_with (go_at_call 368;refine HH.mono ?_;rintro e w9 ⟨rfl,hb9⟩)
 go_ret
 exact ⟨rfl,hb9⟩
def zgp (q:LsV) (l:List Int):Bool:=l.any fun x=>decide (0≤zep q x)
theorem taken_any (w:World) (B b:Nat) (p:PlantV) (q:LsV) (A:Option Addr) (n c:Nat) (l:List Int) (h:LnAt w B b p q) (hS:LsS q) (hB:B≤w.heap.size) (hl:l.length=n) (hn:n≤1000) (hr:Rd w w.heap.size A (zai l)) :
 Calls Tryz.prog 326 #[.pointer (some ⟨b,0,none⟩),.slice A n c] w fun e w'=>e=.returned (.bool (zgp q l))∧Below w.heap.size w w':=by
 have hb0:=hB1 w (.cells #[.pointer (some ⟨b,0,none⟩)] 384)
 have q0:(w.alloc (.cells #[.pointer (some ⟨b,0,none⟩)] 384)).cell? ⟨w.heap.size,0,none⟩=some (.pointer (some ⟨b,0,none⟩)):=by simp
 have hk:=h.keep hb0
 have hs0:=hb0.size
 have IX:=ze8 367 #[.pointer (some ⟨w.heap.size,0,none⟩)] (fun _ _=>by kernel_rfl) A n c w.heap.size l (fun x=>decide (0≤zep q x)) (zgp q l) rfl (w.alloc (.cells #[.pointer (some ⟨b,0,none⟩)] 384)) (by omega) hl (hr.keep hb0) hs0
  (fun W x hb _=>takenC_val W B b _ p q x (hk.keep hb) hS (by have:=hb.size;omega) (zat hb q0))
 generalize zgp q l=V at *
 have HB:=Lib.hid hb0
 clear hb0 hk hl h hS q0 hr hB
 go_enter Tryz.func326,Tryz.ntmps326
 go_upto_region 1 with (fail)
 generalize w.alloc (.cells #[.pointer (some ⟨b,0,none⟩)] 384)=w0 at *
 generalize hbw:w.heap.size=bw at *
 have HBW:=Lib.hid hbw
 clear hbw
 go_wp2_with (go_at_call 210;refine IX.mono ?_;rintro e w9 ⟨rfl,hb9⟩)
 go_ret
 exact ⟨rfl,by rw [HBW.out];exact HB.out.trans (hb9.mono hs0)⟩
theorem chainNil_ok (w:World) (B b i:Nat) (p:PlantV) (q:LsV) (t:LtV) (h:LnAt w B b p q) (hi:q.trs[i]?=some t) (hc:t.chain=[]) (hu:t.under=0) :
 Calls Tryz.prog 322 #[.pointer (some ⟨b,0,none⟩),.int .i64 i] w (zay w 0):=by
 have hl:=h.st.trs.1
 have hlt:i<q.tr.n:=by rw [← hl];exact (List.getElem?_eq_some_iff.1 hi).1
 obtain ⟨d0,d1,d2,d3,d4,d5,d6⟩:_∧_∧_∧_∧_∧_∧_:=zdc h.blk
 have hr:=h.st.trs.2
 have hn:=(h.st.t t (List.mem_of_getElem? hi)).1
 rw [hc] at hn
 obtain ⟨bb,off,hA,hbB,z0,z1⟩:=Rd.lt hr hi
 obtain ⟨s,ch,u⟩:=t
 obtain ⟨sA,sn,sc⟩:=s
 simp only at z0 z1 hn hc hu
 subst hu
 obtain rfl:0=sn:=by simpa using hn
 simp only [SlV.v,hA] at d5
 generalize q.tr.n=n at *
 generalize q.tr.c=cc at *
 clear hr hi hn hc h hl d0 d1 d2 d3 d4 d6 hA
 have W1:=fun W=>zb0 0 0 0 true rfl W
 have hb0:=hB1 w (.cells #[.slice sA 0 sc,.int .i64 0] 224)
 obtain ⟨e0,e1⟩:_∧_:=zaz (W:=w.alloc (.cells #[.slice sA 0 sc,.int .i64 0] 224)) (by rw [zae,if_pos rfl])
 have HB:=Lib.hid hb0
 clear hb0
 go_enter Tryz.func322,Tryz.ntmps322
 go_upto_region 2 with (fail)
 generalize w.alloc (.cells #[.slice sA 0 sc,.int .i64 0] 224)=w0 at *
 generalize hbw:w.heap.size=bw at *
 have HBW:=Lib.hid hbw
 clear hbw z0 z1 d5
 go_wp2_with (first | (go_at_call 193;refine (W1 _).mono ?_;rintro e w' ⟨rfl,rfl⟩))
 go_loopw [36] (fun u36 wr=>u36=.int .i64 0∧wr=w0) (fun _ _=>0)
 case atStart=>exact ⟨rfl,rfl⟩
 case round =>
  obtain ⟨rfl,rfl⟩:=hrel
  go_wp2
  go_ret
  exact ⟨rfl,by rw [HBW.out];exact HB.out⟩
def ChaRel (w0:World) (bw:Nat) (u:Value) (wr:World):Prop:=(u=.int .i64 0∧wr=w0)∨(u=.int .i64 1∧Below bw w0 wr)
theorem chainOne_ok (w:World) (B b:Nat) (p:PlantV) (q:LsV) (t:LtV) (s:Int) (h:LnAt w B b p q) (hi:q.trs[0]?=some t) (hc:t.chain=[s]) (hu:t.under=1) (hs:secE p s=0) (hp:p.ss.n≤1000) :
 Calls Tryz.prog 322 #[.pointer (some ⟨b,0,none⟩),.int .i64 0] w (zay w 0):=by
 have hl:=h.st.trs.1
 have hlt:0<q.tr.n:=by rw [← hl];exact (List.getElem?_eq_some_iff.1 hi).1
 obtain ⟨d0,d1,d2,d3,d4,d5,d6⟩:_∧_∧_∧_∧_∧_∧_:=zdc h.blk
 have hr:=h.st.trs.2
 have hcr:=(h.st.t t (List.mem_of_getElem? hi)).2
 have hn:=(h.st.t t (List.mem_of_getElem? hi)).1
 have hcap:=h.st.cap.2.2 t (List.mem_of_getElem? hi)
 have hcap2:=h.st.cap.2.1
 rw [hc] at hn hcr
 obtain ⟨bb,off,hA,hbB,z0,z1⟩:=Rd.lt hr hi
 obtain ⟨cb,co,hcA,_,y0⟩:=hcr.at_ (k:=0) (u:=.int .i64 s) rfl
 have SE:=fun W=>secE_any W p s hp
 rw [hs] at SE
 obtain ⟨st,ch,u⟩:=t
 obtain ⟨sA,sn,sc⟩:=st
 simp only at z0 z1 hn hc hu hcA hcap
 subst hu
 subst hcA
 obtain rfl:1=sn:=by simpa using hn
 simp only [SlV.v,hA] at d0 d1 d2 d3 d5
 generalize q.tr.n=n at *
 generalize q.tr.c=cc at *
 rw [Nat.zero_mul,Nat.add_zero] at z0 z1
 rw [Nat.add_zero] at y0
 clear hr hi hn hc hl d4 d6 hA hcr hs hp hbB
 have W1:=fun W=>zb0 1 1 1 true rfl W
 have U1:=fun e W=>zbt true e 0 rfl W
 have F1:=fun W=>lkFirst3 W 0 0 0
 have hb0:=hB1 w (.cells #[.slice (some ⟨cb,co,none⟩) 1 sc,.int .i64 1] 224)
 obtain ⟨e0,e1⟩:_∧_:=zaz (W:=w.alloc (.cells #[.slice (some ⟨cb,co,none⟩) 1 sc,.int .i64 1] 224)) (by rw [zae,if_pos rfl])
 have y1:=zat hb0 y0
 have d05:=zat hb0 d5
 have d00:=zat hb0 d0
 have d01:=zat hb0 d1
 have d02:=zat hb0 d2
 have d03:=zat hb0 d3
 have HB:=Lib.hid hb0
 have hs0:=hb0.size
 clear hb0 y0 h
 go_enter Tryz.func322,Tryz.ntmps322
 go_upto_region 2 with (fail)
 generalize w.alloc (.cells #[.slice (some ⟨cb,co,none⟩) 1 sc,.int .i64 1] 224)=w0 at *
 generalize hbw:w.heap.size=bw at *
 have HBW:=Lib.hid hbw
 clear hbw z0 z1 d0 d1 d2 d3 d5
 go_wp2_with (first | (go_at_call 193;refine (W1 _).mono ?_;rintro e w' ⟨rfl,rfl⟩))
 go_loopw [36] (fun u36 wr=>ChaRel w0 bw u36 wr) (fun u36 _=>1 - (intOf u36).toNat)
 case atStart=>exact .inl ⟨rfl,rfl⟩
 case round =>
  rcases hrel with ⟨rfl,hw⟩ | ⟨rfl,hb⟩
  · replace hw:=hw.symm
    subst hw
    go_upto_region 8 with (fail)
    have CI:=fun W=>zcv (some ⟨cb,co,none⟩) 0 sc 0 [] s false rfl W (by decide) rfl (fun k u hk=>by simp [zai] at hk)
    go_upto_region 9 with (go_at_call 194;refine (CI _).mono ?_;rintro e w' ⟨rfl,rfl⟩)
    go_upto_region 10 with (fail)
    go_loopw [9,55] (fun u9 u55 wr=>u9=.bool false∧u55=.int .i64 0∧wr=w0) (fun _ _ _=>0)
    case atStart=>exact ⟨rfl,rfl,rfl⟩
    case round =>
     obtain ⟨rfl,rfl,hw⟩:=hrel
     replace hw:=hw.symm
     subst hw
     have HSE:=SE w0
     unfold zay at HSE
     clear CI W1 SE e1 d05 y1
     go_upto_region 14 with (fail)
     go_wp2_with (first | (go_at_call 324;refine HSE.mono ?_;rintro e w1 ⟨rfl,hb1⟩) | (go_at_call 115;refine (U1 _ _).mono ?_;rintro e w' ⟨rfl,rfl⟩) | (go_at_call 114;refine (F1 _).mono ?_;rintro e w' ⟨rfl,rfl⟩))
     go_roundw
     case rel=>exact .inr ⟨rfl,(hb1.mono hs0).alloc (Nat.le_trans hs0 hb1.size) _⟩
     case measure=>simp [intOf]
  · clear e0 e1 y1 d00 d01 d02 d03 d05 U1 F1 W1 SE
    go_wp2
    go_ret
    exact ⟨rfl,by rw [HBW.out];exact HB.out.trans hb⟩
end Go.Proofs.YtoodbfkbbchjiaaGreatDoor
