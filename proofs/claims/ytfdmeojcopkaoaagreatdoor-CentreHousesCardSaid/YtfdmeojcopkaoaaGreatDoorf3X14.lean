import Derived.Test.YtfdmeojcopkaoaaGreatDoorf3X10
import Derived.Shelf.Spec.SlicesGrow
set_option maxRecDepth 100000
set_option maxHeartbeats 16000000
namespace Go.Proofs.YtfdmeojcopkaoaaGreatDoor
open Go.RowKit
theorem eventErr0_ok (w:World) (p:PlantV) (a b:Int) (hs:secE p b=0) (ht:trnE p a=0) (h1:p.ss.n≤1000) (h2:p.ts.n≤1000) :
 Calls Tryz.prog 262 #[.agg (zan p).toArray,.agg #[.int .i64 0,.int .i64 a,.int .i64 b]] w (zax w 0):=by
 have k0:((w.alloc (.cells (zan p).toArray 26)).alloc (.cells #[.int .i64 0,.int .i64 a,.int .i64 b] 292)).heap[w.heap.size]?=some (.cells #[p.ss.v,p.ts.v,p.ws.v,p.rs.v] 26 (0,0)):=by
  rw [zae,if_neg (by simp),zae,if_pos rfl]
  rfl
 have k1:((w.alloc (.cells (zan p).toArray 26)).alloc (.cells #[.int .i64 0,.int .i64 a,.int .i64 b] 292)).heap[w.heap.size+1]?=some (.cells #[.int .i64 0,.int .i64 a,.int .i64 b] 292 (0,0)):=by
  rw [zae,if_pos (by simp)]
 have hb0:=hB2 w (.cells (zan p).toArray 26) (.cells #[.int .i64 0,.int .i64 a,.int .i64 b] 292)
 have hs0:=hS2 w (.cells (zan p).toArray 26) (.cells #[.int .i64 0,.int .i64 a,.int .i64 b] 292)
 have HB:=Lib.hid hb0
 have T1:=fun W=>trnE_any W p a h2
 rw [ht] at T1
 unfold zax at T1
 have U1:=fun e W=>zbp true e 0 rfl W
 obtain ⟨E5,hE5⟩:∃ E,zaf (b == 0) 3=E:=⟨_,rfl⟩
 have U5:=fun W=>zbp (b == 0) 3 E5 hE5 W
 have K1:=fun W=>zjz 0 true rfl W
 have S1:=fun W=>secE_any W p b h1
 rw [hs] at S1
 unfold zax at S1
 clear hb0 ht hE5 hs h1 h2
 go_enter Tryz.func262,Tryz.ntmps262
 go_upto_region 1 with (fail)
 generalize (w.alloc (.cells (zan p).toArray 26)).alloc (.cells #[.int .i64 0,.int .i64 a,.int .i64 b] 292)=w0 at *
 generalize hbw:w.heap.size=bw at *
 have HBW:=Lib.hid hbw
 clear hbw
 obtain ⟨a0,a1,a2,a3⟩:_∧_∧_∧_:=za9 k0
 obtain ⟨b0,b1,b2⟩:_∧_∧_:=zbc k1
 simp only [SlV.v] at a0 a1 a2 a3
 clear k0 k1
 generalize hB5:(b == 0)=B5 at *
 go_upto_region 6 with (first | (go_at_call 317;refine (K1 _).mono ?_;rintro e w' ⟨rfl,rfl⟩) | (rw [hB5];go_at_call 52;refine (U5 _).mono ?_;rintro e w' ⟨rfl,rfl⟩) | (go_at_call 52;refine (U5 _).mono ?_;rintro e w' ⟨rfl,rfl⟩))
 clear U5 K1 hB5
 go_upto_region 11 with (go_at_call 318;refine (S1 _).mono ?_;rintro e w1 ⟨rfl,hb1⟩)
 replace a0:=zas hb1 a0
 replace a1:=zas hb1 a1
 replace a2:=zas hb1 a2
 replace a3:=zas hb1 a3
 replace b1:=zas hb1 b1
 replace HB:=Lib.hid (HB.out.trans (hb1.mono (by omega)))
 have hs1:=Nat.le_trans hs0 hb1.size
 clear b0 b2 hb1
 go_wp2_with (first | (go_at_call 319;refine (T1 _).mono ?_;rintro e w2 ⟨rfl,hb2⟩) | (go_at_call 51;refine (zgl _).mono ?_;rintro e w' ⟨rfl,rfl⟩))
 go_ret
 exact ⟨rfl,by rw [HBW.out];exact (HB.out.trans (hb2.mono (by omega))).alloc (by have:=hb2.size;omega) _⟩
theorem eventErr1_ok (w:World) (p:PlantV) (a b:Int) (hs:zai b 0 ((p.rs.n:Int) - 1)=true) (hr:p.rs.n≤1000) (ht:trnE p a=0) (h2:p.ts.n≤1000) :
 Calls Tryz.prog 262 #[.agg (zan p).toArray,.agg #[.int .i64 1,.int .i64 a,.int .i64 b]] w (zax w 0):=by
 have k0:((w.alloc (.cells (zan p).toArray 26)).alloc (.cells #[.int .i64 1,.int .i64 a,.int .i64 b] 292)).heap[w.heap.size]?=some (.cells #[p.ss.v,p.ts.v,p.ws.v,p.rs.v] 26 (0,0)):=by
  rw [zae,if_neg (by simp),zae,if_pos rfl]
  rfl
 have k1:((w.alloc (.cells (zan p).toArray 26)).alloc (.cells #[.int .i64 1,.int .i64 a,.int .i64 b] 292)).heap[w.heap.size+1]?=some (.cells #[.int .i64 1,.int .i64 a,.int .i64 b] 292 (0,0)):=by
  rw [zae,if_pos (by simp)]
 have hb0:=hB2 w (.cells (zan p).toArray 26) (.cells #[.int .i64 1,.int .i64 a,.int .i64 b] 292)
 have hs0:=hS2 w (.cells (zan p).toArray 26) (.cells #[.int .i64 1,.int .i64 a,.int .i64 b] 292)
 have HB:=Lib.hid hb0
 have T1:=fun W=>trnE_any W p a h2
 rw [ht] at T1
 unfold zax at T1
 have U1:=fun e W=>zbp true e 0 rfl W
 obtain ⟨E5,hE5⟩:∃ E,zaf (b == 0) 3=E:=⟨_,rfl⟩
 have U5:=fun W=>zbp (b == 0) 3 E5 hE5 W
 have K1:=fun W=>zjz 1 true rfl W
 have W1:=fun W=>zb1 b 0 ((p.rs.n:Int) - 1) true hs W
 clear hb0 ht hE5 hs h2
 go_enter Tryz.func262,Tryz.ntmps262
 go_upto_region 1 with (fail)
 generalize (w.alloc (.cells (zan p).toArray 26)).alloc (.cells #[.int .i64 1,.int .i64 a,.int .i64 b] 292)=w0 at *
 generalize hbw:w.heap.size=bw at *
 have HBW:=Lib.hid hbw
 clear hbw
 obtain ⟨a0,a1,a2,a3⟩:_∧_∧_∧_:=za9 k0
 obtain ⟨b0,b1,b2⟩:_∧_∧_:=zbc k1
 simp only [SlV.v] at a0 a1 a2 a3
 clear k0 k1
 generalize hB5:(b == 0)=B5 at *
 go_upto_region 6 with (first | (go_at_call 317;refine (K1 _).mono ?_;rintro e w' ⟨rfl,rfl⟩) | (rw [hB5];go_at_call 52;refine (U5 _).mono ?_;rintro e w' ⟨rfl,rfl⟩) | (go_at_call 52;refine (U5 _).mono ?_;rintro e w' ⟨rfl,rfl⟩))
 clear U5 K1 hB5
 go_upto_region 11 with (first | (go_at_call 120;refine (W1 _).mono ?_;rintro e w' ⟨rfl,rfl⟩) | (go_at_call 52;refine (U1 _ _).mono ?_;rintro e w' ⟨rfl,rfl⟩))
 have hs1:=hs0
 clear b0 b2
 go_wp2_with (first | (go_at_call 319;refine (T1 _).mono ?_;rintro e w2 ⟨rfl,hb2⟩) | (go_at_call 51;refine (zgl _).mono ?_;rintro e w' ⟨rfl,rfl⟩))
 go_ret
 exact ⟨rfl,by rw [HBW.out];exact (HB.out.trans (hb2.mono (by omega))).alloc (by have:=hb2.size;omega) _⟩
end Go.Proofs.YtfdmeojcopkaoaaGreatDoor
namespace Go.Proofs.YtfdmeojcopkaoaaGreatDoor
open Go.RowKit
theorem CloneLt_any (w:World) (B:Nat) (bb off n c:Nat) (l:List LtV) (hl:l.length=n) (hn:n≤100000) (h:Rd w B (some ⟨bb,off,none⟩) (zbo l)) (hB:B≤w.heap.size) :
 Calls Tryz.prog 361 #[.slice (some ⟨bb,off,none⟩) n c] w (zew w 219 2 (zbo l) n):=by
 obtain ⟨i1,hi1,hy0,hy1,hy2⟩:=info_parts zk0
 have HL:=Lib.hid hl
 have h':=h.below (((Below.refl _ _).alloc (Nat.le_refl _) (.cells #[] 219):Below w.heap.size w (w.alloc (.cells #[] 219))).mono hB)
 have hb0:=hB1 w (.cells #[] 219)
 clear hl
 go_enter Tryz.func361,Tryz.ntmps361
 go_wp2
 rw [Lib.run_eql_slice_nil w 131 219 _ _ _ _ _ Tryz.underlying131]
 simp only [Result.andThen,Option.isNone_some]
 rw [Oper.upon_value]
 go_wp2_with (at_builtin;refine stp ?_)
 unfold Stp
 refine zbb _ rfl _ _ 131 rfl w.heap.size 219 i1 _ 2 32 Tryz.underlying131 hi1 hy0 hy1 hy2 rfl (by omega) w.heap.size rfl (by rw [zae,if_pos rfl]) (Nat.le_refl _) B (some ⟨bb,off,none⟩) n c (zbo l) rfl (by rw [ltCells_len,HL.out]) h' (zd8 ltVals_one _) (by simp only [maxLen];omega) (by omega) (by simp) ?_
 intro g cap w1 hown hgrow _
 have hb1:Below w.heap.size w w1:=hb0.grown hgrow (by simp) (fun k hk=>by rw [← Option.some.inj hk];exact Nat.le_refl _)
 have HR:=Lib.hid hown
 have hcap:=zbn hown
 have HB:=Lib.hid hb1
 clear hown hgrow hb0 hb1 h h'
 go_wp2
 go_ret
 exact ⟨_,_,rfl,hcap,HR.out,HB.out⟩
theorem lt_set0 {w:World} {B g n c:Nat} {l:List LtV} {x:LtV} (h:w.ownsRow B 219 2 (.slice (some ⟨g,0,none⟩) n c) n (zbo (x :: l))) (t:LtV) :
 Rd ((w.setCell ⟨g,0,none⟩ (.slice t.s.A t.s.n t.s.c)).setCell ⟨g,1,none⟩ (.int .i64 t.under)) w.heap.size (some ⟨g,0,none⟩) (zbo (t :: l)):=by
 have hr:=zbe h
 have c0:=zbz hr (k:=0) (u:=x.s.v) rfl
 have c1:=zbz hr (k:=1) (u:=.int .i64 x.under) rfl
 have hg:g<w.heap.size:=zfl c0
 rw [Nat.zero_add] at c0 c1
 intro k u hk
 refine ⟨g,0,rfl,hg,?_⟩
 rw [Nat.zero_add]
 have hne:((⟨g,0,none⟩:Addr)≠⟨g,1,none⟩):=fun he=>by cases he
 match k,hk with
 | 0,hk =>
  rw [World.cell?_setCell_other _ _ _ _ hne.symm,World.cell?_setCell_same _ _ _ c0]
  simpa [zbo,zgk,SlV.v] using hk
 | 1,hk =>
  rw [World.cell?_setCell_same _ _ _ ((World.cell?_setCell_other _ _ _ _ hne).trans c1)]
  simpa [zbo,zgk,SlV.v] using hk
 | k+2,hk =>
  rw [World.cell?_setCell_other _ _ _ _ (fun he=>by have:1=k+2:=congrArg Addr.off he;omega),World.cell?_setCell_other _ _ _ _ (fun he=>by have:0=k+2:=congrArg Addr.off he;omega)]
  have h9:=zbz hr (k:=k+2) (u:=u) (by simpa [zbo,zgk] using hk)
  rwa [Nat.zero_add] at h9
theorem own_at {w:World} {B e size n c:Nat} {A:Option Addr} {xs:List Value} (h:w.ownsRow B e size (.slice A n c) n xs) (hn:0<n):∃ g cur,A=some ⟨g,0,none⟩∧B≤g∧w.heap[g]?=some (.cells cur e (0,0)):=by
 rcases h.2 with ⟨_,h2⟩ | ⟨g,cap,cur,h1,h2,h3,_⟩
 · omega
 · simp only [Value.slice.injEq] at h1
   exact ⟨g,cur,h1.1,h2,h3⟩
def ze4 (q:LsV) (A:Option Addr) (c:Nat) (t:LtV):LsV:=⟨q.sw,q.sws,⟨A,q.tr.n,c⟩,t :: q.trs.tail,q.ctr⟩
def NextPost (w:World) (p:PlantV) (q:LsV) (t:LtV) (e:Ending) (w':World):Prop:=
 ∃ b A c,e=.returned (.pointer (some ⟨b,0,none⟩))∧w.heap.size≤b∧LnAt w' w'.heap.size b p (ze4 q A c t)∧Below w.heap.size w w'
theorem next_ok (w:World) (B b:Nat) (p:PlantV) (q:LsV) (t:LtV) (h:LnAt w B b p q) (hn:0<q.tr.n) (hn2:q.tr.n≤1000) (ht:zcs w w.heap.size t.s t.chain.length (zah t.chain)) (htc:t.s.n≤t.s.c) (hB:B≤w.heap.size) :
 Calls Tryz.prog 321 #[.pointer (some ⟨b,0,none⟩),.int .i64 0,t.s.v,.int .i64 t.under] w (NextPost w p q t):=by
 obtain ⟨x,hx⟩:∃ x,q.trs[0]?=some x:=⟨_,List.getElem?_eq_getElem (by rw [h.st.trs.1];exact hn)⟩
 obtain ⟨bb,off,hA,hbB,z0,z1⟩:=Rd.lt h.st.trs.2 hx
 have hk:=h.blk
 simp only [SlV.v,hA] at hk
 have HH:=Lib.hid h
 have HT:=Lib.hid ht
 have HX:=Lib.hid hx
 have HAA:=Lib.hid hA
 obtain ⟨⟨tA,tn,tc⟩,ch,un⟩:=t
 show Calls Tryz.prog 321 #[.pointer (some ⟨b,0,none⟩),.int .i64 0,.slice tA tn tc,.int .i64 un] w _
 clear z0 z1 h ht hx
 go_enter Tryz.func321,Tryz.ntmps321
 go_upto_region 1 with (fail)
 have hb3:=fun y:Xt w=>(y.2.block b (lt_of_block hk)).trans hk
 obtain ⟨d0,d1,d2,d3,d4,d5,d6⟩:_∧_∧_∧_∧_∧_∧_:=zdb hk
 have x0:=fun y:Xt w=>y.cell d0
 have x1:=fun y:Xt w=>y.cell d1
 have x2:=fun y:Xt w=>y.cell d2
 have x3:=fun y:Xt w=>y.cell d3
 have x4:=fun y:Xt w=>y.cell d4
 have x5:=fun y:Xt w=>y.cell d5
 have x6:=fun y:Xt w=>y.cell d6
 clear d0 d1 d2 d3 d4 d5 d6 hb3
 refine zaw [] [0,1,2,3,4,5,6,7,8] 9 [10] (fun w'=>∃ y:Xt w,w'=y.1) (by as_aux_lemma=>kernel_rfl) (by as_aux_lemma=>kernel_rfl) ⟨⟨w.drew,(Below.refl _ _).drew⟩,rfl⟩ ?_
 simp only [zad,zac,zaa,zX1,zX2,zX3]
 refine wpQuiet_nil ?_
 show wpQuiet _ _ _ _ _ _
 repeat (go_big_quiet_step (fail))
 refine wpQuiet_nil ?_
 intro wb hy
 have hb3:=Xt.below hy
 clear x0 x1 x2 x3 x4 x5 x6 hy
 go_upto_region 2 with (fail)
 refine zab ?_
 have hbn:=hB1 wb (.cells #[.slice p.ss.A p.ss.n p.ss.c,.slice p.ts.A p.ts.n p.ts.c,.slice p.ws.A p.ws.n p.ws.c,.slice p.rs.A p.rs.n p.rs.c,.slice q.sw.A q.sw.n q.sw.c,.slice (some ⟨bb,off,none⟩) q.tr.n q.tr.c,.int .i64 q.ctr] 427)
 have k1:=hA1 wb (.cells #[.slice p.ss.A p.ss.n p.ss.c,.slice p.ts.A p.ts.n p.ts.c,.slice p.ws.A p.ws.n p.ws.c,.slice p.rs.A p.rs.n p.rs.c,.slice q.sw.A q.sw.n q.sw.c,.slice (some ⟨bb,off,none⟩) q.tr.n q.tr.c,.int .i64 q.ctr] 427)
 have hlt1:=lt_of_block k1
 have hs1:=hb3.size
 have HB1:=Lib.hid (hb3.trans (hbn.mono hs1))
 generalize wb.alloc (.cells #[.slice p.ss.A p.ss.n p.ss.c,.slice p.ts.A p.ts.n p.ts.c,.slice p.ws.A p.ws.n p.ws.c,.slice p.rs.A p.rs.n p.rs.c,.slice q.sw.A q.sw.n q.sw.c,.slice (some ⟨bb,off,none⟩) q.tr.n q.tr.c,.int .i64 q.ctr] 427)=w1 at *
 generalize wb.heap.size=y1 at *
 have hrd:=(HH.out.keep HB1.out).st.trs.2
 rw [HAA.out] at hrd
 have CL:=CloneLt_any w1 B bb off q.tr.n q.tr.c q.trs HH.out.st.trs.1 (by omega) hrd (by have:=HB1.out.size;omega)
 have hlk:=hk
 clear hk hbn hb3 hA hrd
 obtain ⟨d0,d1,d2,d3,d4,d5,d6⟩:_∧_∧_∧_∧_∧_∧_:=zdb (blk HB1.out hlk)
 clear d0 d1 d2 d3 d4 d6
 have HK1:=Lib.hid k1
 clear k1 hlk
 go_upto_region 3 with (go_at_call 361;refine CL.mono ?_;rintro e w2 ⟨A',c',rfl,hnc,hown,hb2⟩;have k2:=blk hb2 HK1.out;have f5:=frozen_of_row w2 y1 5 _ _ k2;have c5:=(cell_of_row w2 y1 5 _ _ _ k2).trans (by rfl:_=some (.slice (some ⟨bb,off,none⟩) q.tr.n q.tr.c)))
 have hnc9:=hnc
 clear CL d5 hnc
 obtain ⟨g,cur,rfl,hg,hcur⟩:=own_at hown hn
 have k3:(w2.setCell ⟨y1,5,none⟩ (.slice (some ⟨g,0,none⟩) q.tr.n c')).heap[y1]?=some (.cells #[.slice p.ss.A p.ss.n p.ss.c,.slice p.ts.A p.ts.n p.ts.c,.slice p.ws.A p.ws.n p.ws.c,.slice p.rs.A p.rs.n p.rs.c,.slice q.sw.A q.sw.n q.sw.c,.slice (some ⟨g,0,none⟩) q.tr.n c',.int .i64 q.ctr] 427 (0,0)):=by
  rw [zd0,if_pos rfl,k2]
  rfl
 have hy1:∀ k,(Value.slice (some ⟨g,0,none⟩) q.tr.n c').ownBlock=some k→k≠y1:=fun k hk=>by
  have:k=g:=(Option.some.inj hk).symm
  omega
 have hown3:(w2.setCell ⟨y1,5,none⟩ (.slice (some ⟨g,0,none⟩) q.tr.n c')).ownsRow w1.heap.size 219 2 (.slice (some ⟨g,0,none⟩) q.tr.n c') q.tr.n (zbo q.trs):=zbx hown hy1
 have HB3:Hid (Below w.heap.size w (w2.setCell ⟨y1,5,none⟩ (.slice (some ⟨g,0,none⟩) q.tr.n c'))):=(HB1.out.trans (hb2.mono (by omega))).setCell hs1 _
 clear k2 f5 c5 hown hb2 hy1 HK1 hcur
 generalize w2.setCell ⟨y1,5,none⟩ (.slice (some ⟨g,0,none⟩) q.tr.n c')=w3 at *
 obtain ⟨_,cur,hgg,_,hcur⟩:=own_at hown3 hn
 obtain rfl:=(congrArg (fun o=>(o.getD ⟨0,0,none⟩).block) hgg:g=_)
 clear hgg
 obtain ⟨d0,d1,d2,d3,d4,d5,d6⟩:_∧_∧_∧_∧_∧_∧_:=zdb k3
 clear d0 d1 d2 d3 d4 d6
 obtain ⟨x1,rest,hq⟩:∃ x1 rest,q.trs=x1 :: rest:=by
  have:=HX.out
  cases h9:q.trs with
  | nil=>rw [h9] at this;cases this
  | cons x1 rest=>exact ⟨x1,rest,rfl⟩
 rw [hq] at hown3
 have c0:=zbz (zbe hown3) (k:=0) (u:=x1.s.v) rfl
 have c1:=zbz (zbe hown3) (k:=1) (u:=.int .i64 x1.under) rfl
 rw [Nat.zero_add] at c0 c1
 have f0:=frozen_of_row w3 g 0 _ _ hcur
 have f1:=frozen_of_row w3 g 1 _ _ hcur
 have HS:=Lib.hid (lt_set0 hown3 ⟨⟨tA,tn,tc⟩,ch,un⟩)
 have HB4:Hid (Below w.heap.size w ((w3.setCell ⟨g,0,none⟩ (.slice tA tn tc)).setCell ⟨g,1,none⟩ (.int .i64 un))):=(HB3.out.setCell (p:=⟨g,0,none⟩) (by show w.heap.size≤g;omega) _).setCell (p:=⟨g,1,none⟩) (by show w.heap.size≤g;omega) _
 have HK4:Hid (((w3.setCell ⟨g,0,none⟩ (.slice tA tn tc)).setCell ⟨g,1,none⟩ (.int .i64 un)).heap[y1]?=some (.cells #[.slice p.ss.A p.ss.n p.ss.c,.slice p.ts.A p.ts.n p.ts.c,.slice p.ws.A p.ws.n p.ws.c,.slice p.rs.A p.rs.n p.rs.c,.slice q.sw.A q.sw.n q.sw.c,.slice (some ⟨g,0,none⟩) q.tr.n c',.int .i64 q.ctr] 427 (0,0))):=
  zdm (zdm k3 (by omega) _ _) (by omega) _ _
 have HQ:=Lib.hid hq
 have HSZ:Hid (((w3.setCell ⟨g,0,none⟩ (.slice tA tn tc)).setCell ⟨g,1,none⟩ (.int .i64 un)).heap.size=w3.heap.size):=by simp [Hid]
 clear hq hown3 k3 hcur
 go_wp2
 go_ret
 have hsz:=HB4.out.size
 refine ⟨y1,some ⟨g,0,none⟩,c',rfl,hs1,⟨HK4.out,(HH.out.plant.keep HB4.out).mono (by omega),⟨((HH.out.st.sws.keep HB4.out).mono (by omega)),⟨?_,?_⟩,?_,?_⟩⟩,HB4.out⟩
 · have:=HH.out.st.trs.1
   simp only [ze4,List.length_cons,List.length_tail]
   omega
 · have h9:=HS.out
   rw [← HSZ.out] at h9
   simpa [ze4,HQ.out] using h9
 · intro t ht
   simp only [ze4,List.mem_cons] at ht
   rcases ht with rfl | ht
   · exact (HT.out.keep HB4.out).mono hsz
   · exact ((HH.out.st.t t (List.mem_of_mem_tail ht)).keep HB4.out).mono (by omega)
 · refine ⟨HH.out.st.cap.1,hnc9,fun t ht=>?_⟩
   simp only [ze4,List.mem_cons] at ht
   rcases ht with rfl | ht
   · exact htc
   · exact HH.out.st.cap.2.2 t (List.mem_of_mem_tail ht)
end Go.Proofs.YtfdmeojcopkaoaaGreatDoor
namespace Go.Proofs.YtfdmeojcopkaoaaGreatDoor
open Go.RowKit
theorem row_of {w:World} {t size n:Nat} {xs:List Value} {v:Value} {e:Ending} {w':World} (he:e=.returned v) (ho:w'.ownsRow w.heap.size t size v n xs) (hb:Below w.heap.size w w'):zew w t size xs n e w':=by
 obtain ⟨A,c,rfl⟩:=zco ho
 exact ⟨A,c,he,zbn ho,ho,hb⟩
theorem zj8 (w:World) (B:Nat) (A:Option Addr) (n c:Nat) (l:List Int) (hl:l.length=n) (hn:n≤100000) (h:Rd w B A (zah l)):Calls Tryz.prog 285 #[.slice A n c] w (zew w 3 1 (zah l) n):=by
 subst hl
 cases l with
 | nil =>
  cases A with
  | none=>exact (Tryz.slices_Clone_int_nil 0 c w).mono fun e w' ⟨he,hw⟩=>row_of he ⟨rfl,.inl ⟨rfl,rfl⟩⟩ (hw ▸ Below.refl _ _)
  | some a=>exact (Tryz.slices_Clone_int_zero a c w).mono fun e w' ⟨v,he,ho,_,hb⟩=>row_of he ho hb
 | cons x l =>
  obtain ⟨b,off,rfl,hb,_⟩:=h.at_ (k:=0) (u:=.int .i64 x) rfl
  refine (Tryz.slices_Clone_int b off (x :: l).length c (x :: l) w (Nat.le_refl _) (by omega) (fun j hj=>?_)).mono fun e w' ⟨v,he,ho,_,hb⟩=>row_of he ?_ hb
  · refine zbz h ?_
    rw [zah,List.getElem?_map,List.getElem?_eq_getElem hj,List.getD_eq_getElem?_getD,List.getElem?_eq_getElem hj]
    rfl
  · have h9:=ho
    rw [List.take_of_length_le (Nat.le_refl _)] at h9
    exact h9
def LiRel (w0:World) (n:Nat) (u:Value) (wr:World):Prop:=∃ k:Nat,k≤n∧u=.int .i64 k∧Below w0.heap.size w0 wr
def LiesOk (p:PlantV) (q:LsV) (r:RtV) (secs:List Int):Prop:=∀ (i:Nat) (x:Sw),p.sws[i]?=some x→zep secs x.2=true→∃ v,r.needs[i]?=some v∧q.sws[i]?=some v
theorem lies_ok (w:World) (B b:Nat) (p:PlantV) (q:LsV) (r:RtV) (A:Option Addr) (n c:Nat) (secs:List Int) (h:LnAt w B b p q) (hd:zcs w B r.d r.needs.length (zah r.needs)) (hs:Rd w B A (zah secs)) (hl:secs.length=n) (hn:n≤1000) (hp:p.ws.n≤1000)
 (hO:LiesOk p q r secs) :
 Calls Tryz.prog 322 #[.pointer (some ⟨b,0,none⟩),.agg #[.string r.nm,.slice r.s.A r.s.n r.s.c,.slice r.d.A r.d.n r.d.c],.slice A n c] w fun e w'=>e=.returned (.bool true)∧Below w.heap.size w w':=by
 have hb0:=hB1 w (.cells #[.string r.nm,.slice r.s.A r.s.n r.s.c,.slice r.d.A r.d.n r.d.c] 70)
 have k0:=hA1 w (.cells #[.string r.nm,.slice r.s.A r.s.n r.s.c,.slice r.d.A r.d.n r.d.c] 70)
 have HH:=Lib.hid (h.keep hb0)
 have HD:=Lib.hid (hd.keep hb0)
 have HS:=Lib.hid (hs.keep hb0)
 have HL:=Lib.hid hl
 have HOO:=Lib.hid hO
 have HB:=Lib.hid hb0
 have hs0:=hb0.size
 have hlen:=h.plant.sws.1
 have hk:=HH.out.blk
 clear hb0 h hd hs hl hO
 go_enter Tryz.func322,Tryz.ntmps322
 go_upto_region 1 with (fail)
 generalize w.alloc (.cells #[.string r.nm,.slice r.s.A r.s.n r.s.c,.slice r.d.A r.d.n r.d.c] 70)=w0 at *
 generalize hbw:w.heap.size=bw at *
 have HBW:=Lib.hid hbw
 have HLEN:=Lib.hid hlen
 have HK0:=Lib.hid k0
 clear hbw hlen k0
 obtain ⟨d0,d1,d2,d3,d4,d5,d6⟩:_∧_∧_∧_∧_∧_∧_:=zdb hk
 simp only [SlV.v] at d2
 clear d0 d1 d3 d4 d5 d6 hk
 obtain ⟨Aw,hAw⟩:∃ A,p.ws.A=A:=⟨_,rfl⟩
 rw [hAw] at d2
 have HAW:=Lib.hid hAw
 clear hAw
 go_wp2
 go_loopw [15] (fun u15 wr=>LiRel w0 p.ws.n u15 wr) (fun u15 _=>p.ws.n - (intOf u15).toNat)
 case atStart=>exact ⟨0,Nat.zero_le _,rfl,Below.refl _ _⟩
 case round =>
  clear d2
  obtain ⟨k,hk,rfl,hb⟩:=hrel
  by_cases hlt:k<p.ws.n
  · obtain ⟨x,hx⟩:∃ x,p.sws[k]?=some x:=⟨_,List.getElem?_eq_getElem (by rw [HLEN.out];exact hlt)⟩
    obtain ⟨nm,sc⟩:=x
    obtain ⟨sb,so,hA,hsb,z0,z1⟩:=Rd.sw (HH.out.keep hb).plant.sws.2 hx
    obtain rfl:Aw=some ⟨sb,so,none⟩:=HAW.out.symm.trans hA
    have HHW:=Lib.hid (HH.out.keep hb)
    have HBL:=Lib.hid hb
    have hb5:=hB1 wr (.cells #[.string nm,.int .i64 sc] 68)
    obtain ⟨e0,e1⟩:_∧_:=zay (W:=wr.alloc (.cells #[.string nm,.int .i64 sc] 68)) (by rw [zae,if_pos rfl])
    have HB5:=Lib.hid (hb.trans (hb5.mono hb.size))
    have hsr:=hb5.size
    have HX:=Lib.hid hx
    clear hb hb5 hA hx
    go_upto_region 4 with (fail)
    clear z0 z1
    generalize wr.alloc (.cells #[.string nm,.int .i64 sc] 68)=w5 at *
    generalize wr.heap.size=z5 at *
    have CC:=fun y:Xt w5=>zcu A n c B secs sc _ rfl y.1 (by omega) HL.out ((HS.out.keep HB5.out).keep y.2)
    have x1:=fun y:Xt w5=>y.cell e1
    refine zaj [19] (fun w'=>∃ y:Xt w5,w'=y.1) (by kernel_rfl) ⟨⟨w5.drew,(Below.refl _ _).drew⟩,rfl⟩ ?_
    refine zdv [0,1,2] 17 rfl (by kernel_rfl) ?_
    simp only [zad,zac,zaa,zX1,zX2,zX3]
    repeat (go_big_quiet_step (fail))
    refine wpQuiet_nil ?_
    have hb3:Below w5.heap.size w5 w5.drew:=(Below.refl _ _).drew
    replace CC:=CC ⟨w5.drew,hb3⟩
    show wpE _ _ _ _ _ _ _ _ _ w5.drew
    generalize hwb:w5.drew=wb at *
    clear x1 e0 e1 hwb
    refine zak (i:=3) rfl (by kernel_rfl) rfl ?_
    unfold zap
    simp only [zad,zac,zaa,zX1,zX2,zX3]
    cases hV:zep secs sc with
    | false =>
     rw [hV] at CC
     have HB7:=Lib.hid (HB5.out.trans (hb3.mono HB5.out.size))
     clear hV
     go_wp2_with (go_at_call 121;refine CC.mono ?_;rintro e w' ⟨rfl,rfl⟩)
     refine zab ⟨⟨⟨_,hb3⟩,rfl⟩,?_⟩
     refine zak (i:=4) rfl (by kernel_rfl) rfl ?_
     unfold zap
     simp only [zad,zac,zaa,zX1,zX2,zX3]
     go_wp2
     refine zab ⟨⟨⟨_,hb3⟩,rfl⟩,?_⟩
     refine zao [5,6,7,8,9,10,11,12,13,14,15,16,17,18] 1 rfl (by kernel_rfl) ?_
     simp only [zad,zac,zaa,zX1,zX2,zX3]
     repeat (go_big_quiet_step (fail))
     refine wpQuiet_nil ?_
     refine zau rfl (by kernel_rfl) ?_
     simp only [zad,zac,zaa,zX1,zX2,zX3]
     clear hb3
     go_wp2
     refine zab ?_
     go_wp2
     go_roundw
     case rel=>exact ⟨k+1,by omega,by go_num,HB7.out⟩
     case measure=>simp [intOf];omega
    | true =>
     rw [hV] at CC
     obtain ⟨v,hv1,hv2⟩:=HOO.out k (nm,sc) HX.out hV
     obtain ⟨nb,no,hdA,_,n0⟩:=(HD.out.keep HB5.out).2.at_ (k:=k) (u:=.int .i64 v) (by simp only [zah,List.getElem?_map,hv1,Option.map_some])
     obtain ⟨qb,qo,hqA,_,s0⟩:=(HH.out.keep HB5.out).st.sws.2.at_ (k:=k) (u:=.int .i64 v) (by simp only [zah,List.getElem?_map,hv2,Option.map_some])
     have hkd:k<r.d.n:=by rw [← HD.out.1];exact (List.getElem?_eq_some_iff.1 hv1).1
     have hkq:k<q.sw.n:=by rw [← HH.out.st.sws.1];exact (List.getElem?_eq_some_iff.1 hv2).1
     obtain ⟨_,_,f2⟩:_∧_∧_:=zbc (blk HB5.out HK0.out)
     obtain ⟨_,_,_,_,g4,_,_⟩:_∧_∧_∧_∧_∧_∧_:=zdb (HH.out.keep HB5.out).blk
     obtain ⟨dn,hdn⟩:∃ m,r.d.n=m:=⟨_,rfl⟩
     obtain ⟨qn,hqn⟩:∃ m,q.sw.n=m:=⟨_,rfl⟩
     simp only [hdA,hdn] at f2
     simp only [SlV.v,hqA,hqn] at g4
     rw [hdn] at hkd
     rw [hqn] at hkq
     clear hdn hqn
     have y0:=fun y:Xt w5=>y.cell n0
     have y1:=fun y:Xt w5=>y.cell s0
     have y2:=fun y:Xt w5=>y.cell f2
     have y3:=fun y:Xt w5=>y.cell g4
     have HB7:=Lib.hid (HB5.out.trans (hb3.mono HB5.out.size))
     clear hV n0 s0 f2 g4 hv1 hv2 hdA hqA
     go_wp2_with (go_at_call 121;refine CC.mono ?_;rintro e w' ⟨rfl,rfl⟩)
     refine zab ⟨⟨⟨_,hb3⟩,rfl⟩,?_⟩
     refine zak (i:=4) rfl (by kernel_rfl) rfl ?_
     unfold zap
     simp only [zad,zac,zaa,zX1,zX2,zX3]
     go_wp2
     refine zab ⟨⟨⟨_,hb3⟩,rfl⟩,?_⟩
     refine zao [5,6,7,8,9,10,11,12,13,14,15,16,17,18] 1 rfl (by kernel_rfl) ?_
     simp only [zad,zac,zaa,zX1,zX2,zX3]
     repeat (go_big_quiet_step (fail))
     refine wpQuiet_nil ?_
     refine zau rfl (by kernel_rfl) ?_
     simp only [zad,zac,zaa,zX1,zX2,zX3]
     clear hb3 y0 y1 y2 y3
     go_wp2
     refine zab ?_
     go_wp2
     go_roundw
     case rel=>exact ⟨k+1,by omega,by go_num,HB7.out⟩
     case measure=>simp [intOf];omega
  · have HB7:=Lib.hid (HB.out.trans (hb.mono hs0))
    clear hb
    go_wp2
    go_ret
    exact ⟨rfl,by rw [HBW.out];exact HB7.out⟩
end Go.Proofs.YtfdmeojcopkaoaaGreatDoor
namespace Go.Proofs.YtfdmeojcopkaoaaGreatDoor
open Go.RowKit
def grow362_ren:Go.Shelf.Ren:=⟨fun | 4=>362 | n=>n,fun | 0=>0 | 3=>3 | 4=>4 | 9=>9 | 20=>20 | 22=>32 | 25=>3 | n=>n,fun | n=>n⟩
theorem grow362:Go.Proofs.Lays8.n4 Tryz.prog grow362_ren:={
 mixed:=by kernel_rfl
 f4:=⟨Tryz.f362.name,by decide,Tryz.func362.trans (congrArg some (by kernel_rfl))⟩
 t0:=Tryz.underlying0
 a0:=Tryz.isAgg0
 z0:=Tryz.sizeOf0
 v0:=Tryz.zeroValue0
 t3:=Tryz.underlying3
 a3:=Tryz.isAgg3
 z3:=Tryz.sizeOf3
 v3:=Tryz.zeroValue3
 t4:=Tryz.underlying4
 a4:=Tryz.isAgg4
 z4:=Tryz.sizeOf4
 v4:=Tryz.zeroValue4
 t9:=Tryz.underlying9
 a9:=Tryz.isAgg9
 z9:=Tryz.sizeOf9
 v9:=Tryz.zeroValue9
 t20:=Tryz.underlying20
 a20:=Tryz.isAgg20
 z20:=Tryz.sizeOf20
 v20:=Tryz.zeroValue20
 t22:=Tryz.underlying32
 a22:=Tryz.isAgg32
 z22:=Tryz.sizeOf32
 v22:=Tryz.zeroValue32 }
theorem Grow_nil (n:Nat) (hn:0<n) (hn2:n≤100000) (w:World):Calls Tryz.prog 362 #[.slice none 0 0,.int .i64 n] w fun e w' =>
 ∃ g cap,e=.returned (.slice (some ⟨g,0,none⟩) 0 cap)∧w'.ownsRow w.heap.size 3 1 (.slice (some ⟨g,0,none⟩) 0 cap) 0 []∧Below w.heap.size w w':=by
 obtain ⟨i1,hi1,hy0,hy1,hy2⟩:=info_parts zhn
 refine (Any8.slices_Grow_grow grow362 i1 (.int .i64 0) hi1 hy0 (by omega) none 0 0 n [] w (Nat.le_refl _) (by omega) (by rw [hy2];omega) (by omega) (by simp) (fun _=>rfl) (fun a h=>by cases h)).mono fun e w' ⟨he,hw⟩=>⟨_,_,he,?_,?_⟩
 · rw [hw]
   have hX:∀ C:Array Value,(w.drew.alloc (.cells C 3)).heap[w.heap.size]?=some (.cells C 3 (0,0)):=fun C=>by
    show (w.drew.alloc (.cells C 3)).heap[w.drew.heap.size]?=_
    rw [zae,if_pos rfl]
   have h9:=grownCap_ge w (0+n) 0 3
   refine ⟨rfl,.inr ⟨w.heap.size,_,_,rfl,Nat.le_refl _,hX _,Nat.zero_le _,grownCap_le_maxLen w _ _ _ (by unfold maxLen;omega),?_,by simp⟩⟩
   simp only [Builtin.zeroCells,Array.size_append,Array.size_map,Array.size_range,Value.cells,Array.size_empty]
   show 0+(0+n - 0) * 1+(grownCap w (0+n) 0 3 - (0+n)) * 1=grownCap w (0+n) 0 3 * 1
   omega
 · rw [hw]
   exact ((Below.refl _ _).drew).alloc (show w.heap.size≤w.drew.heap.size from Nat.le_refl _) _
def CcRel (w0:World) (n1 n2:Nat) (u3 u11:Value) (wr:World):Prop:=
 wr=w0∧((u11=.int .i64 0∧u3=.int .i64 0)∨(u11=.int .i64 1∧u3=.int .i64 n1)∨(u11=.int .i64 2∧u3=.int .i64 (n1+n2:Nat)))
def CdRel (w0:World) (n1 n2:Nat) (l1 l2:List Int) (u6 u27:Value) (wr:World):Prop:=
 ∃ g cap,Below w0.heap.size w0 wr∧((u27=.int .i64 0∧u6=.slice (some ⟨g,0,none⟩) 0 cap∧wr.ownsRow w0.heap.size 3 1 (.slice (some ⟨g,0,none⟩) 0 cap) 0 []) ∨
  (u27=.int .i64 1∧u6=.slice (some ⟨g,0,none⟩) n1 cap∧wr.ownsRow w0.heap.size 3 1 (.slice (some ⟨g,0,none⟩) n1 cap) n1 (zah l1)) ∨
  (u27=.int .i64 2∧u6=.slice (some ⟨g,0,none⟩) (n1+n2) cap∧wr.ownsRow w0.heap.size 3 1 (.slice (some ⟨g,0,none⟩) (n1+n2) cap) (n1+n2) (zah l1++zah l2)))
theorem Concat2_ok (w:World) (B k:Nat) (A1 A2:Option Addr) (c1 c2:Nat) (l1 l2:List Int) (h1:Rd w B A1 (zah l1)) (h2:Rd w B A2 (zah l2)) (hn1:0<l1.length) (hb1:l1.length≤1000) (hb2:l2.length≤1000)
 (z0:w.cell? ⟨k,0,none⟩=some (.slice A1 l1.length c1)) (z1:w.cell? ⟨k,1,none⟩=some (.slice A2 l2.length c2)) :
 Calls Tryz.prog 323 #[.slice (some ⟨k,0,none⟩) 2 2] w (zew w 3 1 (zah (l1++l2)) (l1.length+l2.length)):=by
 obtain ⟨i1,hi1,hy0,hy1,hy2⟩:=info_parts zhn
 have GN:=fun W=>Grow_nil (l1.length+l2.length) (by omega) (by omega) W
 have HE:Hid (zah (l1++l2)=zah l1++zah l2):=by simp [Hid,zah]
 obtain ⟨n1,e1⟩:∃ n,l1.length=n:=⟨_,rfl⟩
 obtain ⟨n2,e2⟩:∃ n,l2.length=n:=⟨_,rfl⟩
 have HN1:=Lib.hid e1
 have HN2:=Lib.hid e2
 have HR1:=Lib.hid h1
 have HR2:=Lib.hid h2
 rw [e1,e2] at GN ⊢
 rw [e1] at z0 hb1 hn1
 rw [e2] at z1 hb2
 clear e1 e2 h1 h2
 go_enter Tryz.func323,Tryz.ntmps323
 go_wp2
 go_loopw [3,11] (fun u3 u11 wr=>CcRel w n1 n2 u3 u11 wr) (fun _ u11 _=>2 - (intOf u11).toNat)
 case atStart=>exact ⟨rfl,.inl ⟨rfl,rfl⟩⟩
 case round =>
  obtain ⟨hw,hrel⟩:=hrel
  replace hw:=hw.symm
  subst hw
  rcases hrel with ⟨rfl,rfl⟩ | ⟨rfl,rfl⟩ | ⟨rfl,rfl⟩
  · have q0:¬ (n1:Int)<0:=by omega
    go_wp2
    go_roundw
    case rel=>exact ⟨rfl,.inr (.inl ⟨rfl,by go_num⟩)⟩
    case measure=>simp [intOf]
  · have q0:¬ (n1:Int)+(n2:Int)<0:=by omega
    go_wp2
    go_roundw
    case rel=>exact ⟨rfl,.inr (.inr ⟨rfl,by go_num⟩)⟩
    case measure=>simp [intOf]
  · go_upto_region 10 with (go_at_call 362;refine (GN _).mono ?_;rintro e w1 ⟨g,cap,rfl,hown,hb⟩)
    clear GN
    go_wp2
    go_loopw [6,27] (fun u6 u27 wr=>CdRel w n1 n2 l1 l2 u6 u27 wr) (fun _ u27 _=>2 - (intOf u27).toNat)
    case atStart=>exact ⟨g,cap,hb,.inl ⟨rfl,rfl,hown⟩⟩
    case round =>
     clear hown hb
     obtain ⟨g2,cap2,hb,hrel⟩:=hrel
     replace z0:=zas hb z0
     replace z1:=zas hb z1
     have r1:=HR1.out.keep hb
     have r2:=HR2.out.keep hb
     have hsz:=hb.size
     have HB:=Lib.hid hb
     clear hb
     rcases hrel with ⟨rfl,rfl,hown⟩ | ⟨rfl,rfl,hown⟩ | ⟨rfl,rfl,hown⟩
     · have HO:=Lib.hid hown
       clear hown
       go_wp2_with (at_builtin;refine stp ?_)
       unfold Stp
       refine zex _ rfl _ _ 32 rfl w.heap.size 3 i1 _ 1 8 Tryz.underlying32 hi1 hy0 hy1 hy2 rfl (by omega) g2 0 cap2 [] rfl HO.out B A1 n1 c1 (zah l1) rfl (by rw [zcz,HN1.out,Nat.mul_one]) r1 (zdg l1) (by simp only [maxLen];omega) (by omega) hsz ?_
       intro g3 cap3 w3 hown3 hgrow3 _
       have HB3:=Lib.hid (HB.out.grown hgrow3 hsz (fun j hj=>by rw [← Option.some.inj hj];exact (zbf HO.out (k:=g2) rfl).1))
       rw [Nat.zero_add,List.nil_append] at hown3
       have HO3:=Lib.hid hown3
       clear hown3 hgrow3 r1 r2 z0 z1
       rw [Nat.zero_add]
       go_wp2
       go_roundw
       case rel=>exact ⟨g3,cap3,HB3.out,.inr (.inl ⟨rfl,rfl,HO3.out⟩)⟩
       case measure=>simp [intOf]
     · have HO:=Lib.hid hown
       clear hown
       go_wp2_with (at_builtin;refine stp ?_)
       unfold Stp
       refine zex _ rfl _ _ 32 rfl w.heap.size 3 i1 _ 1 8 Tryz.underlying32 hi1 hy0 hy1 hy2 rfl (by omega) g2 n1 cap2 (zah l1) rfl HO.out B A2 n2 c2 (zah l2) rfl (by rw [zcz,HN2.out,Nat.mul_one]) r2 (zdg l2) (by simp only [maxLen];omega) (by omega) hsz ?_
       intro g3 cap3 w3 hown3 hgrow3 _
       have HB3:=Lib.hid (HB.out.grown hgrow3 hsz (fun j hj=>by rw [← Option.some.inj hj];exact (zbf HO.out (k:=g2) rfl).1))
       have HO3:=Lib.hid hown3
       clear hown3 hgrow3 r1 r2 z0 z1
       go_wp2
       go_roundw
       case rel=>exact ⟨g3,cap3,HB3.out,.inr (.inr ⟨rfl,rfl,HO3.out⟩)⟩
       case measure=>simp [intOf]
     · have HO:=Lib.hid hown
       clear hown z0 z1 r1 r2
       go_wp2
       go_ret
       exact ⟨_,_,rfl,zbn HO.out,by rw [HE.out];exact HO.out,HB.out⟩
end Go.Proofs.YtfdmeojcopkaoaaGreatDoor
