import Derived.Test.YtfdmeojcopkaoaaGreatDoorf3X14
set_option maxRecDepth 100000
set_option maxHeartbeats 16000000
namespace Go.Proofs.YtfdmeojcopkaoaaGreatDoor
open Go.RowKit
def tdFr (b bw:Nat) (A:Option Addr) (n c:Nat) (ct:Int) (e3 e11 e17:Value):Go.Act:=⟨#[.pointer (some ⟨b,0,none⟩),undef,.pointer (some ⟨bw,0,none⟩),e3,undef,undef,.pointer (some ⟨b,0,none⟩),.pointer (some ⟨b,0,none⟩),.pointer (some ⟨b,4,none⟩),.pointer (some ⟨b,4,none⟩),.slice A n c,e11,.pointer (some ⟨b,0,none⟩),.pointer (some ⟨b,0,none⟩),.pointer (some ⟨b,4,none⟩),.pointer (some ⟨b,6,none⟩),.int .i64 ct,e17,undef,undef,undef,undef,undef,undef,undef,undef,undef,undef,undef,undef,undef,undef,undef,undef,undef,undef,undef,undef,undef,undef,undef],[]⟩
def TdI (b bw:Nat) (A:Option Addr) (n c:Nat) (ct:Int) (l:List Int) (w0:World) (L:Nat→Bool) (a:Go.Act) (w:World):Prop:=
 ∃ e3 e11 e17,a=tdFr b bw A n c ct e3 e11 e17∧Below w0.heap.size w0 w∧(L 5=true→OwAt w w0.heap.size 3 1 n (zah l) e11)∧(L 11=true→L 5=true∧e17=.agg #[e11,.slice none 0 0,.int .i64 ct]) ∧
  (L 12=true→BlAt w w0.heap.size (.cells #[.slice none 0 0,.slice none 0 0,.int .i64 0] 133 (0,0)) e3)
structure TdO (w:World) (x:Nat) (A1:Option Addr) (n c1:Nat) (sws:List Int) (q:List LtV):Prop where
 sws:w.ownsRow x 3 1 (.slice A1 n c1) n (zah sws)
 t:∀ t∈q,t.chain.length=t.s.n∧w.ownsRow x 3 1 t.s.v t.s.n (zah t.chain)
theorem TdO.keep {w w':World} {x:Nat} {A1:Option Addr} {n c1:Nat} {sws:List Int} {q:List LtV} (h:TdO w x A1 n c1 sws q) (hb:Below w.heap.size w w'):TdO w' x A1 n c1 sws q:=
 ⟨zag h.sws hb,fun t ht=>⟨(h.t t ht).1,zag (h.t t ht).2 hb⟩⟩
theorem TdO.other {w w':World} {x:Nat} {A1:Option Addr} {n c1:Nat} {sws:List Int} {q:List LtV} (h:TdO w x A1 n c1 sws q) (hk:∀ (k:Nat) (cur:Array Value),w.heap[k]?=some (.cells cur 3 (0,0))→w'.heap[k]?=w.heap[k]?):TdO w' x A1 n c1 sws q:=
 ⟨zbj h.sws hk,fun t ht=>⟨(h.t t ht).1,zbj (h.t t ht).2 hk⟩⟩
def LtV.key (t:LtV):List Int × Int:=(t.chain,t.under)
def TdRel (x g:Nat) (w0:World) (q:LsV) (A1:Option Addr) (n c1:Nat) (u:Value) (wr:World):Prop:=∃ (k:Nat) (A3:Option Addr) (c3:Nat) (q':List LtV),
 k≤q.tr.n∧u=.int .i64 k∧Below x w0 wr∧wr.heap[g]?=some (.cells #[.slice A1 n c1,.slice A3 k c3,.int .i64 q.ctr] 133 (0,0))∧TdO wr x A1 n c1 q.sws q'∧wr.ownsRow x 219 2 (.slice A3 k c3) k (zbo q')∧q'.map LtV.key=(q.trs.take k).map LtV.key
theorem told_any (w:World) (B b:Nat) (p:PlantV) (q:LsV) (h:LnAt w B b p q) (hS:LsS q):Calls Tryz.prog 264 #[.pointer (some ⟨b,0,none⟩)] w fun e w' =>
 ∃ q':LsV,q'.sws=q.sws∧q'.trs.map LtV.key=q.trs.map LtV.key∧q'.ctr=q.ctr∧e=.returned (.agg (za7 q').toArray)∧LsOw w' w.heap.size q'∧Below w.heap.size w w':=by
 have hb0:=hB1 w (.cells #[.slice none 0 0,.slice none 0 0,.int .i64 0] 133)
 have k0:=hA1 w (.cells #[.slice none 0 0,.slice none 0 0,.int .i64 0] 133)
 have hs:=hS1 w (.cells #[.slice none 0 0,.slice none 0 0,.int .i64 0] 133)
 have HH:=Lib.hid (h.keep hb0)
 have HSS:=Lib.hid hS
 have HB:=Lib.hid hb0
 clear hb0 h
 go_enter Tryz.func264,Tryz.ntmps264
 go_upto_region 1 with (fail)
 generalize w.alloc (.cells #[.slice none 0 0,.slice none 0 0,.int .i64 0] 133)=w0 at *
 generalize hbw:w.heap.size=bw at *
 have HBW:=Lib.hid hbw
 clear hbw
 obtain ⟨d0,d1,d2,d3,d4,d5,d6⟩:_∧_∧_∧_∧_∧_∧_:=zdb HH.out.blk
 simp only [SlV.v] at d4 d5
 have x4:=fun y:Xt w0=>y.cell d4
 have x6:=fun y:Xt w0=>y.cell d6
 clear d0 d1 d2 d3 d4 d5 d6
 refine zaj [13] (fun w'=>∃ y:Xt w0,w'=y.1) (by kernel_rfl) ⟨⟨w0.drew,(Below.refl _ _).drew⟩,rfl⟩ ?_
 refine zao [0,1,2,3,4,6,7,8,9,10] 4 rfl (by kernel_rfl) ?_
 simp only [zad,zac,zaa,zX1,zX2,zX3]
 repeat (go_big_quiet_step (fail))
 refine wpQuiet_nil ?_
 have hbd:Below w0.heap.size w0 w0.drew:=(Below.refl _ _).drew
 show wpE _ _ _ _ _ _ _ _ _ w0.drew
 generalize w0.drew=wd at *
 clear x4 x6
 refine zdr (g:=1) [5,11,12] (TdI b bw q.sw.A q.sw.n q.sw.c q.ctr q.sws w0) rfl (by kernel_rfl) ?_ ?_ ?_
 · exact ⟨undef,undef,undef,rfl,hbd,fun h=>absurd (show false=true from h) (by decide),fun h=>absurd (show false=true from h) (by decide),fun h=>absurd (show false=true from h) (by decide)⟩
 · intro a w8 hS8 hI
   obtain ⟨e3,e11,e17,rfl,hb8,hF5,hF11,hF12⟩:=hI
   obtain ⟨A1,c1,rfl,hc1,hf1⟩:=hF5 (by kernel_rfl)
   obtain ⟨_,rfl⟩:=hF11 (by kernel_rfl)
   obtain ⟨g,rfl,hg,hk8⟩:=hF12 (by kernel_rfl)
   refine zau rfl (by kernel_rfl) ?_
   simp only [zad,zac,zaa,zX1,zX2,zX3]
   unfold tdFr
   refine wpList_store_row rfl 133 _ _ rfl g #[.slice A1 q.sw.n c1,.slice none 0 0,.int .i64 q.ctr] rfl rfl 133 _ hk8 (by kernel_rfl) rfl (by kernel_rfl) ?_
   go_wp2
   refine zab ?_
   have HK9:=Lib.hid (setRow_heap w8 g _ #[.slice A1 q.sw.n c1,.slice none 0 0,.int .i64 q.ctr] 133 (0,0) hk8)
   have HO9:=Lib.hid (zar hf1 #[.slice A1 q.sw.n c1,.slice none 0 0,.int .i64 q.ctr] (zca hf1 hk8 (by decide)))
   have HB9:=Lib.hid (below_setRow hb8 hg #[.slice A1 q.sw.n c1,.slice none 0 0,.int .i64 q.ctr])
   have hlg:g<w8.heap.size:=lt_of_block hk8
   clear hF5 hF11 hF12 hf1 hk8 hb8 hS8 hbd
   change Exit.then _ _ Exit.normal _ (w8.setRow g #[.slice A1 q.sw.n c1,.slice none 0 0,.int .i64 q.ctr])
   generalize w8.setRow g #[.slice A1 q.sw.n c1,.slice none 0 0,.int .i64 q.ctr]=w9 at *
   obtain ⟨_,_,_,_,_,d5,_⟩:_∧_∧_∧_∧_∧_∧_:=zdb (HH.out.keep HB9.out).blk
   simp only [SlV.v] at d5
   obtain ⟨At,hAt⟩:∃ A,q.tr.A=A:=⟨_,rfl⟩
   rw [hAt] at d5
   have HAT:=Lib.hid hAt
   clear hAt
   go_wp2
   go_loopw [24] (fun u24 wr=>TdRel w0.heap.size g w0 q A1 q.sw.n c1 u24 wr) (fun u24 _=>q.tr.n - (intOf u24).toNat)
   case atStart=>exact ⟨0,none,0,[],Nat.zero_le _,rfl,HB9.out,HK9.out,⟨HO9.out,fun t ht=>absurd ht (by simp)⟩,⟨rfl,.inl ⟨rfl,rfl⟩⟩,rfl⟩
   case round =>
    clear d5
    obtain ⟨k,A3,c3,q',hk,rfl,hb,hk3,hO,ho3,hkey⟩:=hrel
    have HKEY:=Lib.hid hkey
    have HBK:=Lib.hid hb
    have hsk:=hb.size
    have k0r:=(hb.block bw (by omega)).trans k0
    have HLN:=Lib.hid (HH.out.keep hb)
    clear hkey hb
    by_cases hlt:k<q.tr.n
    · obtain ⟨x,hev⟩:∃ ev,q.trs[k]?=some ev:=⟨_,List.getElem?_eq_getElem (by rw [HLN.out.st.trs.1];exact hlt)⟩
      obtain ⟨bb,off,hA,hbB,z0,z1⟩:=Rd.lt HLN.out.st.trs.2 hev
      obtain rfl:At=some ⟨bb,off,none⟩:=HAT.out.symm.trans hA
      have hxs:=HLN.out.st.t x (List.mem_of_getElem? hev)
      have hxc:=HSS.out.2.2 x (List.mem_of_getElem? hev)
      have hba:=hB1 wr (.cells #[.slice x.s.A x.s.n x.s.c,.int .i64 x.under] 219)
      obtain ⟨e0,e1⟩:_∧_:=zay (W:=wr.alloc (.cells #[.slice x.s.A x.s.n x.s.c,.int .i64 x.under] 219)) (by rw [zae,if_pos rfl])
      have HXS:=Lib.hid (hxs.keep hba)
      have hOa:=hO.keep hba
      have ho3a:=zag ho3 hba
      have hk3a:=blk hba hk3
      have HBA:=Lib.hid (HBK.out.trans (hba.mono hsk))
      have hsa:=Nat.le_trans hsk hba.size
      have HEV:=Lib.hid hev
      have hxn:x.s.n≤1000:=by rw [← hxs.1];exact hxc
      have htn:q.tr.n≤1000:=by rw [← HLN.out.st.trs.1];exact HSS.out.1
      obtain ⟨i1,hi1,hy0,hy1,hy2⟩:=info_parts zk0
      clear hev hba HBK hxs hxc hO ho3 k0r hA HLN hk3
      go_upto_region 5 with (fail)
      clear z0 z1
      generalize wr.alloc (.cells #[.slice x.s.A x.s.n x.s.c,.int .i64 x.under] 219)=wa at *
      generalize wr.heap.size=y at *
      obtain ⟨b0,b1,b2⟩:_∧_∧_:=zbc hk3a
      have x0:=fun z:Xt wa=>z.cell e0
      have x1:=fun z:Xt wa=>z.cell e1
      have x2:=fun z:Xt wa=>z.cell b1
      refine zaj [9,10,11] (fun w'=>∃ z:Xt wa,w'=z.1) (by kernel_rfl) ⟨⟨wa.drew,(Below.refl _ _).drew⟩,rfl⟩ ?_
      refine zao [0,1,2,3,5,6] 6 rfl (by kernel_rfl) ?_
      simp only [zad,zac,zaa,zX1,zX2,zX3]
      repeat (go_big_quiet_step (fail))
      refine wpQuiet_nil ?_
      have hbd:Below wa.heap.size wa wa.drew:=(Below.refl _ _).drew
      show wpE _ _ _ _ _ _ _ _ _ wa.drew
      generalize wa.drew=we at *
      clear x0 x1 x2 b0 b1 b2 e0 e1
      have CI:=zj8 we B x.s.A x.s.n x.s.c x.chain HXS.out.1 (by omega) (HXS.out.2.keep hbd)
      refine zak (i:=4) rfl (by kernel_rfl) rfl ?_
      unfold zap
      simp only [zad,zac,zaa,zX1,zX2,zX3]
      go_wp2_with (go_at_call 285;refine CI.mono ?_;rintro e w1 ⟨A5,c5,rfl,hc5,ho5,hb1⟩)
      have hbe1:=hbd.trans (hb1.mono hbd.size)
      refine zab ⟨⟨⟨_,hbe1⟩,rfl⟩,?_⟩
      refine zak (i:=7) rfl (by kernel_rfl) rfl ?_
      unfold zap
      simp only [zad,zac,zaa,zX1,zX2,zX3]
      go_wp2
      refine zab ⟨⟨⟨_,hbe1⟩,rfl⟩,?_⟩
      refine zak (i:=8) rfl (by kernel_rfl) rfl ?_
      unfold zap
      simp only [zad,zac,zaa,zX1,zX2,zX3]
      go_wp2
      have hbn:=hB1 w1 (.cells #[.slice A5 x.s.n c5,.int .i64 x.under] 219)
      have hbe3:=hbe1.trans (hbn.mono hbe1.size)
      refine zab ⟨⟨⟨_,hbe3⟩,rfl⟩,?_⟩
      refine zau rfl (by kernel_rfl) ?_
      simp only [zad,zac,zaa,zX1,zX2,zX3]
      have ho3d:=zag ho3a hbe3
      have hxa:w0.heap.size≤(w1.alloc (.cells #[.slice A5 x.s.n c5,.int .i64 x.under] 219)).heap.size:=Nat.le_trans hsa hbe3.size
      refine wpList_append_lies _ rfl _ _ 131 rfl w0.heap.size 219 i1 _ 2 32 Tryz.underlying131 hi1 hy0 hy1 hy2 rfl (by omega) (.slice A3 k c3) k _ rfl ho3d ⟨w1.heap.size,0,none⟩ 1 1 [.slice A5 x.s.n c5,.int .i64 x.under] rfl rfl (zen (f:=(0,0)) (t:=219) (by rw [zae,if_pos rfl])) (by simp [Value.oneCell']) (by omega) (by simp only [maxLen];omega) (by omega) hxa _ rfl ?_
      intro gg cap2 w6 hown6 hgrow6 _ _
      have hk3d:=blk hbe3 hk3a
      have hk3e:w6.heap[g]?=some (.cells #[.slice A1 q.sw.n c1,.slice A3 k c3,.int .i64 q.ctr] 133 (0,0)):=(hgrow6.block g (lt_of_block hk3d) (fun he=>zca ho3d hk3d (by decide) g he.symm rfl)).trans hk3d
      have hOd:=(hOa.keep hbe3).other (w':=w6) (fun k' cur hk'=>hgrow6.block k' (lt_of_block hk') (fun he=>zca ho3d hk' (by decide) k' he.symm rfl))
      have ho5d:=zbj (w':=w6) (zag ho5 hbn) (fun k' cur hk'=>hgrow6.block k' (lt_of_block hk') (fun he=>zca ho3d hk' (by decide) k' he.symm rfl))
      have HB6:=Lib.hid ((HBA.out.trans (hbe3.mono hsa)).grown hgrow6 hxa (fun j hj=>(zbf ho3d hj).1))
      have f3:=frozen_of_row w6 g 1 _ _ hk3e
      obtain ⟨q0,q1,q2⟩:_∧_∧_:=zbc hk3e
      have hwe:=hbd.size
      have hw1:=hbe1.size
      clear hOa ho3a hk3a hbe3 hbn hbe1 hbd hb1 ho5 hgrow6 ho3d hk3d HBA hy0 hy1 hy2 hi1 CI
      go_wp2
      refine zab ?_
      have hk3f:(w6.setCell ⟨g,1,none⟩ (.slice (some ⟨gg,0,none⟩) (k+1) cap2)).heap[g]?=some (.cells #[.slice A1 q.sw.n c1,.slice (some ⟨gg,0,none⟩) (k+1) cap2,.int .i64 q.ctr] 133 (0,0)):=zdw hk3e 1 _
      have HK3:=Lib.hid hk3f
      have HOf:=Lib.hid (hOd.other (w':=w6.setCell ⟨g,1,none⟩ (.slice (some ⟨gg,0,none⟩) (k+1) cap2)) (fun k cur hk=>zdm hk (zcb hk hk3e (by decide)) _ _ |>.trans hk.symm))
      have HO5:=Lib.hid (za1 (zbx (i:=1) (u:=.slice (some ⟨gg,0,none⟩) (k+1) cap2) ho5d (zca ho5d hk3e (by decide))) (show w0.heap.size≤_ by omega))
      have HO6:=Lib.hid (zbx (i:=1) (u:=.slice (some ⟨gg,0,none⟩) (k+1) cap2) hown6 (zca hown6 hk3e (by decide)))
      have HB7:=Lib.hid (HB6.out.setCell (p:=⟨g,1,none⟩) hg (.slice (some ⟨gg,0,none⟩) (k+1) cap2))
      clear hk3f hOd ho5d hown6 hk3e q0 q1 q2 f3 HB6
      go_wp2
      go_roundw
      case rel =>
       refine ⟨k+1,some ⟨gg,0,none⟩,cap2,q'++[⟨⟨A5,x.s.n,c5⟩,x.chain,x.under⟩],hlt,by go_num,HB7.out,HK3.out,⟨HOf.out.sws,fun t ht=>?_⟩,?_,?_⟩
       · rcases List.mem_append.1 ht with h | h
         · exact HOf.out.t t h
         · rw [List.mem_singleton] at h
           subst h
           exact ⟨HXS.out.1,HO5.out⟩
       · have e:zbo (q'++[⟨⟨A5,x.s.n,c5⟩,x.chain,x.under⟩])=zbo q'++[.slice A5 x.s.n c5,.int .i64 x.under]:=by simp [zbo,zgk,SlV.v]
         rw [e]
         exact HO6.out
       · rw [List.take_add_one,HEV.out,List.map_append,List.map_append,HKEY.out]
         rfl
      case measure=>simp [intOf];omega
    · obtain rfl:k=q.tr.n:=by omega
      have hz1:=HBK.out.size
      have HOW:=Lib.hid (show LsOw wr w0.heap.size _ from (show LsOw wr w0.heap.size ⟨⟨A1,q.sw.n,c1⟩,q.sws,⟨A3,q.tr.n,c3⟩,q',q.ctr⟩ from ⟨hO.sws,ho3,hO.t,HH.out.st.sws.1,by have:=congrArg List.length HKEY.out;simp only [List.length_map,List.length_take,HLN.out.st.trs.1,Nat.min_self] at this;exact this⟩))
      clear hO ho3
      go_wp2_with (with_reducible refine zaz 133 ?_)
      unfold Stp
      refine wpList_load_row rfl 133 _ rfl g rfl 133 _ (0,0) _ hk3 Tryz.underlying133 rfl (by kernel_rfl) ?_
      go_wp2_with (with_reducible refine zat 133 ?_)
      unfold Stp
      refine wpList_store_row rfl 133 _ _ rfl bw #[.slice A1 q.sw.n c1,.slice A3 q.tr.n c3,.int .i64 q.ctr] rfl rfl 133 _ k0r (by kernel_rfl) rfl (by kernel_rfl) ?_
      have HSR:=Lib.hid (setRow_heap wr bw _ #[.slice A1 q.sw.n c1,.slice A3 q.tr.n c3,.int .i64 q.ctr] 133 (0,0) k0r)
      have HB8:=Lib.hid (below_setRow (HB.out.trans (HBK.out.mono (by omega))) (Nat.le_refl bw) #[.slice A1 q.sw.n c1,.slice A3 q.tr.n c3,.int .i64 q.ctr])
      go_wp2
      refine bodyPost_ret (v:=.agg #[.slice A1 q.sw.n c1,.slice A3 q.tr.n c3,.int .i64 q.ctr]) (results_cell_row rfl _ _ bw 133 _ (0,0) _ rfl HSR.out Tryz.underlying133 rfl (by kernel_rfl)) rfl ⟨⟨⟨A1,q.sw.n,c1⟩,q.sws,⟨A3,q.tr.n,c3⟩,q',q.ctr⟩,rfl,?_,rfl,rfl,?_,?_⟩
      · have:=HKEY.out
        rw [List.take_of_length_le (by rw [HLN.out.st.trs.1];exact Nat.le_refl _)] at this
        exact this
      · rw [HBW.out]
        exact (HOW.out.setRow _ (by omega)).base (by omega)
      · rw [HBW.out]
        exact HB8.out
 · intro i hi L a w8 hL hd hS8 hI
   obtain ⟨e3,e11,e17,rfl,hb8,hF5,hF11,hF12⟩:=hI
   simp only [List.mem_cons,List.not_mem_nil,or_false] at hi
   rcases hi with rfl | rfl | rfl
   · have CI:=zj8 w8 B q.sw.A q.sw.n q.sw.c q.sws HH.out.st.sws.1 (by have:=HSS.out.2.1;have:=HH.out.st.sws.1;omega) (HH.out.st.sws.2.keep hb8)
     unfold zap
     simp only [zad,zac,zaa,zX1,zX2,zX3]
     unfold tdFr
     go_wp2_with (go_at_call 285;refine CI.mono ?_;rintro e w9 ⟨A1,c1,rfl,hc1,hown,hb9⟩)
     exact zab ⟨⟨⟨_,hb8.trans (hb9.mono hb8.size)⟩,rfl⟩,⟨e3,_,e17,rfl,hb8.trans (hb9.mono hb8.size),fun _=>⟨_,_,rfl,hc1,za1 hown hb8.size⟩,fun h=>absurd (hF11 h).1 (by rw [hL];decide),fun h=>(hF12 h).keep hb9⟩⟩
   · obtain ⟨A1,c1,rfl,hc1,hf1⟩:=hF5 (hd 5 (by kernel_rfl))
     unfold zap
     simp only [zad,zac,zaa,zX1,zX2,zX3]
     unfold tdFr
     go_wp2
     exact zab ⟨⟨⟨_,hb8⟩,rfl⟩,⟨e3,_,_,rfl,hb8,hF5,fun _=>⟨hd 5 (by kernel_rfl),rfl⟩,hF12⟩⟩
   · unfold zap
     simp only [zad,zac,zaa,zX1,zX2,zX3]
     unfold tdFr
     go_wp2
     have hbn:=hB1 w8 (.cells #[.slice none 0 0,.slice none 0 0,.int .i64 0] 133)
     have hbx:=hb8.trans (hbn.mono hb8.size)
     exact zab ⟨⟨⟨_,hbx⟩,rfl⟩,⟨_,e11,e17,rfl,hbx,fun h=>(hF5 h).keep hbn,hF11,fun _=>⟨_,rfl,hb8.size,by rw [zae,if_pos rfl]⟩⟩⟩
end Go.Proofs.YtfdmeojcopkaoaaGreatDoor
namespace Go.Proofs.YtfdmeojcopkaoaaGreatDoor
open Go.RowKit
def ApPost (w:World) (p:PlantV) (q:LsV) (ch:List Int) (un:Int) (e:Ending) (w':World):Prop:=
 ∃ b A c sl,e=.returned (.tuple #[.pointer (some ⟨b,0,none⟩),.int .i64 0])∧w.heap.size≤b∧LnAt w' w'.heap.size b p (ze4 q A c ⟨sl,ch,un⟩)∧Below w.heap.size w w'
theorem apply0_ok (w:World) (B b:Nat) (p:PlantV) (q:LsV) (t:LtV) (s:Int) (h:LnAt w B b p q) (hS:LsS q) (hi:q.trs[0]?=some t) (hc:t.chain=[]) (htk:zf9 q [s]=false) (hB:B≤w.heap.size) :
 Calls Tryz.prog 263 #[.pointer (some ⟨b,0,none⟩),.agg #[.int .i64 0,.int .i64 0,.int .i64 s]] w (ApPost w p q [s] 1):=by
 have hb0:=hB1 w (.cells #[.int .i64 0,.int .i64 0,.int .i64 s] 292)
 have k0:=hA1 w (.cells #[.int .i64 0,.int .i64 0,.int .i64 s] 292)
 have hs:=hS1 w (.cells #[.int .i64 0,.int .i64 0,.int .i64 s] 292)
 have hlt:0<q.tr.n:=by rw [← h.st.trs.1];exact (List.getElem?_eq_some_iff.1 hi).1
 have htn:q.tr.n≤1000:=by rw [← h.st.trs.1];exact hS.1
 obtain ⟨bb,off,hA,hbB,z0,z1⟩:=Rd.lt (h.keep hb0).st.trs.2 hi
 have hsn:=(h.st.t t (List.mem_of_getElem? hi)).1
 rw [hc] at hsn
 obtain ⟨⟨tA,tn,tc⟩,ch,un⟩:=t
 simp only at hsn hc z0 z1
 obtain rfl:0=tn:=by simpa using hsn
 rw [Nat.zero_mul,Nat.add_zero] at z0 z1
 have HH:=Lib.hid (h.keep hb0)
 have HB:=Lib.hid hb0
 clear hb0 h hi hc hsn
 go_enter Tryz.func263,Tryz.ntmps263
 go_upto_region 1 with (fail)
 generalize w.alloc (.cells #[.int .i64 0,.int .i64 0,.int .i64 s] 292)=w0 at *
 generalize hbw:w.heap.size=bw at *
 have HBW:=Lib.hid hbw
 clear hbw
 obtain ⟨e0,e1,e2⟩:_∧_∧_:=zbc k0
 obtain ⟨_,_,_,_,_,d5,_⟩:_∧_∧_∧_∧_∧_∧_:=zdb HH.out.blk
 simp only [SlV.v,hA] at d5
 go_upto_region 8 with (fail)
 have x0:=fun y:Xt w0=>y.cell e1
 have x1:=fun y:Xt w0=>y.cell d5
 have x2:=fun y:Xt w0=>y.cell z0
 have x3:=fun y:Xt w0=>y.cell z1
 refine zaj [10] (fun w'=>∃ y:Xt w0,w'=y.1) (by kernel_rfl) ⟨⟨w0.drew,(Below.refl _ _).drew⟩,rfl⟩ ?_
 refine zao [0,1,2,3,4,5,6,7,8] 2 rfl (by kernel_rfl) ?_
 simp only [zad,zac,zaa,zX1,zX2,zX3]
 repeat (go_big_quiet_step (fail))
 refine wpQuiet_nil ?_
 have hbd:Below w0.heap.size w0 w0.drew:=(Below.refl _ _).drew
 show wpE _ _ _ _ _ _ _ _ _ w0.drew
 generalize w0.drew=wd at *
 clear x0 x1 x2 x3 d5 z0 z1 e0 e1 e2
 refine zak (i:=9) rfl (by kernel_rfl) rfl ?_
 unfold zap
 simp only [zad,zac,zaa,zX1,zX2,zX3]
 go_wp2
 have hbn:=hB1 wd (.cells #[.slice none 0 0,.int .i64 0] 219)
 have k3:=hA1 wd (.cells #[.slice none 0 0,.int .i64 0] 219)
 have hsd:=hbd.size
 have hbe:=hbd.trans (hbn.mono hsd)
 refine zab ⟨⟨⟨_,hbe⟩,rfl⟩,?_⟩
 generalize wd.alloc (.cells #[.slice none 0 0,.int .i64 0] 219)=w2 at *
 generalize wd.heap.size=y at *
 refine zau rfl (by kernel_rfl) ?_
 simp only [zad,zac,zaa,zX1,zX2,zX3]
 refine wpList_store_row rfl 219 _ _ rfl y #[.slice tA 0 tc,.int .i64 un] rfl rfl 219 _ k3 (by kernel_rfl) rfl (by kernel_rfl) ?_
 go_wp2
 refine zab ?_
 have k4:=setRow_heap w2 y _ #[.slice tA 0 tc,.int .i64 un] 219 (0,0) k3
 have hb4:Below w0.heap.size w0 (w2.setRow y #[.slice tA 0 tc,.int .i64 un]):=below_setRow hbe hsd _
 clear hbn k3 hbe hbd
 change Exit.then _ _ Exit.normal _ (w2.setRow y #[.slice tA 0 tc,.int .i64 un])
 generalize w2.setRow y #[.slice tA 0 tc,.int .i64 un]=w4 at *
 obtain ⟨f0,f1⟩:_∧_:=zay k4
 obtain ⟨e0,e1,e2⟩:_∧_∧_:=zbc (blk hb4 k0)
 have HLN:=Lib.hid (HH.out.keep hb4)
 have HB4:=Lib.hid (HB.out.trans (hb4.mono (by omega)))
 have hs4:=Nat.le_trans hs hb4.size
 clear hb4 k0 HH hA
 go_upto_region 11 with (fail)
 have x2:=fun y:Xt w4=>y.cell e2
 refine zaj [12] (fun w'=>∃ y:Xt w4,w'=y.1) (by kernel_rfl) ⟨⟨w4.drew,(Below.refl _ _).drew⟩,rfl⟩ ?_
 refine zao [0,1,3,4,5] 8 rfl (by kernel_rfl) ?_
 simp only [zad,zac,zaa,zX1,zX2,zX3]
 repeat (go_big_quiet_step (fail))
 refine wpQuiet_nil ?_
 have hb5:Below w4.heap.size w4 w4.drew:=(Below.refl _ _).drew
 show wpE _ _ _ _ _ _ _ _ _ w4.drew
 generalize w4.drew=w5 at *
 clear x2
 have hbn:=hB1 w5 (.cells #[.int .i64 s] 3)
 have hb6:=hb5.trans (hbn.mono hb5.size)
 have k6:=hA1 w5 (.cells #[.int .i64 s] 3)
 have TK:=taken_any (w5.alloc (.cells #[.int .i64 s] 3)) B b p q (some ⟨w5.heap.size,0,none⟩) 1 1 [s] (HLN.out.keep hb6) hS (by have:=hb6.size;omega) rfl (by decide) (zby (cs:=#[.int .i64 s]) k6)
 rw [htk] at TK
 have U0:=fun e W=>zbp true e 0 rfl W
 clear htk hbn k6
 refine zka (i:=2) (k:=6) rfl (by kernel_rfl) rfl rfl ?_ ?_
 all_goals unfold zap
 all_goals simp only [zad,zac,zaa,zX1,zX2,zX3]
 · go_wp2_with (go_at_call 52;refine (U0 _ _).mono ?_;rintro e w' ⟨rfl,rfl⟩)
   refine zab ⟨⟨⟨_,hb5⟩,rfl⟩,?_⟩
   refine zak (i:=6) rfl (by kernel_rfl) rfl ?_
   unfold zap
   simp only [zad,zac,zaa,zX1,zX2,zX3]
   go_wp2
   refine zab ⟨⟨⟨_,hb6⟩,rfl⟩,?_⟩
   generalize w5.alloc (.cells #[.int .i64 s] 3)=w6 at *
   refine zak (i:=7) rfl (by kernel_rfl) rfl ?_
   unfold zap
   simp only [zad,zac,zaa,zX1,zX2,zX3]
   go_wp2_with (go_at_call 320;refine TK.mono ?_;rintro e w7 ⟨rfl,hb7⟩)
   have hb8:=hb6.trans (hb7.mono hb6.size)
   refine zab ⟨⟨⟨_,hb8⟩,rfl⟩,?_⟩
   refine zak (i:=8) rfl (by kernel_rfl) rfl ?_
   unfold zap
   simp only [zad,zac,zaa,zX1,zX2,zX3]
   go_wp2
   refine zab ⟨⟨⟨_,hb8⟩,rfl⟩,?_⟩
   refine zak (i:=9) rfl (by kernel_rfl) rfl ?_
   unfold zap
   simp only [zad,zac,zaa,zX1,zX2,zX3]
   go_wp2_with (go_at_call 52;refine (U0 _ _).mono ?_;rintro e w' ⟨rfl,rfl⟩)
   refine zab ⟨⟨⟨_,hb8⟩,rfl⟩,?_⟩
   refine zak (i:=10) rfl (by kernel_rfl) rfl ?_
   unfold zap
   simp only [zad,zac,zaa,zX1,zX2,zX3]
   go_wp2
   have hbm:=hB1 w7 (.cells #[.int .i64 0,.int .i64 0] 50)
   have hb9:=hb8.trans (hbm.mono hb8.size)
   refine zab ⟨⟨⟨_,hb9⟩,rfl⟩,?_⟩
   refine zak (i:=11) rfl (by kernel_rfl) rfl ?_
   unfold zap
   simp only [zad,zac,zaa,zX1,zX2,zX3]
   go_wp2_with (go_at_call 51;refine (zgl _).mono ?_;rintro e w' ⟨rfl,rfl⟩)
   refine zab ⟨⟨⟨_,hb9⟩,rfl⟩,?_⟩
   refine zau rfl (by kernel_rfl) ?_
   simp only [zad,zac,zaa,zX1,zX2,zX3]
   clear hb8 hbm hb7 TK hb5 hb6
   replace e0:=zas hb9 e0
   replace e1:=zas hb9 e1
   replace e2:=zas hb9 e2
   replace HLN:=Lib.hid (HLN.out.keep hb9)
   replace HB4:=Lib.hid (HB4.out.trans (hb9.mono (by omega)))
   replace hs4:=Nat.le_trans hs4 hb9.size
   clear hb9
   generalize w7.alloc (.cells #[.int .i64 0,.int .i64 0] 50)=w9 at *
   go_wp2
   refine zab ?_
   have hbq:=hB1 w9 (.cells #[.int .i64 s] 3)
   have kq:=hA1 w9 (.cells #[.int .i64 s] 3)
   have NX:=next_ok (w9.alloc (.cells #[.int .i64 s] 3)) B b p q ⟨⟨some ⟨w9.heap.size,0,none⟩,1,1⟩,[s],1⟩ (HLN.out.keep hbq) hlt htn ⟨rfl,zby (cs:=#[.int .i64 s]) kq⟩ (Nat.le_refl 1) (by have:=hbq.size;omega)
   have HBQ:=Lib.hid (HB4.out.trans (hbq.mono (by omega)))
   have hsq:=hbq.size
   clear hbq kq U0
   go_wp2_with (go_at_call 321;refine NX.mono ?_;rintro e wz ⟨bz,Az,cz,rfl,hgz,hLz,hbz⟩)
   go_ret2
   exact ⟨bz,Az,cz,_,rfl,by rw [HBW.out];omega,hLz,by rw [HBW.out];exact HBQ.out.trans (hbz.mono (by omega))⟩
 · go_wp2
   refine zab ⟨⟨⟨_,hb6⟩,rfl⟩,?_⟩
   refine zak (i:=2) rfl (by kernel_rfl) rfl ?_
   unfold zap
   simp only [zad,zac,zaa,zX1,zX2,zX3]
   go_wp2_with (go_at_call 52;refine (U0 _ _).mono ?_;rintro e w' ⟨rfl,rfl⟩)
   refine zab ⟨⟨⟨_,hb6⟩,rfl⟩,?_⟩
   generalize w5.alloc (.cells #[.int .i64 s] 3)=w6 at *
   refine zak (i:=7) rfl (by kernel_rfl) rfl ?_
   unfold zap
   simp only [zad,zac,zaa,zX1,zX2,zX3]
   go_wp2_with (go_at_call 320;refine TK.mono ?_;rintro e w7 ⟨rfl,hb7⟩)
   have hb8:=hb6.trans (hb7.mono hb6.size)
   refine zab ⟨⟨⟨_,hb8⟩,rfl⟩,?_⟩
   refine zak (i:=8) rfl (by kernel_rfl) rfl ?_
   unfold zap
   simp only [zad,zac,zaa,zX1,zX2,zX3]
   go_wp2
   refine zab ⟨⟨⟨_,hb8⟩,rfl⟩,?_⟩
   refine zak (i:=9) rfl (by kernel_rfl) rfl ?_
   unfold zap
   simp only [zad,zac,zaa,zX1,zX2,zX3]
   go_wp2_with (go_at_call 52;refine (U0 _ _).mono ?_;rintro e w' ⟨rfl,rfl⟩)
   refine zab ⟨⟨⟨_,hb8⟩,rfl⟩,?_⟩
   refine zak (i:=10) rfl (by kernel_rfl) rfl ?_
   unfold zap
   simp only [zad,zac,zaa,zX1,zX2,zX3]
   go_wp2
   have hbm:=hB1 w7 (.cells #[.int .i64 0,.int .i64 0] 50)
   have hb9:=hb8.trans (hbm.mono hb8.size)
   refine zab ⟨⟨⟨_,hb9⟩,rfl⟩,?_⟩
   refine zak (i:=11) rfl (by kernel_rfl) rfl ?_
   unfold zap
   simp only [zad,zac,zaa,zX1,zX2,zX3]
   go_wp2_with (go_at_call 51;refine (zgl _).mono ?_;rintro e w' ⟨rfl,rfl⟩)
   refine zab ⟨⟨⟨_,hb9⟩,rfl⟩,?_⟩
   refine zau rfl (by kernel_rfl) ?_
   simp only [zad,zac,zaa,zX1,zX2,zX3]
   clear hb8 hbm hb7 TK hb5 hb6
   replace e0:=zas hb9 e0
   replace e1:=zas hb9 e1
   replace e2:=zas hb9 e2
   replace HLN:=Lib.hid (HLN.out.keep hb9)
   replace HB4:=Lib.hid (HB4.out.trans (hb9.mono (by omega)))
   replace hs4:=Nat.le_trans hs4 hb9.size
   clear hb9
   generalize w7.alloc (.cells #[.int .i64 0,.int .i64 0] 50)=w9 at *
   go_wp2
   refine zab ?_
   have hbq:=hB1 w9 (.cells #[.int .i64 s] 3)
   have kq:=hA1 w9 (.cells #[.int .i64 s] 3)
   have NX:=next_ok (w9.alloc (.cells #[.int .i64 s] 3)) B b p q ⟨⟨some ⟨w9.heap.size,0,none⟩,1,1⟩,[s],1⟩ (HLN.out.keep hbq) hlt htn ⟨rfl,zby (cs:=#[.int .i64 s]) kq⟩ (Nat.le_refl 1) (by have:=hbq.size;omega)
   have HBQ:=Lib.hid (HB4.out.trans (hbq.mono (by omega)))
   have hsq:=hbq.size
   clear hbq kq U0
   go_wp2_with (go_at_call 321;refine NX.mono ?_;rintro e wz ⟨bz,Az,cz,rfl,hgz,hLz,hbz⟩)
   go_ret2
   exact ⟨bz,Az,cz,_,rfl,by rw [HBW.out];omega,hLz,by rw [HBW.out];exact HBQ.out.trans (hbz.mono (by omega))⟩
end Go.Proofs.YtfdmeojcopkaoaaGreatDoor
namespace Go.Proofs.YtfdmeojcopkaoaaGreatDoor
open Go.RowKit
theorem apply1_ok (w:World) (B b:Nat) (p:PlantV) (q:LsV) (t:LtV) (s:Int) (r:RtV) (rest:List Int) (h:LnAt w B b p q) (hS:LsS q) (hi:q.trs[0]?=some t) (hc:t.chain=[s]) (hu:t.under=1) (hr:p.rts[0]?=some r) (hsec:r.secs=s :: rest) (hrl:rest.length≤900) (hr1:0<rest.length)
 (htk:zf9 q rest=false) (hli:LiesOk p q r r.secs) (hp:p.ws.n≤1000) (hB:B≤w.heap.size) :
 Calls Tryz.prog 263 #[.pointer (some ⟨b,0,none⟩),.agg #[.int .i64 1,.int .i64 0,.int .i64 0]] w (ApPost w p q (s :: rest) 1):=by
 have hb0:=hB1 w (.cells #[.int .i64 1,.int .i64 0,.int .i64 0] 292)
 have k0:=hA1 w (.cells #[.int .i64 1,.int .i64 0,.int .i64 0] 292)
 have hs:=hS1 w (.cells #[.int .i64 1,.int .i64 0,.int .i64 0] 292)
 have hlt:0<q.tr.n:=by rw [← h.st.trs.1];exact (List.getElem?_eq_some_iff.1 hi).1
 have htn:q.tr.n≤1000:=by rw [← h.st.trs.1];exact hS.1
 obtain ⟨bb,off,hA,hbB,z0,z1⟩:=Rd.lt (h.keep hb0).st.trs.2 hi
 have hsn:=(h.st.t t (List.mem_of_getElem? hi)).1
 have hcr:=(h.st.t t (List.mem_of_getElem? hi)).2
 have htc:=h.st.cap.2.2 t (List.mem_of_getElem? hi)
 rw [hc] at hsn hcr
 obtain ⟨⟨tA,tn,tc⟩,ch,un⟩:=t
 simp only at hsn hc z0 z1 hu hcr htc
 subst hu
 obtain rfl:1=tn:=by simpa using hsn
 obtain ⟨cb,co,rfl,hcb,c0⟩:=hcr.at_ (k:=0) (u:=.int .i64 s) rfl
 rw [Nat.add_zero] at c0
 have HCR:=Lib.hid (hcr.keep hb0)
 replace c0:=zas hb0 c0
 rw [Nat.zero_mul,Nat.add_zero] at z0 z1
 have HH:=Lib.hid (h.keep hb0)
 have HB:=Lib.hid hb0
 clear hb0 h hi hc hsn
 go_enter Tryz.func263,Tryz.ntmps263
 go_upto_region 1 with (fail)
 generalize w.alloc (.cells #[.int .i64 1,.int .i64 0,.int .i64 0] 292)=w0 at *
 generalize hbw:w.heap.size=bw at *
 have HBW:=Lib.hid hbw
 clear hbw
 obtain ⟨e0,e1,e2⟩:_∧_∧_:=zbc k0
 obtain ⟨_,_,_,_,_,d5,_⟩:_∧_∧_∧_∧_∧_∧_:=zdb HH.out.blk
 simp only [SlV.v,hA] at d5
 go_upto_region 8 with (fail)
 have x0:=fun y:Xt w0=>y.cell e1
 have x1:=fun y:Xt w0=>y.cell d5
 have x2:=fun y:Xt w0=>y.cell z0
 have x3:=fun y:Xt w0=>y.cell z1
 refine zaj [10] (fun w'=>∃ y:Xt w0,w'=y.1) (by kernel_rfl) ⟨⟨w0.drew,(Below.refl _ _).drew⟩,rfl⟩ ?_
 refine zao [0,1,2,3,4,5,6,7,8] 2 rfl (by kernel_rfl) ?_
 simp only [zad,zac,zaa,zX1,zX2,zX3]
 repeat (go_big_quiet_step (fail))
 refine wpQuiet_nil ?_
 have hbd:Below w0.heap.size w0 w0.drew:=(Below.refl _ _).drew
 show wpE _ _ _ _ _ _ _ _ _ w0.drew
 generalize w0.drew=wd at *
 clear x0 x1 x2 x3 d5 z0 z1 e0 e1 e2
 refine zak (i:=9) rfl (by kernel_rfl) rfl ?_
 unfold zap
 simp only [zad,zac,zaa,zX1,zX2,zX3]
 go_wp2
 have hbn:=hB1 wd (.cells #[.slice none 0 0,.int .i64 0] 219)
 have k3:=hA1 wd (.cells #[.slice none 0 0,.int .i64 0] 219)
 have hsd:=hbd.size
 have hbe:=hbd.trans (hbn.mono hsd)
 refine zab ⟨⟨⟨_,hbe⟩,rfl⟩,?_⟩
 generalize wd.alloc (.cells #[.slice none 0 0,.int .i64 0] 219)=w2 at *
 generalize wd.heap.size=y at *
 refine zau rfl (by kernel_rfl) ?_
 simp only [zad,zac,zaa,zX1,zX2,zX3]
 refine wpList_store_row rfl 219 _ _ rfl y #[.slice (some ⟨cb,co,none⟩) 1 tc,.int .i64 1] rfl rfl 219 _ k3 (by kernel_rfl) rfl (by kernel_rfl) ?_
 go_wp2
 refine zab ?_
 have k4:=setRow_heap w2 y _ #[.slice (some ⟨cb,co,none⟩) 1 tc,.int .i64 1] 219 (0,0) k3
 have hb4:Below w0.heap.size w0 (w2.setRow y #[.slice (some ⟨cb,co,none⟩) 1 tc,.int .i64 1]):=below_setRow hbe hsd _
 clear hbn k3 hbe hbd
 change Exit.then _ _ Exit.normal _ (w2.setRow y #[.slice (some ⟨cb,co,none⟩) 1 tc,.int .i64 1])
 generalize w2.setRow y #[.slice (some ⟨cb,co,none⟩) 1 tc,.int .i64 1]=w4 at *
 obtain ⟨f0,f1⟩:_∧_:=zay k4
 obtain ⟨e0,e1,e2⟩:_∧_∧_:=zbc (blk hb4 k0)
 have HLN:=Lib.hid (HH.out.keep hb4)
 have HB4:=Lib.hid (HB.out.trans (hb4.mono (by omega)))
 have hs4:=Nat.le_trans hs hb4.size
 have HBX:=Lib.hid hb4
 clear hb4 k0 HH hA
 have U1:=fun W=>zbp false 12 12 rfl W
 replace c0:=zas HBX.out c0
 replace HCR:=Lib.hid (HCR.out.keep HBX.out)
 go_upto_region 20 with (go_at_call 52;refine (U1 _).mono ?_;rintro e w' ⟨rfl,rfl⟩)
 obtain ⟨rb,ro,hrA,hrb,g0,g1,g2⟩:=Rd.rt HLN.out.plant.rts.2 hr
 have hrlen:0<p.rs.n:=by rw [← HLN.out.plant.rts.1];exact (List.getElem?_eq_some_iff.1 hr).1
 obtain ⟨hrs1,hrs2⟩:=HLN.out.plant.rt r (List.mem_of_getElem? hr)
 have hrc:=HLN.out.plant.cap.2.2.2.2 r (List.mem_of_getElem? hr)
 rw [Nat.zero_mul,Nat.add_zero] at g0 g1 g2
 obtain ⟨_,_,_,d3,_,_,_⟩:_∧_∧_∧_∧_∧_∧_:=zdb HLN.out.blk
 simp only [SlV.v,hrA] at d3
 have x0:=fun y:Xt w4=>y.cell e2
 have x1:=fun y:Xt w4=>y.cell d3
 have x2:=fun y:Xt w4=>y.cell g0
 have x3:=fun y:Xt w4=>y.cell g1
 have x4:=fun y:Xt w4=>y.cell g2
 refine zaj [10] (fun w'=>∃ y:Xt w4,w'=y.1) (by kernel_rfl) ⟨⟨w4.drew,(Below.refl _ _).drew⟩,rfl⟩ ?_
 refine zao [0,1,2,3,4,5,6,7,8] 2 rfl (by kernel_rfl) ?_
 simp only [zad,zac,zaa,zX1,zX2,zX3]
 repeat (go_big_quiet_step (fail))
 refine wpQuiet_nil ?_
 have hbd:Below w4.heap.size w4 w4.drew:=(Below.refl _ _).drew
 show wpE _ _ _ _ _ _ _ _ _ w4.drew
 generalize w4.drew=wd at *
 clear x0 x1 x2 x3 x4 d3 g0 g1 g2
 refine zak (i:=9) rfl (by kernel_rfl) rfl ?_
 unfold zap
 simp only [zad,zac,zaa,zX1,zX2,zX3]
 go_wp2
 have hbn:=hB1 wd (.cells #[.string ⟨#[]⟩,.slice none 0 0,.slice none 0 0] 70)
 have k5:=hA1 wd (.cells #[.string ⟨#[]⟩,.slice none 0 0,.slice none 0 0] 70)
 have hsd5:=hbd.size
 have hbe:=hbd.trans (hbn.mono hsd5)
 refine zab ⟨⟨⟨_,hbe⟩,rfl⟩,?_⟩
 generalize wd.alloc (.cells #[.string ⟨#[]⟩,.slice none 0 0,.slice none 0 0] 70)=w5 at *
 generalize wd.heap.size=y5 at *
 refine zau rfl (by kernel_rfl) ?_
 simp only [zad,zac,zaa,zX1,zX2,zX3]
 refine wpList_store_row rfl 70 _ _ rfl y5 #[.string r.nm,.slice r.s.A r.s.n r.s.c,.slice r.d.A r.d.n r.d.c] rfl rfl 70 _ k5 (by kernel_rfl) rfl (by kernel_rfl) ?_
 go_wp2
 refine zab ?_
 have k6:=setRow_heap w5 y5 _ #[.string r.nm,.slice r.s.A r.s.n r.s.c,.slice r.d.A r.d.n r.d.c] 70 (0,0) k5
 have hb6:Below w4.heap.size w4 (w5.setRow y5 #[.string r.nm,.slice r.s.A r.s.n r.s.c,.slice r.d.A r.d.n r.d.c]):=below_setRow hbe hsd5 _
 clear hbn k5 hbe hbd
 change Exit.then _ _ Exit.normal _ (w5.setRow y5 #[.string r.nm,.slice r.s.A r.s.n r.s.c,.slice r.d.A r.d.n r.d.c])
 generalize w5.setRow y5 #[.string r.nm,.slice r.s.A r.s.n r.s.c,.slice r.d.A r.d.n r.d.c]=w6 at *
 rw [hsec] at hrs1
 obtain ⟨hrn,hrr⟩:=hrs1
 obtain ⟨sb,so,hsA,hsb,s0⟩:=(hrr.keep hb6).at_ (k:=0) (u:=.int .i64 s) rfl
 rw [Nat.add_zero] at s0
 replace c0:=zas hb6 c0
 replace HCR:=Lib.hid (HCR.out.keep hb6)
 obtain ⟨m,hm⟩:∃ m,rest.length=m:=⟨_,rfl⟩
 have hrn2:r.s.n=m+1:=by rw [← hrn,← hm];rfl
 replace HLN:=Lib.hid (HLN.out.keep hb6)
 replace HB4:=Lib.hid (HB4.out.trans (hb6.mono (by omega)))
 replace hs4:=Nat.le_trans hs4 hb6.size
 obtain ⟨f0,f1⟩:_∧_:=zay (blk hb6 k4)
 obtain ⟨e0,e1,e2⟩:_∧_∧_:=⟨zas hb6 e0,zas hb6 e1,zas hb6 e2⟩
 obtain ⟨g0,g1,g2⟩:_∧_∧_:=zbc k6
 rw [hsA,hrn2] at g1
 have hc2:1≤r.s.c:=by omega
 have HB6X:=Lib.hid hb6
 clear hb6
 have hc9:¬ r.s.c=1:=by omega
 go_upto_region 22 with (fail)
 have x0:=fun y:Xt w6=>y.cell g0
 have x1:=fun y:Xt w6=>y.cell g1
 have x2:=fun y:Xt w6=>y.cell g2
 have x3:=fun y:Xt w6=>y.cell s0
 have x4:=fun y:Xt w6=>y.cell f0
 have x5:=fun y:Xt w6=>y.cell c0
 refine zaj [25] (fun w'=>∃ y:Xt w6,w'=y.1) (by kernel_rfl) ⟨⟨w6.drew,(Below.refl _ _).drew⟩,rfl⟩ ?_
 refine zao [0,1,2,3,4,5,6,7,8,9,10,12,13,17,18,19,20] 9 rfl (by kernel_rfl) ?_
 simp only [zad,zac,zaa,zX1,zX2,zX3]
 repeat (go_big_quiet_step (fail))
 refine wpQuiet_nil ?_
 have hb7:Below w6.heap.size w6 w6.drew:=(Below.refl _ _).drew
 show wpE _ _ _ _ _ _ _ _ _ w6.drew
 generalize w6.drew=w7 at *
 clear x0 x1 x2 x3 x4 x5
 have hrr7:Rd w7 B (some ⟨sb,so,none⟩) (zah (s :: rest)):=by
  have h9:=((hrr.keep HB6X.out).keep hb7)
  rwa [hsA] at h9
 have U0:=fun e W=>zbp true e 0 rfl W
 have TK:=taken_any w7 B b p q (some ⟨sb,so+1,none⟩) m (r.s.c - 1) rest (HLN.out.keep hb7) hS (by have:=hb7.size;omega) hm (by omega) ((zfh hrr7).mono (by have:=hb7.size;omega))
 rw [htk] at TK
 have HRT:Hid (Rd w6 B (some ⟨sb,so+1,none⟩) (zah rest)):=zfh (by have h9:=hrr.keep HB6X.out;rwa [hsA] at h9)
 have HRN2:=Lib.hid hrn2
 have HC9:=Lib.hid hc9
 clear hrn2 hc9
 refine zak (i:=11) rfl (by kernel_rfl) rfl ?_
 unfold zap
 simp only [zad,zac,zaa,zX1,zX2,zX3]
 go_wp2_with (go_at_call 52;refine (U0 _ _).mono ?_;rintro e w' ⟨rfl,rfl⟩)
 refine zab ⟨⟨⟨_,hb7⟩,rfl⟩,?_⟩
 refine zak (i:=14) rfl (by kernel_rfl) rfl ?_
 unfold zap
 simp only [zad,zac,zaa,zX1,zX2,zX3]
 go_wp2_with (go_at_call 320;refine TK.mono ?_;rintro e w8 ⟨rfl,hb8⟩)
 have hb9:=hb7.trans (hb8.mono hb7.size)
 refine zab ⟨⟨⟨_,hb9⟩,rfl⟩,?_⟩
 have LI:=lies_ok w8 B b p q r (some ⟨sb,so,none⟩) (m+1) r.s.c (s :: rest) (HLN.out.keep hb9) (hrs2.keep (HB6X.out.trans (hb9.mono HB6X.out.size))) (hrr7.keep hb8) (by simp [hm]) (by omega) hp (by rw [← hsec];exact hli)
 rw [hsA,HRN2.out] at LI
 clear hrr7 hrr hrs2 TK hli
 refine zak (i:=15) rfl (by kernel_rfl) rfl ?_
 unfold zap
 simp only [zad,zac,zaa,zX1,zX2,zX3]
 go_wp2
 refine zab ⟨⟨⟨_,hb9⟩,rfl⟩,?_⟩
 refine zak (i:=16) rfl (by kernel_rfl) rfl ?_
 unfold zap
 simp only [zad,zac,zaa,zX1,zX2,zX3]
 go_wp2_with (go_at_call 52;refine (U0 _ _).mono ?_;rintro e w' ⟨rfl,rfl⟩)
 refine zab ⟨⟨⟨_,hb9⟩,rfl⟩,?_⟩
 refine zak (i:=21) rfl (by kernel_rfl) rfl ?_
 unfold zap
 simp only [zad,zac,zaa,zX1,zX2,zX3]
 go_wp2_with (go_at_call 322;refine LI.mono ?_;rintro e w9 ⟨rfl,hb10⟩)
 have hb11:=hb9.trans (hb10.mono hb9.size)
 refine zab ⟨⟨⟨_,hb11⟩,rfl⟩,?_⟩
 clear LI
 refine zak (i:=22) rfl (by kernel_rfl) rfl ?_
 unfold zap
 simp only [zad,zac,zaa,zX1,zX2,zX3]
 go_wp2_with (go_at_call 52;refine (U0 _ _).mono ?_;rintro e w' ⟨rfl,rfl⟩)
 refine zab ⟨⟨⟨_,hb11⟩,rfl⟩,?_⟩
 refine zak (i:=23) rfl (by kernel_rfl) rfl ?_
 unfold zap
 simp only [zad,zac,zaa,zX1,zX2,zX3]
 go_wp2
 have hbn:=hB1 w9 (.cells #[.int .i64 0,.int .i64 0,.int .i64 0] 50)
 have kA:=hA1 w9 (.cells #[.int .i64 0,.int .i64 0,.int .i64 0] 50)
 have hbe3:=hb11.trans (hbn.mono hb11.size)
 refine zab ⟨⟨⟨_,hbe3⟩,rfl⟩,?_⟩
 refine zak (i:=24) rfl (by kernel_rfl) rfl ?_
 unfold zap
 simp only [zad,zac,zaa,zX1,zX2,zX3]
 go_wp2_with (go_at_call 51;refine (lkFirst3z _).mono ?_;rintro e w' ⟨rfl,rfl⟩)
 refine zab ⟨⟨⟨_,hbe3⟩,rfl⟩,?_⟩
 refine zau rfl (by kernel_rfl) ?_
 simp only [zad,zac,zaa,zX1,zX2,zX3]
 have hbz:=HB6X
 replace e0:=zas hbe3 e0
 replace e1:=zas hbe3 e1
 replace e2:=zas hbe3 e2
 replace f0:=zas hbe3 f0
 replace f1:=zas hbe3 f1
 replace HCR:=Lib.hid (HCR.out.keep hbe3)
 replace HLN:=Lib.hid (HLN.out.keep hbe3)
 replace HB4:=Lib.hid (HB4.out.trans (hbe3.mono (by omega)))
 replace hs4:=Nat.le_trans hs4 hbe3.size
 clear hb9 hb8 hb10 hb11 hbn kA hbz hb7
 have HRR9:Hid (Rd (w9.alloc (.cells #[.int .i64 0,.int .i64 0,.int .i64 0] 50)) B (some ⟨sb,so+1,none⟩) (zah rest)):=HRT.out.keep hbe3
 clear hbe3
 generalize w9.alloc (.cells #[.int .i64 0,.int .i64 0,.int .i64 0] 50)=wa at *
 go_wp2
 refine zab ?_
 have HU0:=Lib.hid U0
 clear U0
 go_upto_region 25 with (fail)
 have x1:=fun y:Xt wa=>y.cell e1
 have x2:=fun y:Xt wa=>y.cell f0
 have x3:=fun y:Xt wa=>y.cell f1
 refine zaj [11,12] (fun w'=>∃ y:Xt wa,w'=y.1) (by kernel_rfl) ⟨⟨wa.drew,(Below.refl _ _).drew⟩,rfl⟩ ?_
 refine zao [0,1,2,3,4,5,8,9] 5 rfl (by kernel_rfl) ?_
 simp only [zad,zac,zaa,zX1,zX2,zX3]
 repeat (go_big_quiet_step (fail))
 refine wpQuiet_nil ?_
 have hbd:Below wa.heap.size wa wa.drew:=(Below.refl _ _).drew
 show wpE _ _ _ _ _ _ _ _ _ wa.drew
 generalize wa.drew=wb at *
 clear x1 x2 x3
 refine zak (i:=6) rfl (by kernel_rfl) rfl ?_
 unfold zap
 simp only [zad,zac,zaa,zX1,zX2,zX3]
 go_wp2
 have hbq0:=hB1 wb (.cells #[.slice (some ⟨cb,co,none⟩) 1 tc,.slice (some ⟨sb,so+1,none⟩) m (r.s.c - 1)] 32)
 have kq:=hA1 wb (.cells #[.slice (some ⟨cb,co,none⟩) 1 tc,.slice (some ⟨sb,so+1,none⟩) m (r.s.c - 1)] 32)
 have hbq:=hbd.trans (hbq0.mono hbd.size)
 refine zab ⟨⟨⟨_,hbq⟩,rfl⟩,?_⟩
 have CC:=Concat2_ok (wb.alloc (.cells #[.slice (some ⟨cb,co,none⟩) 1 tc,.slice (some ⟨sb,so+1,none⟩) m (r.s.c - 1)] 32)) B wb.heap.size (some ⟨cb,co,none⟩) (some ⟨sb,so+1,none⟩) tc (r.s.c - 1) [s] rest (HCR.out.keep hbq) (HRR9.out.keep hbq) (by simp) (by simp) (by omega)
  ((cell_of_row _ wb.heap.size 0 _ _ _ kq).trans rfl) ((cell_of_row _ wb.heap.size 1 _ _ _ kq).trans (by rw [hm];rfl))
 rw [hm] at CC
 change Calls _ _ _ _ (zew _ 3 1 (zah (s :: rest)) (1+m)) at CC
 refine zak (i:=7) rfl (by kernel_rfl) rfl ?_
 unfold zap
 simp only [zad,zac,zaa,zX1,zX2,zX3]
 go_wp2_with (go_at_call 323;refine CC.mono ?_;rintro e wr ⟨Ar,cr,rfl,hcr9,hor,hbr0⟩)
 have hbr:=hbq.trans (hbr0.mono hbq.size)
 refine zab ⟨⟨⟨_,hbr⟩,rfl⟩,?_⟩
 have NX:=next_ok wr B b p q ⟨⟨Ar,1+m,cr⟩,s :: rest,1⟩ (HLN.out.keep hbr) hlt htn ⟨by simp [hm];omega,zbe hor⟩ hcr9 (by have:=hbr.size;omega)
 refine zak (i:=10) rfl (by kernel_rfl) rfl ?_
 unfold zap
 simp only [zad,zac,zaa,zX1,zX2,zX3]
 go_wp2_with (go_at_call 321;refine NX.mono ?_;rintro e wz ⟨bz,Az,cz,rfl,hgz,hLz,hbz⟩)
 have hbs:=hbr.trans (hbz.mono hbr.size)
 refine zab ⟨⟨⟨_,hbs⟩,rfl⟩,?_⟩
 refine zau rfl (by kernel_rfl) ?_
 simp only [zad,zac,zaa,zX1,zX2,zX3]
 go_wp2
 refine zab ?_
 go_wp2
 go_ret2
 exact ⟨bz,Az,cz,_,rfl,by rw [HBW.out];have:=hbr.size;omega,hLz,by rw [HBW.out];exact HB4.out.trans (hbs.mono (by omega))⟩
end Go.Proofs.YtfdmeojcopkaoaaGreatDoor
