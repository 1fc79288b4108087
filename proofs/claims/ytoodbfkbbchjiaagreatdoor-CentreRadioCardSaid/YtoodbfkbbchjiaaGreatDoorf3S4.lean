import Derived.Test.YtoodbfkbbchjiaaGreatDoorf3S3
set_option maxRecDepth 100000
set_option maxHeartbeats 16000000
namespace Go.Proofs.YtoodbfkbbchjiaaGreatDoor
open Go.RowKit
theorem netCopy_any (w:World) (B:Nat) (p:NetV) (h:FeedAt w B p) (hS:FeedS p) (hB:B≤w.heap.size) :
 Calls Tryz.prog 26 #[.agg (zc9 p).toArray] w (NetPost w p):=by
 obtain ⟨⟨As,ns,cs⟩,sts,⟨Af,nf,cf⟩,fss,⟨At,nt,ct⟩,tns⟩:=p
 show Calls Tryz.prog 26 #[.agg #[.slice As ns cs,.slice Af nf cf,.slice At nt ct]] w _
 have hl1:sts.length=ns:=h.sts.1
 have hl2:fss.length=nf:=h.fss.1
 have hl3:tns.length=nt:=h.tns.1
 have hn1:ns≤1000:=by rw [← hl1];exact hS.sts.1
 have hn2:nf≤1000:=by rw [← hl2];exact hS.fss
 have hn3:nt≤1000:=by rw [← hl3];exact hS.tns.1
 have k0:((w.alloc (.cells #[.slice As ns cs,.slice Af nf cf,.slice At nt ct] 31)).alloc (.cells #[.slice none 0 0,.slice none 0 0,.slice none 0 0] 31)).heap[w.heap.size]?=some (.cells #[.slice As ns cs,.slice Af nf cf,.slice At nt ct] 31 (0,0)):=by
  rw [zae,if_neg (by simp),zae,if_pos rfl]
 have k1:((w.alloc (.cells #[.slice As ns cs,.slice Af nf cf,.slice At nt ct] 31)).alloc (.cells #[.slice none 0 0,.slice none 0 0,.slice none 0 0] 31)).heap[w.heap.size+1]?=some (.cells #[.slice none 0 0,.slice none 0 0,.slice none 0 0] 31 (0,0)):=by
  rw [zae,if_pos (by simp)]
 have hb0:=hB2 w (.cells #[.slice As ns cs,.slice Af nf cf,.slice At nt ct] 31) (.cells #[.slice none 0 0,.slice none 0 0,.slice none 0 0] 31)
 have hs:=hS2 w (.cells #[.slice As ns cs,.slice Af nf cf,.slice At nt ct] 31) (.cells #[.slice none 0 0,.slice none 0 0,.slice none 0 0] 31)
 have HH:=Lib.hid ((h.keep hb0).mono hB)
 have HS:=Lib.hid hS
 have HB:=Lib.hid hb0
 have HL1:=Lib.hid hl1
 have HL2:=Lib.hid hl2
 have HL3:=Lib.hid hl3
 clear hb0 h hS hl1 hl2 hl3
 go_enter Tryz.func26,Tryz.ntmps26
 go_upto_region 1 with (fail)
 generalize ((w.alloc (.cells #[.slice As ns cs,.slice Af nf cf,.slice At nt ct] 31)).alloc (.cells #[.slice none 0 0,.slice none 0 0,.slice none 0 0] 31))=w0 at *
 generalize hbw:w.heap.size=bw at *
 have HBW:=Lib.hid hbw
 clear hbw
 obtain ⟨d0,d1,d2⟩:_∧_∧_:=zba k0
 have x0:=fun y:Xt w0=>y.cell d0
 have x1:=fun y:Xt w0=>y.cell d1
 refine zak [10] (fun w'=>∃ y:Xt w0,w'=y.1) (by kernel_rfl) ⟨⟨w0.drew,(Below.refl _ _).drew⟩,rfl⟩ ?_
 refine zdx [1,2,5,6] 7 rfl (by kernel_rfl) ?_
 simp only [zad,zac,zaa,zX1,zX2,zX3]
 repeat (go_big_quiet_step (fail))
 refine wpQuiet_nil ?_
 have hbd:Below w0.heap.size w0 w0.drew:=(Below.refl _ _).drew
 show wpE _ _ _ _ _ _ _ _ _ w0.drew
 generalize w0.drew=wd at *
 clear x0 x1
 refine zdt (g:=1) [0,3,4,7,8,9] (NetI bw As Af At ns cs nf cf nt ct sts fss w0) rfl (by kernel_rfl) ?_ ?_ ?_
 · exact ⟨undef,undef,undef,undef,undef,undef,rfl,hbd,fun h=>absurd (show false=true from h) (by decide),fun h=>absurd (show false=true from h) (by decide),fun h=>absurd (show false=true from h) (by decide),fun h=>absurd (show false=true from h) (by decide),fun h=>absurd (show false=true from h) (by decide),fun h=>absurd (show false=true from h) (by decide)⟩
 · intro a w8 hS8 hI
   obtain ⟨e3,e6,e9,e10,e13,e14,rfl,hb8,_,hF9,_,hF13,hF14,hB3⟩:=hI
   obtain ⟨A1,c1,rfl,hc1,hf1⟩:=hF9 (by kernel_rfl)
   obtain ⟨A2,c2,rfl,hc2,hf2⟩:=hF13 (by kernel_rfl)
   obtain ⟨_,_,rfl⟩:=hF14 (by kernel_rfl)
   obtain ⟨b3,rfl,hx3,hk3⟩:=hB3 (by kernel_rfl)
   refine zau rfl (by kernel_rfl) ?_
   simp only [zad,zac,zaa,zX1,zX2,zX3]
   unfold netFr
   refine wpList_store_row rfl 31 _ _ rfl b3 #[.slice A1 ns c1,.slice A2 nf c2,.slice none 0 0] rfl rfl 31 _ hk3 (by kernel_rfl) rfl (by kernel_rfl) ?_
   go_wp2
   refine zab ?_
   have hkr:=setRow_heap w8 b3 _ #[.slice A1 ns c1,.slice A2 nf c2,.slice none 0 0] 31 (0,0) hk3
   have hb2:Below w0.heap.size w0 (w8.setRow b3 #[.slice A1 ns c1,.slice A2 nf c2,.slice none 0 0]):=below_setRow hb8 hx3 _
   have ho1:=zaq hf1 #[.slice A1 ns c1,.slice A2 nf c2,.slice none 0 0] (zca hf1 hk3 (by decide))
   have ho2:=zaq hf2 #[.slice A1 ns c1,.slice A2 nf c2,.slice none 0 0] (zca hf2 hk3 (by decide))
   generalize w8.setRow b3 #[.slice A1 ns c1,.slice A2 nf c2,.slice none 0 0]=w2 at *
   have HB2:=Lib.hid hb2
   have HKR:=Lib.hid hkr
   have HO12:=Lib.hid (And.intro ho1 ho2)
   have HX3:=Lib.hid hx3
   have k1z:=(hb2.block (bw+1) (by omega)).trans k1
   clear hb8 hf1 hf2 hk3 hS8 hbd hkr hb2 ho1 ho2 d0 d1 d2
   go_wp2
   go_loopw [4] (fun u wr=>CpnRel w0.heap.size b3 w0 ⟨⟨As,ns,cs⟩,sts,⟨Af,nf,cf⟩,fss,⟨At,nt,ct⟩,tns⟩ A1 A2 c1 c2 u wr) (fun u _=>nt - (intOf u).toNat)
   case atStart=>exact ⟨0,none,0,[],Nat.zero_le _,rfl,HB2.out,HKR.out,⟨HO12.out.1,HO12.out.2,fun t ht=>absurd ht (by simp)⟩,⟨rfl,.inl ⟨rfl,rfl⟩⟩,rfl⟩
   case round =>
    obtain ⟨k,A3,c3,q,hk,rfl,hb,hk3,hO,ho3,hkey⟩:=hrel
    simp only at hk hk3 hkey
    have HKEY:=Lib.hid hkey
    have HBK:=Lib.hid hb
    have HF:=HH.out.belowC (hb.mono (by omega))
    have hsk:=hb.size
    have k0r:=(hb.block bw (by omega)).trans k0
    have k1r:=(hb.block (bw+1) (by omega)).trans k1
    have hb3:=lt_of_block hk3
    obtain ⟨d0,d1,d2⟩:_∧_∧_:=zba k0r
    clear hkey hb HB2 HKR HO12
    by_cases hlt:k<nt
    · have hkl:k<tns.length:=by rw [HL3.out];exact hlt
      obtain ⟨x,hev⟩:∃ ev,tns[k]?=some ev:=⟨_,List.getElem?_eq_getElem hkl⟩
      have hxm:=List.mem_of_getElem? hev
      obtain ⟨hz9,hz8⟩:=(HS.out.tns.2 _ hxm)
      obtain ⟨bb,off,rfl,hbB,z0,z1,z2,z3⟩:=Rd.tn HF.tns.2 hev
      obtain ⟨hxl,hxr⟩:=HF.tn x hxm
      have hba:=hB1 wr (.cells #[.string x.nm,.int .i64 x.e1,.int .i64 x.e2,.slice x.s.A x.s.n x.s.c] 83)
      have k4:=hA1 wr (.cells #[.string x.nm,.int .i64 x.e1,.int .i64 x.e2,.slice x.s.A x.s.n x.s.c] 83)
      have hxr0:=hxr.below (hba.mono (by omega))
      have hOa:=hO.keep hba
      have ho3a:=zaf ho3 hba
      have hk3a:=blk hba hk3
      have hney:=own_hi ho3 (Nat.le_refl wr.heap.size)
      have HBA:=Lib.hid (HBK.out.trans (hba.mono hsk))
      have hsa:=Nat.le_trans hsk hba.size
      have HEV:=Lib.hid hev
      have HXL:=Lib.hid hxl
      have hxn:x.s.n≤1000:=by rw [← hxl];exact hz8
      obtain ⟨i1,hi1,hy0,hy1,hy2⟩:=info_parts info83s
      obtain ⟨i2,hj1,hv0,hv1,hv2⟩:=info_parts info118s
      have hya:wr.heap.size<(wr.alloc (.cells #[.string x.nm,.int .i64 x.e1,.int .i64 x.e2,.slice x.s.A x.s.n x.s.c] 83)).heap.size:=by simp
      clear hkl hev hba HF HBK hxl hz8 hz9 hxm hxr hO ho3 k0r
      go_upto_region 6 with (fail)
      clear z0 z1 z2 z3 d0 d1 d2 hk3
      generalize wr.alloc (.cells #[.string x.nm,.int .i64 x.e1,.int .i64 x.e2,.slice x.s.A x.s.n x.s.c] 83)=wa at *
      generalize wr.heap.size=y at *
      obtain ⟨y0,y1,y2,y3⟩:_∧_∧_∧_:=zbo k4
      have hbz:=hB1 wa (.cells #[] 118)
      go_wp2_with (at_builtin;refine stp ?_)
      unfold Stp
      refine za6 _ rfl _ _ 81 rfl w0.heap.size 118 i2 _ 2 16 Tryz.underlying81 hj1 hv0 hv1 hv2 rfl (by omega) wa.heap.size rfl (by rw [zae,if_pos rfl]) hsa bw x.s.A x.s.n x.s.c (zc4 x.steps) rfl (by rw [spCells_len,HXL.out]) (hxr0.below (hbz.mono (by omega))) (zdr spVals_one _) (by simp only [maxLen];omega) (by omega) (by simp;omega) ?_
      intro g cap w1 hown hgrow _
      have hb1:Below wa.heap.size wa w1:=hbz.grown hgrow (by simp) (fun k hk=>by rw [← Option.some.inj hk];exact Nat.le_refl _)
      have hOb:=hOa.keep hb1
      have ho3b:=zaf ho3a hb1
      have hk3b:=blk hb1 hk3a
      have k4b:=blk hb1 k4
      have HB1:=Lib.hid (HBA.out.trans (hb1.mono hsa))
      have hs1:=Nat.le_trans hsa hb1.size
      obtain ⟨p0,p1,p2,p3⟩:_∧_∧_∧_:=zbo k4b
      have f3:=frozen_of_row w1 y 3 _ _ k4b
      have hneg:=zca hown k4b (by decide)
      clear hbz hgrow hOa ho3a hk3a hb1 y0 y1 y2 y3 HBA k4 hxr0 hv0 hv1 hv2 hj1
      go_upto_region 7 with (fail)
      have k4c:(w1.setCell ⟨y,3,none⟩ (.slice (some ⟨g,0,none⟩) x.s.n cap)).heap[y]?=some (.cells #[.string x.nm,.int .i64 x.e1,.int .i64 x.e2,.slice (some ⟨g,0,none⟩) x.s.n cap] 83 (0,0)):=zdy k4b 3 _
      have hOc:=hOb.other (w':=w1.setCell ⟨y,3,none⟩ (.slice (some ⟨g,0,none⟩) x.s.n cap)) (fun k t cur ht hk=>zdn hk (zct hk k4b (by omega)) _ _ |>.trans hk.symm)
      have ho3c:=zbx (i:=3) (u:=.slice (some ⟨g,0,none⟩) x.s.n cap) ho3b hney
      have hownc:=zbx (i:=3) (u:=.slice (some ⟨g,0,none⟩) x.s.n cap) hown hneg
      have hk3c:=zdn hk3b (zct hk3b k4b (by decide)) 3 (.slice (some ⟨g,0,none⟩) x.s.n cap)
      have HB3:=Lib.hid (HB1.out.setCell (p:=⟨y,3,none⟩) (show w0.heap.size≤y by omega) (.slice (some ⟨g,0,none⟩) x.s.n cap))
      have hs3:w0.heap.size≤(w1.setCell ⟨y,3,none⟩ (.slice (some ⟨g,0,none⟩) x.s.n cap)).heap.size:=by simp;omega
      clear p0 p1 p2 p3 f3 hOb ho3b hk3b k4b HB1 hown hneg hs1
      generalize w1.setCell ⟨y,3,none⟩ (.slice (some ⟨g,0,none⟩) x.s.n cap)=w2 at *
      obtain ⟨y0,y1,y2,y3⟩:_∧_∧_∧_:=zbo k4c
      obtain ⟨b0,b1,b2⟩:_∧_∧_:=zba hk3c
      have hbz:=hB1 w2 (.cells #[.string x.nm,.int .i64 x.e1,.int .i64 x.e2,.slice (some ⟨g,0,none⟩) x.s.n cap] 83)
      go_wp2_with (at_builtin;refine stp ?_)
      unfold Stp
      refine wpList_append_lies _ rfl _ _ 29 rfl w0.heap.size 83 i1 _ 4 56 Tryz.underlying29 hi1 hy0 hy1 hy2 rfl (by omega) (.slice A3 k c3) k _ rfl (ho3c.alloc _) ⟨w2.heap.size,0,none⟩ 1 1 [.string x.nm,.int .i64 x.e1,.int .i64 x.e2,.slice (some ⟨g,0,none⟩) x.s.n cap] rfl rfl (zey (f:=(0,0)) (t:=83) (by rw [zae,if_pos rfl])) (by simp [Value.oneCell']) (by omega) (by simp only [maxLen];omega) (by omega) (by simp;omega) _ rfl ?_
      intro gg cap2 w6 hown6 hgrow6 _ _
      have ho3d:=zaf ho3c hbz
      have hk3d:=blk hbz hk3c
      have hk3e:w6.heap[b3]?=some (.cells #[.slice A1 ns c1,.slice A2 nf c2,.slice A3 k c3] 31 (0,0)):=(hgrow6.block b3 (lt_of_block hk3d) (fun he=>zca ho3d hk3d (by decide) b3 he.symm rfl)).trans hk3d
      have hOd:=(hOc.keep hbz).other (w':=w6) (fun k' t cur ht hk'=>hgrow6.block k' (lt_of_block hk') (fun he=>zca ho3d hk' (by omega) k' he.symm rfl))
      have hownd:=zbc (w':=w6) (zaf hownc hbz) (fun k' cur hk'=>hgrow6.block k' (lt_of_block hk') (fun he=>zca ho3d hk' (by decide) k' he.symm rfl))
      have HB6:=Lib.hid ((HB3.out.trans (hbz.mono hs3)).grown hgrow6 (by simp;omega) (fun j hj=>(zbi ho3d hj).1))
      obtain ⟨b0',b1',b2'⟩:_∧_∧_:=zba hk3e
      have f2:=frozen_of_row w6 b3 2 _ _ hk3e
      clear b0 b1 b2 y0 y1 y2 y3 hOc ho3c hownc hk3c hbz k4c hgrow6 ho3d hk3d HB3 hy0 hy1 hy2 hi1
      go_wp2
      have hk3f:(w6.setCell ⟨b3,2,none⟩ (.slice (some ⟨gg,0,none⟩) (k+1) cap2)).heap[b3]?=some (.cells #[.slice A1 ns c1,.slice A2 nf c2,.slice (some ⟨gg,0,none⟩) (k+1) cap2] 31 (0,0)):=zdy hk3e 2 _
      have HK3:=Lib.hid hk3f
      have HOf:=Lib.hid (hOd.other (w':=w6.setCell ⟨b3,2,none⟩ (.slice (some ⟨gg,0,none⟩) (k+1) cap2)) (fun k t cur ht hk=>zdn hk (zct hk hk3e (by omega)) _ _ |>.trans hk.symm))
      have HOw:=Lib.hid (zbx (i:=2) (u:=.slice (some ⟨gg,0,none⟩) (k+1) cap2) hownd (zca hownd hk3e (by decide)))
      have HO6:=Lib.hid (zbx (i:=2) (u:=.slice (some ⟨gg,0,none⟩) (k+1) cap2) hown6 (zca hown6 hk3e (by decide)))
      have HB7:=Lib.hid (HB6.out.setCell (p:=⟨b3,2,none⟩) HX3.out (.slice (some ⟨gg,0,none⟩) (k+1) cap2))
      clear hk3f hOd hownd hown6 hk3e b0' b1' b2' f2 HB6
      go_roundw
      case rel =>
       refine ⟨k+1,some ⟨gg,0,none⟩,cap2,q++[⟨x.nm,x.e1,x.e2,⟨some ⟨g,0,none⟩,x.s.n,cap⟩,x.steps⟩],hlt,by go_num,HB7.out,HK3.out,⟨HOf.out.sts,HOf.out.fss,fun t ht=>?_⟩,?_,?_⟩
       · rcases List.mem_append.1 ht with h | h
         · exact HOf.out.tn t h
         · rw [List.mem_singleton] at h
           subst h
           exact ⟨HXL.out,HOw.out⟩
       · have e:zeu (q++[⟨x.nm,x.e1,x.e2,⟨some ⟨g,0,none⟩,x.s.n,cap⟩,x.steps⟩])=zeu q++[.string x.nm,.int .i64 x.e1,.int .i64 x.e2,.slice (some ⟨g,0,none⟩) x.s.n cap]:=by simp [zeu,zki,SlV.v]
         rw [e]
         exact HO6.out
       · rw [List.take_add_one,HEV.out,List.map_append,List.map_append,HKEY.out]
         rfl
      case measure=>simp [intOf];omega
    · have hke:nt=k:=by omega
      have hT:tns.take k=tns:=List.take_of_length_le (by rw [HL3.out];omega)
      have HKE:=HKEY.out
      rw [hT] at HKE
      have HKF:=Lib.hid HKE
      have hlq:q.length=nt:=by
       have h9:=congrArg List.length HKE
       rw [List.length_map,List.length_map,HL3.out] at h9
       exact h9
      have HLQ:=Lib.hid hlq
      have HO:=Lib.hid hO
      have HO3:=Lib.hid ho3
      have HKK:=Lib.hid hke
      clear hT HKE hlq hO ho3 hke
      go_wp2_with (with_reducible refine zaw 31 ?_)
      unfold Stp
      refine wpList_load_row rfl 31 _ rfl b3 rfl 31 _ (0,0) _ hk3 Tryz.underlying31 rfl (by kernel_rfl) ?_
      go_wp2_with (with_reducible refine zas 31 ?_)
      unfold Stp
      refine wpList_store_row rfl 31 _ _ rfl (bw+1) _ rfl rfl 31 _ k1r (by kernel_rfl) rfl (by kernel_rfl) ?_
      go_wp2
      have hFO:FeedOw wr w0.heap.size ⟨⟨A1,ns,c1⟩,sts,⟨A2,nf,c2⟩,fss,⟨A3,k,c3⟩,q⟩:=⟨HO.out.sts,HO.out.fss,HO3.out,HO.out.tn,HL1.out,HL2.out,by rw [← HKK.out];exact HLQ.out⟩
      refine bodyPost_ret (v:=.agg #[.slice A1 ns c1,.slice A2 nf c2,.slice A3 k c3]) (results_cell_row rfl _ _ (bw+1) 31 _ (0,0) _ rfl (setRow_heap wr (bw+1) _ _ 31 (0,0) k1r) Tryz.underlying31 rfl (by kernel_rfl)) rfl ⟨⟨⟨A1,ns,c1⟩,sts,⟨A2,nf,c2⟩,fss,⟨A3,k,c3⟩,q⟩,rfl,rfl,HKF.out,rfl,?_,?_⟩
      · rw [HBW.out]
        exact (hFO.setRow _ (by omega)).base (by omega)
      · rw [HBW.out]
        exact below_setRow (HB.out.trans (HBK.out.mono (by omega))) (by omega) _
 · intro i hi L a w8 hL hd hS8 hI
   obtain ⟨e3,e6,e9,e10,e13,e14,rfl,hb8,hE6,hF9,hE10,hF13,hF14,hB3⟩:=hI
   simp only [List.mem_cons,List.not_mem_nil,or_false] at hi
   rcases hi with rfl | rfl | rfl | rfl | rfl | rfl
   · 
     unfold zar
     simp only [zad,zac,zaa,zX1,zX2]
     unfold netFr
     go_wp2
     have hbn:=hB1 w8 (.cells #[] 80)
     have hbx:=hb8.trans (hbn.mono hb8.size)
     exact zab ⟨⟨⟨_,hbx⟩,rfl⟩,⟨e3,_,e9,e10,e13,e14,rfl,hbx,fun _=>⟨w8.heap.size,rfl,hb8.size,fun _=>by rw [zae,if_pos rfl]⟩,fun h=>(hF9 h).keep hbn,fun h=>(hE10 h).keep hbn,fun h=>(hF13 h).keep hbn,fun h=>hF14 h,fun h=>(hB3 h).keep hbn⟩⟩
   · 
     obtain ⟨g,rfl,hg,h0⟩:=hE6 (hd 0 (by kernel_rfl))
     replace h0:=h0 hL
     obtain ⟨i1,hi1,hy0,hy1,hy2⟩:=info_parts info80s
     have hrd:=(HH.out.sts.2).below (hb8.mono (by omega))
     have hgl:=lt_of_block h0
     unfold zar
     simp only [zad,zac,zaa,zX1,zX2,zX3]
     unfold netFr
     refine za6 w8 rfl _ _ 27 rfl w0.heap.size 80 i1 _ 3 32 Tryz.underlying27 hi1 hy0 hy1 hy2 rfl (by omega) g rfl h0 hg bw As ns cs (zff sts) rfl (by rw [stCells_len,HL1.out]) hrd (zdr stVals_one _) (by simp only [maxLen];omega) (by omega) hb8.size ?_
     intro g2 c2 w9 hown hgrow _
     have hbx:Below w0.heap.size w0 w9:=hb8.grown hgrow hb8.size (fun k hk=>by rw [← Option.some.inj hk];exact hg)
     have hcp:=zbn hown
     go_wp2
     exact zab ⟨⟨⟨_,hbx⟩,rfl⟩,⟨e3,_,_,e10,e13,e14,rfl,hbx,fun h=>(hE6 h).used,fun _=>⟨_,_,rfl,hcp,hown⟩,fun h=>(hE10 h).grown hgrow h0 (by decide),fun h=>(hF13 h).grown hgrow h0 (by decide),fun h=>absurd (hF14 h).1 (by rw [hL];decide),fun h=>(hB3 h).grown hgrow h0 (by simp)⟩⟩
   · 
     unfold zar
     simp only [zad,zac,zaa,zX1,zX2,zX3]
     unfold netFr
     go_wp2
     have hbn:=hB1 w8 (.cells #[] 116)
     have hbx:=hb8.trans (hbn.mono hb8.size)
     exact zab ⟨⟨⟨_,hbx⟩,rfl⟩,⟨e3,e6,e9,_,e13,e14,rfl,hbx,fun h=>(hE6 h).keep hbn,fun h=>(hF9 h).keep hbn,fun _=>⟨w8.heap.size,rfl,hb8.size,fun _=>by rw [zae,if_pos rfl]⟩,fun h=>(hF13 h).keep hbn,fun h=>hF14 h,fun h=>(hB3 h).keep hbn⟩⟩
   · 
     obtain ⟨g,rfl,hg,h0⟩:=hE10 (hd 4 (by kernel_rfl))
     replace h0:=h0 hL
     obtain ⟨i1,hi1,hy0,hy1,hy2⟩:=info_parts info116s
     have hrd:=(HH.out.fss.2).below (hb8.mono (by omega))
     have hgl:=lt_of_block h0
     unfold zar
     simp only [zad,zac,zaa,zX1,zX2,zX3]
     unfold netFr
     refine za6 w8 rfl _ _ 28 rfl w0.heap.size 116 i1 _ 4 32 Tryz.underlying28 hi1 hy0 hy1 hy2 rfl (by omega) g rfl h0 hg bw Af nf cf (zfo fss) rfl (by rw [fsCells_len,HL2.out]) hrd (zdr fsVals_one _) (by simp only [maxLen];omega) (by omega) hb8.size ?_
     intro g2 c2 w9 hown hgrow _
     have hbx:Below w0.heap.size w0 w9:=hb8.grown hgrow hb8.size (fun k hk=>by rw [← Option.some.inj hk];exact hg)
     have hcp:=zbn hown
     go_wp2
     exact zab ⟨⟨⟨_,hbx⟩,rfl⟩,⟨e3,e6,e9,_,_,e14,rfl,hbx,fun h=>(hE6 h).grown hgrow h0 (by decide),fun h=>(hF9 h).grown hgrow h0 (by decide),fun h=>(hE10 h).used,fun _=>⟨_,_,rfl,hcp,hown⟩,fun h=>absurd (hF14 h).2.1 (by rw [hL];decide),fun h=>(hB3 h).grown hgrow h0 (by simp)⟩⟩
   · 
     obtain ⟨A1,c1,rfl,hc1,hf1⟩:=hF9 (hd 3 (by kernel_rfl))
     obtain ⟨A2,c2,rfl,hc2,hf2⟩:=hF13 (hd 7 (by kernel_rfl))
     unfold zar
     simp only [zad,zac,zaa,zX1,zX2,zX3]
     unfold netFr
     go_wp2
     exact zab ⟨⟨⟨_,hb8⟩,rfl⟩,⟨e3,e6,_,e10,_,_,rfl,hb8,hE6,hF9,hE10,hF13,fun _=>⟨hd 3 (by kernel_rfl),hd 7 (by kernel_rfl),rfl⟩,hB3⟩⟩
   · 
     unfold zar
     simp only [zad,zac,zaa,zX1,zX2,zX3]
     unfold netFr
     go_wp2
     have hbn:=hB1 w8 (.cells #[.slice none 0 0,.slice none 0 0,.slice none 0 0] 31)
     have hbx:=hb8.trans (hbn.mono hb8.size)
     exact zab ⟨⟨⟨_,hbx⟩,rfl⟩,⟨_,e6,e9,e10,e13,e14,rfl,hbx,fun h=>(hE6 h).keep hbn,fun h=>(hF9 h).keep hbn,fun h=>(hE10 h).keep hbn,fun h=>(hF13 h).keep hbn,fun h=>hF14 h,fun _=>⟨w8.heap.size,rfl,hb8.size,by rw [zae,if_pos rfl]⟩⟩⟩
end Go.Proofs.YtoodbfkbbchjiaaGreatDoor
