import Derived.Test.YtfdmeojcopkaoaaGreatDoorf3Q7
import Derived.Test.YtfdmeojcopkaoaaGreatDoorf3M7
import Derived.Test.YtfdmeojcopkaoaaGreatDoorf3F4
set_option maxRecDepth 100000
set_option maxHeartbeats 16000000
namespace Go.Proofs.YtfdmeojcopkaoaaGreatDoor
open Go.RowKit
def CkR {α:Type} (w0:World) (f:List α→α→Int) (l:List α) (n:Nat) (V:Int) (u:Value) (wr:World):Prop:=∃ k:Nat,k≤n∧u=.int .i64 k∧za4 f (l.take k) (l.drop k)=V∧Below w0.heap.size w0 wr
theorem refPlant_any (w:World) (B:Nat) (p:PlantV) (h:PlantAt w B p) (hS:PlantS p) (hB:B≤w.heap.size):Calls Tryz.prog 92 #[.agg (zan p).toArray] w (zcg w (zch p)):=by
 obtain ⟨⟨As,ns,cs⟩,secs,⟨At,nt,ct⟩,trains,⟨Aw,nw,cw⟩,sws,⟨Ar,nr,cr⟩,rts⟩:=p
 show Calls Tryz.prog 92 #[.agg #[.slice As ns cs,.slice At nt ct,.slice Aw nw cw,.slice Ar nr cr]] w _
 have hl1:secs.length=ns:=h.secs.1
 have hl2:trains.length=nt:=h.trains.1
 have hl3:sws.length=nw:=h.sws.1
 have hl4:rts.length=nr:=h.rts.1
 have hn1:ns≤1000:=by rw [← hl1];exact hS.secs.1
 have hn2:nt≤1000:=by rw [← hl2];exact hS.trains.1
 have hn3:nw≤1000:=by rw [← hl3];exact hS.sws.1
 have hn4:nr≤1000:=by rw [← hl4];exact hS.rts.1
 have k0:(((w.alloc (.cells #[.slice As ns cs,.slice At nt ct,.slice Aw nw cw,.slice Ar nr cr] 26)).alloc (.cells #[.int .i64 0,.int .i64 0] 80)).alloc (.cells #[.int .i64 0,.int .i64 0] 80)).heap[w.heap.size]?=some (.cells #[.slice As ns cs,.slice At nt ct,.slice Aw nw cw,.slice Ar nr cr] 26 (0,0)):=by
  rw [zae,if_neg (by simp;omega),zae,if_neg (by simp),zae,if_pos rfl]
 have k1:(((w.alloc (.cells #[.slice As ns cs,.slice At nt ct,.slice Aw nw cw,.slice Ar nr cr] 26)).alloc (.cells #[.int .i64 0,.int .i64 0] 80)).alloc (.cells #[.int .i64 0,.int .i64 0] 80)).heap[w.heap.size+1]?=some (.cells #[.int .i64 0,.int .i64 0] 80 (0,0)):=by
  rw [zae,if_neg (by simp),zae,if_pos (by simp)]
 have k2:(((w.alloc (.cells #[.slice As ns cs,.slice At nt ct,.slice Aw nw cw,.slice Ar nr cr] 26)).alloc (.cells #[.int .i64 0,.int .i64 0] 80)).alloc (.cells #[.int .i64 0,.int .i64 0] 80)).heap[w.heap.size+1+1]?=some (.cells #[.int .i64 0,.int .i64 0] 80 (0,0)):=by
  rw [zae,if_pos (by simp)]
 have hb0:Below w.heap.size w (((w.alloc (.cells #[.slice As ns cs,.slice At nt ct,.slice Aw nw cw,.slice Ar nr cr] 26)).alloc (.cells #[.int .i64 0,.int .i64 0] 80)).alloc (.cells #[.int .i64 0,.int .i64 0] 80)):=(((Below.refl _ _).alloc (Nat.le_refl _) _).alloc (by simp) _).alloc (by simp;omega) _
 have hs:w.heap.size+3≤(((w.alloc (.cells #[.slice As ns cs,.slice At nt ct,.slice Aw nw cw,.slice Ar nr cr] 26)).alloc (.cells #[.int .i64 0,.int .i64 0] 80)).alloc (.cells #[.int .i64 0,.int .i64 0] 80)).heap.size:=by simp
 have HH:=Lib.hid ((h.keep hb0).mono hB)
 have HS:=Lib.hid hS
 have HB:=Lib.hid hb0
 obtain ⟨V,hV⟩:∃ V,zch ⟨⟨As,ns,cs⟩,secs,⟨At,nt,ct⟩,trains,⟨Aw,nw,cw⟩,sws,⟨Ar,nr,cr⟩,rts⟩=V:=⟨_,rfl⟩
 rw [hV]
 obtain ⟨E1,hE1⟩:∃ E,zbs ns nt nw nr=E:=⟨_,rfl⟩
 obtain ⟨V1,hV1⟩:∃ V,za4 nmE [] secs=V:=⟨_,rfl⟩
 obtain ⟨V2,hV2⟩:∃ V,za4 nmE [] trains=V:=⟨_,rfl⟩
 obtain ⟨V3,hV3⟩:∃ V,za4 (swE ns) [] sws=V:=⟨_,rfl⟩
 obtain ⟨V4,hV4⟩:∃ V,za4 (rtE ns sws) [] rts=V:=⟨_,rfl⟩
 have HV:Hid (V=if E1=0 then zam [V1,V2,V3,V4] else E1):=by
  rw [Hid,← hV,zch]
  simp only [hl1,hl2,hl3,hl4,hE1,hV1,hV2,hV3,hV4]
 have HE1:=Lib.hid hE1
 have HV1:=Lib.hid hV1
 have HV2:=Lib.hid hV2
 have HV3:=Lib.hid hV3
 have HV4:=Lib.hid hV4
 have HL1:=Lib.hid hl1
 have HL2:=Lib.hid hl2
 have HL3:=Lib.hid hl3
 have HL4:=Lib.hid hl4
 clear hb0 h hS hl1 hl2 hl3 hl4 hV hE1 hV1 hV2 hV3 hV4
 go_enter Tryz.func92,Tryz.ntmps92
 go_upto_region 2 with (fail)
 generalize (((w.alloc (.cells #[.slice As ns cs,.slice At nt ct,.slice Aw nw cw,.slice Ar nr cr] 26)).alloc (.cells #[.int .i64 0,.int .i64 0] 80)).alloc (.cells #[.int .i64 0,.int .i64 0] 80))=w0 at *
 generalize hbw:w.heap.size=bw at *
 have HBW:=Lib.hid hbw
 clear hbw
 have d0:=(cell_of_row w0 _ 0 _ _ _ k0).trans (by rfl:_=some (.slice As ns cs))
 have d1:=(cell_of_row w0 _ 1 _ _ _ k0).trans (by rfl:_=some (.slice At nt ct))
 have d2:=(cell_of_row w0 _ 2 _ _ _ k0).trans (by rfl:_=some (.slice Aw nw cw))
 have d3:=(cell_of_row w0 _ 3 _ _ _ k0).trans (by rfl:_=some (.slice Ar nr cr))
 by_cases a1:ns=0
 · have HN:Hid (V=10):=by
    have e:E1=10:=HE1.out.symm.trans (ze3 (Or.inl a1))
    rw [Hid,HV.out,e]
    rfl
   have a1':((ns:Int) == 0)=true:=by simp [a1]
   clear a1
   obtain ⟨r2,r3,q2,q3⟩:=zbr k1
   obtain ⟨s2,s3,t2,t3⟩:=zbr k2
   go_wp2
   refine bodyPost_ret (v:=.tuple #[.agg #[.int .i64 0,.int .i64 0],.int .i64 10]) (by simp [results,Tryz.results92,go_sem,r2,r3]) rfl ⟨0,0,?_,?_⟩
   · rw [HN.out]
   · rw [HBW.out]
     exact (HB.out).trans (zal _ _ (Nat.le_succ _))
 have a1':((ns:Int) == 0)=false:=by simp [a1]
 by_cases a2:nt=0
 · have HN:Hid (V=10):=by
    have e:E1=10:=HE1.out.symm.trans (ze3 (Or.inr a2))
    rw [Hid,HV.out,e]
    rfl
   have a2':((nt:Int) == 0)=true:=by simp [a2]
   clear a1 a2
   obtain ⟨r2,r3,q2,q3⟩:=zbr k1
   obtain ⟨s2,s3,t2,t3⟩:=zbr k2
   go_wp2
   refine bodyPost_ret (v:=.tuple #[.agg #[.int .i64 0,.int .i64 0],.int .i64 10]) (by simp [results,Tryz.results92,go_sem,r2,r3]) rfl ⟨0,0,?_,?_⟩
   · rw [HN.out]
   · rw [HBW.out]
     exact (HB.out).trans (zal _ _ (Nat.le_succ _))
 have a2':((nt:Int) == 0)=false:=by simp [a2]
 have p1:0<ns:=by omega
 have p2:0<nt:=by omega
 have HP:=Lib.hid (And.intro p1 p2)
 clear a1 a2 p1 p2
 go_upto_region 4 with (fail)
 by_cases f1:(8:Int)<(ns:Int)
 · have HN:Hid (V=8):=by
    have e:E1=8:=HE1.out.symm.trans (zc4 HP.out.1 HP.out.2 (by omega))
    rw [Hid,HV.out,e]
    rfl
   obtain ⟨r2,r3,q2,q3⟩:=zbr k1
   obtain ⟨s2,s3,t2,t3⟩:=zbr k2
   go_wp2
   refine bodyPost_ret (v:=.tuple #[.agg #[.int .i64 0,.int .i64 0],.int .i64 8]) (by simp [results,Tryz.results92,go_sem,r2,r3]) rfl ⟨0,0,?_,?_⟩
   · rw [HN.out]
   · rw [HBW.out]
     exact (HB.out).trans (zal _ _ (Nat.le_succ _))
 by_cases f2:(3:Int)<(nt:Int)
 · have HN:Hid (V=8):=by
    have e:E1=8:=HE1.out.symm.trans (zc4 HP.out.1 HP.out.2 (by omega))
    rw [Hid,HV.out,e]
    rfl
   obtain ⟨r2,r3,q2,q3⟩:=zbr k1
   obtain ⟨s2,s3,t2,t3⟩:=zbr k2
   go_wp2
   refine bodyPost_ret (v:=.tuple #[.agg #[.int .i64 0,.int .i64 0],.int .i64 8]) (by simp [results,Tryz.results92,go_sem,r2,r3]) rfl ⟨0,0,?_,?_⟩
   · rw [HN.out]
   · rw [HBW.out]
     exact (HB.out).trans (zal _ _ (Nat.le_succ _))
 by_cases f3:(4:Int)<(nw:Int)
 · have HN:Hid (V=8):=by
    have e:E1=8:=HE1.out.symm.trans (zc4 HP.out.1 HP.out.2 (by omega))
    rw [Hid,HV.out,e]
    rfl
   obtain ⟨r2,r3,q2,q3⟩:=zbr k1
   obtain ⟨s2,s3,t2,t3⟩:=zbr k2
   go_wp2
   refine bodyPost_ret (v:=.tuple #[.agg #[.int .i64 0,.int .i64 0],.int .i64 8]) (by simp [results,Tryz.results92,go_sem,r2,r3]) rfl ⟨0,0,?_,?_⟩
   · rw [HN.out]
   · rw [HBW.out]
     exact (HB.out).trans (zal _ _ (Nat.le_succ _))
 by_cases f4:(10:Int)<(nr:Int)
 · have HN:Hid (V=8):=by
    have e:E1=8:=HE1.out.symm.trans (zc4 HP.out.1 HP.out.2 (by omega))
    rw [Hid,HV.out,e]
    rfl
   obtain ⟨r2,r3,q2,q3⟩:=zbr k1
   obtain ⟨s2,s3,t2,t3⟩:=zbr k2
   go_wp2
   refine bodyPost_ret (v:=.tuple #[.agg #[.int .i64 0,.int .i64 0],.int .i64 8]) (by simp [results,Tryz.results92,go_sem,r2,r3]) rfl ⟨0,0,?_,?_⟩
   · rw [HN.out]
   · rw [HBW.out]
     exact (HB.out).trans (zal _ _ (Nat.le_succ _))
 have HVV:Hid (V=zam [V1,V2,V3,V4]):=by
  have e:E1=0:=HE1.out.symm.trans (plantHead_ok HP.out.1 HP.out.2 (by omega) (by omega) (by omega) (by omega))
  rw [Hid,HV.out,if_pos e]
 clear HV HE1 HP a1' a2'
 go_upto_region 6 with (fail)
 clear f1 f2 f3 f4
 have NM1:=zhh w0 bw As ns cs secs HL1.out HH.out.secs.2 (by omega) hn1 HH.out.cap.1 HS.out.secs.2
 rw [HV1.out] at NM1
 go_upto_region 7 with (go_at_call 131;refine NM1.mono ?_;rintro e wa ⟨i1,rfl,hb1⟩)
 replace k0:=blk hb1 k0
 replace k1:=blk hb1 k1
 replace k2:=blk hb1 k2
 replace d0:=zas hb1 d0
 replace d1:=zas hb1 d1
 replace d2:=zas hb1 d2
 replace d3:=zas hb1 d3
 replace HB:=Lib.hid (HB.out.trans (hb1.mono (by omega)))
 replace HH:=Lib.hid (HH.out.below (hb1.mono (by omega)))
 replace hs:=Nat.le_trans hs hb1.size
 clear NM1 hb1
 by_cases h1:V1≠0
 · have h1':(V1 != 0)=true:=by simp [h1]
   have HN:Hid (V=V1):=by rw [Hid,HVV.out];exact if_neg h1
   clear h1
   obtain ⟨r2,r3,q2,q3⟩:=zbr k1
   go_wp2
   refine bodyPost_ret (v:=.tuple #[.agg #[.int .i64 1,.int .i64 i1],.int .i64 V1]) (by simp [results,Tryz.results92,go_sem,r2,r3]) rfl ⟨1,i1,?_,?_⟩
   · rw [HN.out]
   · rw [HBW.out]
     exact (HB.out).trans (zal _ _ (Nat.le_succ _))
 replace h1:V1=0:=Classical.not_not.1 h1
 have h1':(V1 != 0)=false:=by simp [h1]
 replace HVV:Hid (V=zam [V2,V3,V4]):=by rw [Hid,HVV.out,h1];rfl
 clear h1
 go_upto_region 9 with (fail)
 have NM2:=zhh wa bw At nt ct trains HL2.out HH.out.trains.2 (by omega) hn2 HH.out.cap.2.1 HS.out.trains.2
 rw [HV2.out] at NM2
 go_upto_region 10 with (go_at_call 131;refine NM2.mono ?_;rintro e wb ⟨i2,rfl,hb1⟩)
 replace k0:=blk hb1 k0
 replace k1:=blk hb1 k1
 replace k2:=blk hb1 k2
 replace d0:=zas hb1 d0
 replace d1:=zas hb1 d1
 replace d2:=zas hb1 d2
 replace d3:=zas hb1 d3
 replace HB:=Lib.hid (HB.out.trans (hb1.mono (by omega)))
 replace HH:=Lib.hid (HH.out.below (hb1.mono (by omega)))
 replace hs:=Nat.le_trans hs hb1.size
 clear NM2 hb1 h1'
 by_cases h2:V2≠0
 · have h2':(V2 != 0)=true:=by simp [h2]
   have HN:Hid (V=V2):=by rw [Hid,HVV.out];exact if_neg h2
   clear h2
   obtain ⟨r2,r3,q2,q3⟩:=zbr k1
   go_wp2
   refine bodyPost_ret (v:=.tuple #[.agg #[.int .i64 2,.int .i64 i2],.int .i64 V2]) (by simp [results,Tryz.results92,go_sem,r2,r3]) rfl ⟨2,i2,?_,?_⟩
   · rw [HN.out]
   · rw [HBW.out]
     exact (HB.out).trans (zal _ _ (Nat.le_succ _))
 replace h2:V2=0:=Classical.not_not.1 h2
 have h2':(V2 != 0)=false:=by simp [h2]
 replace HVV:Hid (V=zam [V3,V4]):=by rw [Hid,HVV.out,h2];rfl
 clear h2
 go_wp2
 clear h2'
 go_loopw [9] (fun u wx=>CkR wb (swE ns) sws nw V3 u wx) (fun u _=>nw - (intOf u).toNat)
 case atStart=>exact ⟨0,Nat.zero_le _,rfl,HV3.out,Below.refl _ _⟩
 case round =>
  clear HV3
  obtain ⟨k,hk,rfl,hgo,hb⟩:=hrel
  have HGO:=Lib.hid hgo
  have HBK:=Lib.hid hb
  have HF:=HH.out.below (hb.mono (by omega))
  have hsk:=hb.size
  replace k0:=blk hb k0
  replace k1:=blk hb k1
  replace k2:=blk hb k2
  replace d0:=zas hb d0
  replace d1:=zas hb d1
  replace d2:=zas hb d2
  replace d3:=zas hb d3
  clear hgo hb
  by_cases hlt:k<nw
  · have hkl:k<sws.length:=by rw [HL3.out];exact hlt
    obtain ⟨x,hev⟩:∃ ev,sws[k]?=some ev:=⟨_,List.getElem?_eq_getElem hkl⟩
    have SW:=zkp wr bw As At Aw Ar ns nt nw nr cs ct cw cr sws HL3.out HF.sws.2 (by omega) hn3 hn1 HS.out.sws.2 k x hev
    obtain ⟨E,hE⟩:∃ E,swE ns (sws.take k) x=E:=⟨_,rfl⟩
    rw [hE] at SW
    have HE:=Lib.hid hE
    have HEV:=Lib.hid hev
    have HX:=Lib.hid k0
    clear hE hev hkl HF
    by_cases h3:E=0
    · have h3':(E != 0)=false:=by simp [h3]
      have HN:=Lib.hid (zc0 HEV.out HGO.out (HE.out.trans h3))
      clear h3
      go_upto_region 16 with (go_at_call 132;refine SW.mono ?_;rintro e wc ⟨rfl,hbc⟩)
      have HB1:=Lib.hid (HBK.out.trans (hbc.mono hsk))
      clear hbc SW d0 d1 d2 d3 k0 k1 k2 HX HBK
      go_wp2
      go_roundw
      case rel=>exact ⟨k+1,by omega,by go_num,HN.out,HB1.out⟩
      case measure=>simp [intOf];omega
    · have h3':(E != 0)=true:=by simp [h3]
      have HN:Hid (V=E):=by
       have h9:=zb4 HEV.out HGO.out (by rw [HE.out];exact h3)
       rw [HE.out] at h9
       rw [Hid,HVV.out,← h9]
       exact if_neg h3
      clear h3
      go_upto_region 16 with (go_at_call 132;refine SW.mono ?_;rintro e wc ⟨rfl,hbc⟩)
      replace k1:=blk hbc k1
      have HB1:=Lib.hid (HB.out.trans ((HBK.out.trans (hbc.mono hsk)).mono (by omega)))
      clear hbc SW d0 d1 d2 d3 k0 k2 HX HBK
      obtain ⟨r2,r3,q2,q3⟩:=zbr k1
      go_wp2
      refine bodyPost_ret (v:=.tuple #[.agg #[.int .i64 3,.int .i64 k],.int .i64 E]) (by simp [results,Tryz.results92,go_sem,r2,r3]) rfl ⟨3,k,?_,?_⟩
      · rw [HN.out]
      · rw [HBW.out]
        exact (HB1.out).trans (zal _ _ (Nat.le_succ _))
  · have HN3:Hid (V3=0):=zcc (by rw [HL3.out];omega) HGO.out
    have HVW:Hid (V=zam [V4]):=by rw [Hid,HVV.out,HN3.out];rfl
    have HB2:=Lib.hid (HB.out.trans (HBK.out.mono (by omega)))
    have hs2:=Nat.le_trans hs hsk
    replace HH:=Lib.hid HF
    clear HN3 HVV HBK HGO HF hk
    obtain ⟨wq,rfl⟩:∃ wq,wq=wr:=⟨wr,rfl⟩
    go_wp2
    go_loopw [11] (fun u wx=>CkR wq (rtE ns sws) rts nr V4 u wx) (fun u _=>nr - (intOf u).toNat)
    case atStart=>exact ⟨0,Nat.zero_le _,rfl,HV4.out,Below.refl _ _⟩
    case round =>
     clear HV4
     obtain ⟨j,hj,rfl,hgo,hb⟩:=hrel
     have HGO:=Lib.hid hgo
     have HBK:=Lib.hid hb
     have HF:=HH.out.below (hb.mono (by omega))
     have hsk:=hb.size
     replace k0:=blk hb k0
     replace k1:=blk hb k1
     replace k2:=blk hb k2
     replace d0:=zas hb d0
     replace d1:=zas hb d1
     replace d2:=zas hb d2
     replace d3:=zas hb d3
     clear hgo hb
     by_cases hjt:j<nr
     · have hkl:j<rts.length:=by rw [HL4.out];exact hjt
       obtain ⟨x,hev⟩:∃ ev,rts[j]?=some ev:=⟨_,List.getElem?_eq_getElem hkl⟩
       have hxm:=List.mem_of_getElem? hev
       have SW:=refRoute_any wr bw As At Aw Ar ns nt nw nr cs ct cw cr rts sws HL4.out HF.rts.2 HL3.out HF.sws.2 (by omega) hn4 hn1 hn3 (fun s hs=>(HS.out.rts.2 s hs).1) j x hev (HF.rt x hxm).1 (HF.rt x hxm).2 (HF.cap.2.2.2.2 x hxm) (HS.out.rts.2 x hxm).2.1 (HS.out.rts.2 x hxm).2.2
       obtain ⟨E,hE⟩:∃ E,rtE ns sws (rts.take j) x=E:=⟨_,rfl⟩
       rw [hE] at SW
       have HE:=Lib.hid hE
       have HEV:=Lib.hid hev
       clear hE hev hkl HF hxm
       by_cases h3:E=0
       · have h3':(E != 0)=false:=by simp [h3]
         have HN:=Lib.hid (zc0 HEV.out HGO.out (HE.out.trans h3))
         clear h3
         go_upto_region 22 with (go_at_call 133;refine SW.mono ?_;rintro e wc ⟨rfl,hbc⟩)
         have HB1:=Lib.hid (HBK.out.trans (hbc.mono hsk))
         clear hbc SW d0 d1 d2 d3 k0 k1 k2 HBK
         go_wp2
         go_roundw
         case rel=>exact ⟨j+1,by omega,by go_num,HN.out,HB1.out⟩
         case measure=>simp [intOf];omega
       · have h3':(E != 0)=true:=by simp [h3]
         have HN:Hid (V=E):=by
          have h9:=zb4 HEV.out HGO.out (by rw [HE.out];exact h3)
          rw [HE.out] at h9
          rw [Hid,HVW.out,← h9]
          exact if_neg h3
         clear h3
         go_upto_region 22 with (go_at_call 133;refine SW.mono ?_;rintro e wc ⟨rfl,hbc⟩)
         replace k1:=blk hbc k1
         have HB1:=Lib.hid (HB2.out.trans ((HBK.out.trans (hbc.mono hsk)).mono (by omega)))
         clear hbc SW d0 d1 d2 d3 k0 k2 HBK
         obtain ⟨r2,r3,q2,q3⟩:=zbr k1
         go_wp2
         refine bodyPost_ret (v:=.tuple #[.agg #[.int .i64 4,.int .i64 j],.int .i64 E]) (by simp [results,Tryz.results92,go_sem,r2,r3]) rfl ⟨4,j,?_,?_⟩
         · rw [HN.out]
         · rw [HBW.out]
           exact (HB1.out).trans (zal _ _ (Nat.le_succ _))
     · have HN3:Hid (V4=0):=zcc (by rw [HL4.out];omega) HGO.out
       have HN:Hid (V=0):=by rw [Hid,HVW.out,HN3.out];rfl
       have HB1:=Lib.hid (HB2.out.trans (HBK.out.mono (by omega)))
       obtain ⟨r2,r3,q2,q3⟩:=zbr k1
       obtain ⟨s2,s3,t2,t3⟩:=zbr k2
       go_wp2
       refine bodyPost_ret (v:=.tuple #[.agg #[.int .i64 0,.int .i64 0],.int .i64 0]) (by simp [results,Tryz.results92,go_sem,r2,r3]) rfl ⟨0,0,?_,?_⟩
       · rw [HN.out]
       · rw [HBW.out]
         exact (HB1.out).trans (zal _ _ (Nat.le_succ _))
theorem zh9 (w:World) (B:Nat) (p:PlantV) (h:PlantAt w B p) (hS:PlantS p) (hB:B≤w.heap.size):Calls Tryz.prog 36 #[.agg (zan p).toArray] w (zax w (zch p)):=by
 have hb0:=hB1 w (.cells (zan p).toArray 26)
 have RT:=refPlant_any (w.alloc (.cells (zan p).toArray 26)) B p (h.keep hb0) hS (Nat.le_trans hB hb0.size)
 generalize zch p=V at *
 obtain ⟨⟨As,ns,cs⟩,secs,⟨At,nt,ct⟩,trains,⟨Aw,nw,cw⟩,sws,⟨Ar,nr,cr⟩,rts⟩:=p
 have k0:=hA1 w (.cells #[.slice As ns cs,.slice At nt ct,.slice Aw nw cw,.slice Ar nr cr] 26)
 change Below w.heap.size w (w.alloc (.cells #[.slice As ns cs,.slice At nt ct,.slice Aw nw cw,.slice Ar nr cr] 26)) at hb0
 change Calls Tryz.prog 92 #[.agg #[.slice As ns cs,.slice At nt ct,.slice Aw nw cw,.slice Ar nr cr]] (w.alloc (.cells #[.slice As ns cs,.slice At nt ct,.slice Aw nw cw,.slice Ar nr cr] 26)) _ at RT
 show Calls Tryz.prog 36 #[.agg #[.slice As ns cs,.slice At nt ct,.slice Aw nw cw,.slice Ar nr cr]] w _
 have HB:=Lib.hid hb0
 have hs0:=hb0.size
 clear hb0 h hS hB
 go_enter Tryz.func36,Tryz.ntmps36
 go_upto_region 1 with (fail)
 change Calls Tryz.prog 92 #[.agg #[.slice As ns cs,.slice At nt ct,.slice Aw nw cw,.slice Ar nr cr]] (w.alloc (.cells #[.slice As ns cs,.slice At nt ct,.slice Aw nw cw,.slice Ar nr cr] 26)) (zcg (w.alloc (.cells #[.slice As ns cs,.slice At nt ct,.slice Aw nw cw,.slice Ar nr cr] 26)) V) at RT
 generalize (w.alloc (.cells #[.slice As ns cs,.slice At nt ct,.slice Aw nw cw,.slice Ar nr cr] 26))=w0 at *
 generalize hbw:w.heap.size=bw at *
 have HBW:=Lib.hid hbw
 clear hbw
 have d0:=(cell_of_row w0 _ 0 _ _ _ k0).trans (by rfl:_=some (.slice As ns cs))
 have d1:=(cell_of_row w0 _ 1 _ _ _ k0).trans (by rfl:_=some (.slice At nt ct))
 have d2:=(cell_of_row w0 _ 2 _ _ _ k0).trans (by rfl:_=some (.slice Aw nw cw))
 have d3:=(cell_of_row w0 _ 3 _ _ _ k0).trans (by rfl:_=some (.slice Ar nr cr))
 go_wp2_with (go_at_call 92;refine RT.mono ?_;rintro e wa ⟨ma,mb,rfl,hb1⟩)
 go_ret
 exact ⟨rfl,by rw [HBW.out];exact HB.out.trans ((hb1.mono hs0).alloc (Nat.le_trans hs0 hb1.size) _)⟩
end Go.Proofs.YtfdmeojcopkaoaaGreatDoor
namespace Go.Proofs.YtfdmeojcopkaoaaGreatDoor
open Go.RowKit
theorem FeedAt.belowB {w w':World} {B:Nat} {p:NetV} (h:FeedAt w B p) (hb:Below B w w'):FeedAt w' B p:=
 ⟨h.sts.below hb,h.fss.below hb,h.tns.below hb,fun r hr=>(h.tn r hr).below hb⟩
def zd5 (As Af At:Option Addr) (ns cs nf cf nt ct:Nat):Value:=.agg #[.slice As ns cs,.slice Af nf cf,.slice At nt ct]
theorem zft (As Af At:Option Addr) (ns cs nf cf nt ct:Nat) (i:Int) (b:Bool) (hb:zai i 0 ((ns:Int) - 1)=b) (w:World) (hn:ns≤1000) :
 Calls Tryz.prog 162 #[zd5 As Af At ns cs nf cf nt ct,.int .i64 i] w fun e w'=>e=.returned (.bool b)∧Below w.heap.size w w':=by
 unfold zd5
 obtain ⟨c0,c1,c2⟩:_∧_∧_:=zbc (W:=(w.alloc (.cells #[.slice As ns cs,.slice Af nf cf,.slice At nt ct] 31))) (by rw [zae,if_pos rfl])
 have hb0:=hB1 w (.cells #[.slice As ns cs,.slice Af nf cf,.slice At nt ct] 31)
 have HB:=Lib.hid hb0
 have WI:=fun W=>za2 i 0 ((ns:Int) - 1) b hb W
 clear hb0 hb
 go_enter Tryz.func162,Tryz.ntmps162
 go_upto_region 1 with (fail)
 generalize (w.alloc (.cells #[.slice As ns cs,.slice Af nf cf,.slice At nt ct] 31))=w0 at *
 go_wp2_with (go_at_call 96;refine (WI _).mono ?_;rintro e w' ⟨rfl,rfl⟩)
 go_ret
 exact ⟨rfl,HB.out⟩
theorem zjd (As Af At:Option Addr) (ns cs nf cf nt ct:Nat) (i:Int) (b:Bool) (hb:zai i 0 ((nf:Int) - 1)=b) (w:World) (hn:nf≤1000) :
 Calls Tryz.prog 163 #[zd5 As Af At ns cs nf cf nt ct,.int .i64 i] w fun e w'=>e=.returned (.bool b)∧Below w.heap.size w w':=by
 unfold zd5
 obtain ⟨c0,c1,c2⟩:_∧_∧_:=zbc (W:=(w.alloc (.cells #[.slice As ns cs,.slice Af nf cf,.slice At nt ct] 31))) (by rw [zae,if_pos rfl])
 have hb0:=hB1 w (.cells #[.slice As ns cs,.slice Af nf cf,.slice At nt ct] 31)
 have HB:=Lib.hid hb0
 have WI:=fun W=>za2 i 0 ((nf:Int) - 1) b hb W
 clear hb0 hb
 go_enter Tryz.func163,Tryz.ntmps163
 go_upto_region 1 with (fail)
 generalize (w.alloc (.cells #[.slice As ns cs,.slice Af nf cf,.slice At nt ct] 31))=w0 at *
 go_wp2_with (go_at_call 96;refine (WI _).mono ?_;rintro e w' ⟨rfl,rfl⟩)
 go_ret
 exact ⟨rfl,HB.out⟩
theorem zj0 {α:Type} (p:α→Bool):∀ (l:List α) (j k:Nat) (x:α),l[k]?=some x→p x=true→decide (za0 p l j<((j+k:Nat):Int))=(l.take k).any p
 | [],_,_,_,h,_=>by simp at h
 | a :: l,j,0,x,h,hp=>by
  obtain rfl:a=x:=by simpa using h
  simp [za0,hp]
 | a :: l,j,k+1,x,h,hp=>by
  have h':l[k]?=some x:=by simpa using h
  rw [za0,List.take_succ_cons,List.any_cons]
  cases ha:p a with
  | true=>simp;omega
  | false =>
   have e:j+(k+1)=j+1+k:=by omega
   rw [e]
   simpa using zj0 p l (j+1) k x h' hp
theorem refTrain_any (As Af At:Option Addr) (ns cs nf cf nt ct B:Nat) (l:List TnV) (s:ByteArray) (ix:Int) (hx:za0 (fun a:TnV=>a.nm.toList == s.toList) l 0=ix) (w:World) (hn:nt≤1000) (hl:l.length=nt) (h:Rd w B At (zej l)) (hB:B≤w.heap.size) :
 Calls Tryz.prog 135 #[zd5 As Af At ns cs nf cf nt ct,.string s] w fun e w'=>e=.returned (.int .i64 ix)∧Below w.heap.size w w':=by
 unfold zd5
 obtain ⟨c0,c1,c2⟩:_∧_∧_:=zbc (W:=(w.alloc (.cells #[.slice As ns cs,.slice Af nf cf,.slice At nt ct] 31))) (by rw [zae,if_pos rfl])
 have hb0:=hB1 w (.cells #[.slice As ns cs,.slice Af nf cf,.slice At nt ct] 31)
 replace h:=h.below (hb0.mono hB)
 have HB:=Lib.hid hb0
 have HL:=Lib.hid hl
 have HX:=Lib.hid hx
 clear hb0 hl hx
 go_enter Tryz.func135,Tryz.ntmps135
 go_upto_region 1 with (fail)
 generalize (w.alloc (.cells #[.slice As ns cs,.slice Af nf cf,.slice At nt ct] 31))=w0 at *
 go_wp2
 go_loop [5] (fun i=>∃ k:Nat,k≤nt∧i=.int .i64 k∧za0 (fun a:TnV=>a.nm.toList == s.toList) (l.drop k) k=ix) (fun i=>nt - (intOf i).toNat)
 case atStart=>exact ⟨0,Nat.zero_le _,rfl,HX.out⟩
 case round =>
  clear HX
  obtain ⟨k,hk,rfl,he⟩:=hrel
  have HE:=Lib.hid he;clear he
  by_cases hlt:k<nt
  · have hkl:k<l.length:=by rw [HL.out];exact hlt
    obtain ⟨ev,hev⟩:∃ ev,l[k]?=some ev:=⟨_,List.getElem?_eq_getElem hkl⟩
    obtain ⟨bb,off,rfl,hbB,z0,z1,z2,z3⟩:=Rd.tn h hev
    have HS:=Lib.hid (za5 hev)
    have HG:Hid ((if (ev.nm.toList == s.toList)=true then (k:Int) else za0 (fun a:TnV=>a.nm.toList == s.toList) (l.drop (k+1)) (k+1))=ix):=by rw [Hid,← HE.out,HS.out,za0]
    clear hkl hev
    generalize ev.nm=x at *
    cases hx:(x.toList == s.toList) with
    | true =>
     have HX:Hid ((k:Int)=ix):=by rw [Hid,← HG.out,if_pos hx]
     go_wp2
     go_ret
     exact ⟨by rw [← HX.out];rfl,HB.out⟩
    | false =>
     have HX:Hid (za0 (fun a:TnV=>a.nm.toList == s.toList) (l.drop (k+1)) (k+1)=ix):=by rw [Hid,← HG.out,if_neg (by rw [hx];decide)]
     go_wp2
     go_round
     case rel=>exact ⟨k+1,by omega,by go_num,HX.out⟩
     case measure=>simp [intOf];omega
  · have HX:Hid (-1=ix):=by
     rw [Hid,← HE.out,List.drop_eq_nil_iff.2 (by rw [HL.out];omega)]
     rfl
    go_wp2
    go_ret
    exact ⟨by rw [← HX.out];rfl,HB.out⟩
end Go.Proofs.YtfdmeojcopkaoaaGreatDoor
namespace Go.Proofs.YtfdmeojcopkaoaaGreatDoor
open Go.RowKit
theorem refFsec_any (As Af At:Option Addr) (ns cs nf cf nt ct:Nat) (w:World) (x:FsV) (hn:ns≤1000) :
 Calls Tryz.prog 134 #[zd5 As Af At ns cs nf cf nt ct,.agg #[.int .i64 x.left,.int .i64 x.right,.int .i64 x.share,.int .i64 x.loss]] w (zax w (fsE ns x)):=by
 obtain ⟨a,b,s,l⟩:=x
 simp only
 have k0:((w.alloc (.cells #[.slice As ns cs,.slice Af nf cf,.slice At nt ct] 31)).alloc (.cells #[.int .i64 a,.int .i64 b,.int .i64 s,.int .i64 l] 120)).heap[w.heap.size]?=some (.cells #[.slice As ns cs,.slice Af nf cf,.slice At nt ct] 31 (0,0)):=by
  rw [zae,if_neg (by simp),zae,if_pos rfl]
 have k1:((w.alloc (.cells #[.slice As ns cs,.slice Af nf cf,.slice At nt ct] 31)).alloc (.cells #[.int .i64 a,.int .i64 b,.int .i64 s,.int .i64 l] 120)).heap[w.heap.size+1]?=some (.cells #[.int .i64 a,.int .i64 b,.int .i64 s,.int .i64 l] 120 (0,0)):=by
  rw [zae,if_pos (by simp)]
 have hb0:=hB2 w (.cells #[.slice As ns cs,.slice Af nf cf,.slice At nt ct] 31) (.cells #[.int .i64 a,.int .i64 b,.int .i64 s,.int .i64 l] 120)
 have HB:=Lib.hid hb0
 have hs0:=hb0.size
 obtain ⟨qa,hqa⟩:∃ q,zai a 0 ((ns:Int) - 1)=q:=⟨_,rfl⟩
 obtain ⟨qb,hqb⟩:∃ q,zai b 0 ((ns:Int) - 1)=q:=⟨_,rfl⟩
 obtain ⟨qs,hqs⟩:∃ q,zai s 0 1000=q:=⟨_,rfl⟩
 obtain ⟨ql,hql⟩:∃ q,zai l 0 500=q:=⟨_,rfl⟩
 have HQ:Hid (zai a 0 ((ns:Int) - 1)=qa∧zai b 0 ((ns:Int) - 1)=qb∧zai s 0 1000=qs∧zai l 0 500=ql):=⟨hqa,hqb,hqs,hql⟩
 have WS:=fun W=>za2 s 0 1000 qs hqs W
 have WL:=fun W=>za2 l 0 500 ql hql W
 have EA:=fun W=>zft As Af At ns cs nf cf nt ct a qa hqa W hn
 have EB:=fun W=>zft As Af At ns cs nf cf nt ct b qb hqb W hn
 unfold zd5 at EA EB ⊢
 clear hqa hqb hqs hql hb0
 have WALK:∀ (pa pb:Bool),(a == -1)=pa→(b == -1)=pb→Calls Tryz.prog 134 #[.agg #[.slice As ns cs,.slice Af nf cf,.slice At nt ct],.agg #[.int .i64 a,.int .i64 b,.int .i64 s,.int .i64 l]] w (zax w (zam [zaf ((pa || qa) && (pb || qb)) 6,zaf (!pa || !pb) 23,zaf (a != b) 26,zaf (qs && ql) 2,zaf (if pb=true then (s == 1000) else if pa=true then (s == 0) else true) 3])):=by
  intro pa pb ha hb
  clear HQ
  cases pa <;> cases pb <;> cases qa <;> cases qb
  all_goals
   first
    | (have ha2:(a != -1)=true:=by simpa using ha)
    | (have ha2:(a != -1)=false:=by simpa using ha)
   first
    | (have hb2:(b != -1)=true:=by simpa using hb)
    | (have hb2:(b != -1)=false:=by simpa using hb)
   have HA:=Lib.hid ha
   have HBB:=Lib.hid hb
   clear ha hb
   go_enter Tryz.func134,Tryz.ntmps134
   go_upto_region 1 with (fail)
   generalize ((w.alloc (.cells #[.slice As ns cs,.slice Af nf cf,.slice At nt ct] 31)).alloc (.cells #[.int .i64 a,.int .i64 b,.int .i64 s,.int .i64 l] 120))=w0 at *
   generalize hbw:w.heap.size=bw at *
   have HBW:=Lib.hid hbw
   clear hbw
   obtain ⟨c0,c1,c2⟩:_∧_∧_:=zbc k0
   obtain ⟨d0,d1,d2,d3⟩:_∧_∧_∧_:=za9 k1
   have x0:=fun y:Xt w0=>y.cell d0
   have x1:=fun y:Xt w0=>y.cell d1
   refine za8 (by kernel_rfl) (by kernel_rfl) ?_
   repeat (go_big_quiet_step (fail))
   refine wpQuiet_nil ?_
   intro w1 hx
   have hb1:=Xt.below hx
   have HB1:=Lib.hid (HB.out.trans (hb1.mono (by omega)))
   have hs1:=Nat.le_trans hs0 hb1.size
   replace c0:=zas hb1 c0
   replace c1:=zas hb1 c1
   replace c2:=zas hb1 c2
   replace d0:=zas hb1 d0
   replace d1:=zas hb1 d1
   replace d2:=zas hb1 d2
   replace d3:=zas hb1 d3
   clear hx hb1 x0 x1 k0 k1
   cases hab:(a == b)
   all_goals
    cases qs <;> cases ql
    all_goals
     go_upto_region 10 with (first | (go_at_call_of 162 (Value.int .i64 a);refine (EA _).mono ?_;rintro e wx ⟨rfl,hbx⟩;replace c0:=zas hbx c0;replace c1:=zas hbx c1;replace c2:=zas hbx c2;replace d0:=zas hbx d0;replace d1:=zas hbx d1;replace d2:=zas hbx d2;replace d3:=zas hbx d3;replace HB1:=Lib.hid (HB1.out.trans (hbx.mono hs1));replace hs1:=Nat.le_trans hs1 hbx.size;clear hbx) | (go_at_call_of 162 (Value.int .i64 b);refine (EB _).mono ?_;rintro e wx ⟨rfl,hbx⟩;replace c0:=zas hbx c0;replace c1:=zas hbx c1;replace c2:=zas hbx c2;replace d0:=zas hbx d0;replace d1:=zas hbx d1;replace d2:=zas hbx d2;replace d3:=zas hbx d3;replace HB1:=Lib.hid (HB1.out.trans (hbx.mono hs1));replace hs1:=Nat.le_trans hs1 hbx.size;clear hbx) | (go_at_call_of 96 (Value.int .i64 s);refine (WS _).mono ?_;rintro e w' ⟨rfl,rfl⟩) | (go_at_call_of 96 (Value.int .i64 l);refine (WL _).mono ?_;rintro e w' ⟨rfl,rfl⟩))
     all_goals
      first
       | (go_ret;exact ⟨by have e1:=HA.out;have e2:=HBB.out;clear c0 c1 c2 d0 d1 d2 d3;simp [zam,zaf,bne, *],by rw [HBW.out];exact HB1.out⟩)
       | (cases hs1:(s == 0) <;> cases hs2:(s == 1000)
          all_goals
           have g1:(s != 0)=!(s == 0):=rfl
           have g2:(s != 1000)=!(s == 1000):=rfl
           rw [hs1] at g1
           rw [hs2] at g2
           go_wp2
           go_ret
           exact ⟨by have e1:=HA.out;have e2:=HBB.out;clear c0 c1 c2 d0 d1 d2 d3;simp [zam,zaf,bne, *],by rw [HBW.out];exact HB1.out⟩)
 have h:=WALK _ _ rfl rfl
 have HV:fsE ns ⟨a,b,s,l⟩=zam [zaf (zgn ns a && zgn ns b) 6,zaf (decide (a≠-1) || decide (b≠-1)) 23,zaf (decide (a≠b)) 26,zaf (zai s 0 1000 && zai l 0 500) 2,zaf (zit ⟨a,b,s,l⟩) 3]:=rfl
 rw [HV,zgn,zgn,HQ.out.1,HQ.out.2.1,HQ.out.2.2.1,HQ.out.2.2.2]
 have e1:zit ⟨a,b,s,l⟩=if (b == -1)=true then (s == 1000) else if (a == -1)=true then (s == 0) else true:=by
  have g1:(s == 1000)=decide (s=1000):=by by_cases h:s=1000 <;> simp [h]
  have g2:(s == 0)=decide (s=0):=by by_cases h:s=0 <;> simp [h]
  rw [g1,g2]
  unfold zit
  simp
 have e2:decide (a≠-1)=!(a == -1):=by by_cases h:a=-1 <;> simp [h]
 have e3:decide (b≠-1)=!(b == -1):=by by_cases h:b=-1 <;> simp [h]
 have e4:decide (a≠b)=(a != b):=by by_cases h:a=b <;> simp [h]
 have e5:decide (a=-1)=(a == -1):=by by_cases h:a=-1 <;> simp [h]
 have e6:decide (b=-1)=(b == -1):=by by_cases h:b=-1 <;> simp [h]
 rw [e1,e2,e3,e4,e5,e6]
 exact h
end Go.Proofs.YtfdmeojcopkaoaaGreatDoor
namespace Go.Proofs.YtfdmeojcopkaoaaGreatDoor
open Go.RowKit
theorem zkt (As Af At:Option Addr) (ns cs nf cf nt ct:Nat) (w:World) (B:Nat) (x:TnV) (hn:nf≤1000) (h:zcs w B x.s x.steps.length (zc2 x.steps)) (hB:B≤w.heap.size) (hz:x.steps.length≤1000) :
 Calls Tryz.prog 136 #[zd5 As Af At ns cs nf cf nt ct,.agg (zjr x).toArray] w (zax w (trE nf x)):=by
 obtain ⟨s,a,b,⟨A,n,c⟩,l⟩:=x
 obtain ⟨hl,hr⟩:=h
 simp only at hl hr hz
 rw [hl] at hz
 show Calls Tryz.prog 136 #[zd5 As Af At ns cs nf cf nt ct,.agg #[.string s,.int .i64 a,.int .i64 b,.slice A n c]] w _
 have k0:((w.alloc (.cells #[.slice As ns cs,.slice Af nf cf,.slice At nt ct] 31)).alloc (.cells #[.string s,.int .i64 a,.int .i64 b,.slice A n c] 75)).heap[w.heap.size]?=some (.cells #[.slice As ns cs,.slice Af nf cf,.slice At nt ct] 31 (0,0)):=by
  rw [zae,if_neg (by simp),zae,if_pos rfl]
 have k1:((w.alloc (.cells #[.slice As ns cs,.slice Af nf cf,.slice At nt ct] 31)).alloc (.cells #[.string s,.int .i64 a,.int .i64 b,.slice A n c] 75)).heap[w.heap.size+1]?=some (.cells #[.string s,.int .i64 a,.int .i64 b,.slice A n c] 75 (0,0)):=by
  rw [zae,if_pos (by simp)]
 have hb0:=hB2 w (.cells #[.slice As ns cs,.slice Af nf cf,.slice At nt ct] 31) (.cells #[.string s,.int .i64 a,.int .i64 b,.slice A n c] 75)
 have HB:=Lib.hid hb0
 have HR:=Lib.hid (hr.below (hb0.mono hB))
 have HL:=Lib.hid hl
 have hs0:=hb0.size
 obtain ⟨q1,hq1⟩:∃ q,zai a 0 1000=q:=⟨_,rfl⟩
 obtain ⟨q2,hq2⟩:∃ q,zai b 0 1000=q:=⟨_,rfl⟩
 obtain ⟨V,hV⟩:∃ V,trE nf ⟨s,a,b,⟨A,n,c⟩,l⟩=V:=⟨_,rfl⟩
 obtain ⟨V2,hV2⟩:∃ V,za4 (fun _ x=>spE nf x) [] l=V:=⟨_,rfl⟩
 rw [hV]
 have HV:Hid (V=if zam [zaf (q1 && q2) 2,zaf (decide (a≤b)) 9,zaf (decide (0<(n:Int))) 10,zaf (decide ((n:Int)≤12)) 8]=0 then V2 else zam [zaf (q1 && q2) 2,zaf (decide (a≤b)) 9,zaf (decide (0<(n:Int))) 10,zaf (decide ((n:Int)≤12)) 8]):=by
  rw [Hid,← hV,trE]
  simp only [hl,hq1,hq2,hV2]
 have HV2:=Lib.hid hV2
 have W1:=fun W=>za2 a 0 1000 q1 hq1 W
 have W2:=fun W=>za2 b 0 1000 q2 hq2 W
 unfold zd5
 clear hl hr hb0 hq1 hq2 hV hV2
 go_enter Tryz.func136,Tryz.ntmps136
 go_upto_region 1 with (fail)
 generalize ((w.alloc (.cells #[.slice As ns cs,.slice Af nf cf,.slice At nt ct] 31)).alloc (.cells #[.string s,.int .i64 a,.int .i64 b,.slice A n c] 75))=w0 at *
 generalize hbw:w.heap.size=bw at *
 have HBW:=Lib.hid hbw
 clear hbw
 obtain ⟨c0,c1,c2⟩:_∧_∧_:=zbc k0
 obtain ⟨d0,d1,d2,d3⟩:_∧_∧_∧_:=za9 k1
 clear k0 k1
 cases q1 with
 | false =>
  have HN:Hid (V=2):=by rw [Hid,HV.out];rfl
  go_wp2_with (first | (go_at_call_of 96 (Value.int .i64 a);refine (W1 _).mono ?_;rintro e w' ⟨rfl,rfl⟩) | (go_at_call_of 96 (Value.int .i64 b);refine (W2 _).mono ?_;rintro e w' ⟨rfl,rfl⟩))
  go_ret
  exact ⟨by rw [HN.out];rfl,by rw [HBW.out];exact HB.out⟩
 | true =>
 cases q2 with
 | false =>
  have HN:Hid (V=2):=by rw [Hid,HV.out];rfl
  go_wp2_with (first | (go_at_call_of 96 (Value.int .i64 a);refine (W1 _).mono ?_;rintro e w' ⟨rfl,rfl⟩) | (go_at_call_of 96 (Value.int .i64 b);refine (W2 _).mono ?_;rintro e w' ⟨rfl,rfl⟩))
  go_ret
  exact ⟨by rw [HN.out];rfl,by rw [HBW.out];exact HB.out⟩
 | true =>
 go_upto_region 3 with (first | (go_at_call_of 96 (Value.int .i64 a);refine (W1 _).mono ?_;rintro e w' ⟨rfl,rfl⟩) | (go_at_call_of 96 (Value.int .i64 b);refine (W2 _).mono ?_;rintro e w' ⟨rfl,rfl⟩))
 clear W1 W2
 by_cases hab:b<a
 · have HN:Hid (V=9):=by
    have g:¬ a≤b:=by omega
    rw [Hid,HV.out]
    simp only [g,decide_false]
    rfl
   go_wp2
   go_ret
   exact ⟨by rw [HN.out];rfl,by rw [HBW.out];exact HB.out⟩
 have HAB:Hid (decide (a≤b)=true):=by rw [Hid,decide_eq_true_eq];omega
 by_cases h0:n=0
 · have HN:Hid (V=10):=by rw [Hid,HV.out,HAB.out,h0];rfl
   subst h0
   go_wp2
   go_ret
   exact ⟨by rw [HN.out];rfl,by rw [HBW.out];exact HB.out⟩
 have g0:((n:Int) == 0)=false:=beq_eq_false_iff_ne.2 (by omega)
 by_cases h12:(12:Int)<(n:Int)
 · have HN:Hid (V=8):=by
    have g:¬ (n:Int)≤12:=by omega
    have g':0<(n:Int):=by omega
    rw [Hid,HV.out,HAB.out]
    simp only [g,g',decide_true,decide_false]
    rfl
   go_wp2
   go_ret
   exact ⟨by rw [HN.out];rfl,by rw [HBW.out];exact HB.out⟩
 have HN:Hid (V=V2):=by
  have g:(n:Int)≤12:=by omega
  have g':0<(n:Int):=by omega
  rw [Hid,HV.out,HAB.out]
  simp only [g,g',decide_true]
  rfl
 clear HV HAB
 go_wp2
 go_loopw [5] (fun u wr=>zjm w0 (fun _ x=>spE nf x) l n V2 u wr) (fun u _=>n - (intOf u).toNat)
 case atStart=>exact ⟨0,Nat.zero_le _,rfl,HV2.out,Below.refl _ _⟩
 case round =>
  clear HV2
  obtain ⟨k,hk,rfl,hgo,hb⟩:=hrel
  have HGO:=Lib.hid hgo
  have HBK:=Lib.hid hb
  have hr:=HR.out.below (hb.mono (by omega))
  have hsk:=hb.size
  replace c0:=zas hb c0
  replace c1:=zas hb c1
  replace c2:=zas hb c2
  replace d3:=zas hb d3
  clear hgo hb d0 d1 d2
  by_cases hlt:k<n
  · have hkl:k<l.length:=by rw [HL.out];exact hlt
    obtain ⟨⟨sc,pw⟩,hev⟩:∃ ev,l[k]?=some ev:=⟨_,List.getElem?_eq_getElem hkl⟩
    obtain ⟨bb,off,rfl,hbB,z0,z1⟩:=Rd.sp hr hev
    have HSV:=Lib.hid hev
    simp only at z0 z1
    obtain ⟨b1,hb1⟩:∃ b,zai sc 0 ((nf:Int) - 1)=b:=⟨_,rfl⟩
    obtain ⟨b2,hb2⟩:∃ b,zai pw (-20000) 20000=b:=⟨_,rfl⟩
    have HER:Hid (spE nf (sc,pw)=zam [zaf b1 6,zaf b2 2]):=by rw [Hid,spE,hb1,hb2]
    have SE:=fun W=>zjd As Af At ns cs nf cf nt ct sc b1 hb1 W hn
    have W3:=fun W=>za2 pw (-20000) 20000 b2 hb2 W
    unfold zd5 at SE
    have x0:=fun y:Xt wr=>y.cell c0
    have x1:=fun y:Xt wr=>y.cell c1
    have x2:=fun y:Xt wr=>y.cell c2
    have x3:=fun y:Xt wr=>y.cell d3
    have x4:=fun y:Xt wr=>y.cell z0
    clear hev hkl hr hb1 hb2
    go_upto_region 12 with (fail)
    refine za8 (by kernel_rfl) (by kernel_rfl) ?_
    repeat (go_big_quiet_step (first | (go_at_call 163;exact Xt.calls (SE _))))
    refine wpQuiet_nil ?_
    intro w1 hx
    have hb5:=Xt.below hx
    have HB1:=Lib.hid (HBK.out.trans (hb5.mono hsk))
    replace d3:=zas hb5 d3
    replace z1:=zas hb5 z1
    clear hx x0 x1 x2 x3 x4 hb5 SE c0 c1 c2 z0
    cases b1 with
    | false =>
     have HN2:Hid (V2=6):=by
      have e:spE nf (sc,pw)=6:=by rw [HER.out];rfl
      have h9:=zb4 (f:=fun _ x=>spE nf x) HSV.out HGO.out (by rw [e];decide)
      rw [Hid,← h9]
      exact e
     go_wp2
     go_ret
     exact ⟨by rw [HN.out,HN2.out];rfl,by rw [HBW.out];exact HB.out.trans (HB1.out.mono (by omega))⟩
    | true =>
    cases b2 with
    | false =>
     have HN2:Hid (V2=2):=by
      have e:spE nf (sc,pw)=2:=by rw [HER.out];rfl
      have h9:=zb4 (f:=fun _ x=>spE nf x) HSV.out HGO.out (by rw [e];decide)
      rw [Hid,← h9]
      exact e
     go_wp2_with (go_at_call 96;refine (W3 _).mono ?_;rintro e w' ⟨rfl,rfl⟩)
     go_ret
     exact ⟨by rw [HN.out,HN2.out];rfl,by rw [HBW.out];exact HB.out.trans (HB1.out.mono (by omega))⟩
    | true =>
     have HN2:=Lib.hid (zc0 (f:=fun _ x=>spE nf x) HSV.out HGO.out (by rw [HER.out];rfl))
     go_wp2_with (go_at_call 96;refine (W3 _).mono ?_;rintro e w' ⟨rfl,rfl⟩)
     go_roundw
     case rel=>exact ⟨k+1,by omega,by go_num,HN2.out,HB1.out⟩
     case measure=>simp [intOf];omega
  · have HN2:Hid (V2=0):=zcc (by rw [HL.out];omega) HGO.out
    go_wp2
    go_ret
    exact ⟨by rw [HN.out,HN2.out];rfl,by rw [HBW.out];exact HB.out.trans (HBK.out.mono (by omega))⟩
end Go.Proofs.YtfdmeojcopkaoaaGreatDoor
