import Derived.Test.YtoodbfkbbchjiaaGreatDoorf3Q7
import Derived.Test.YtoodbfkbbchjiaaGreatDoorf3M7
set_option maxRecDepth 100000
set_option maxHeartbeats 16000000
namespace Go.Proofs.YtoodbfkbbchjiaaGreatDoor
open Go.RowKit
def CkR {α:Type} (w0:World) (f:List α→α→Int) (l:List α) (n:Nat) (V:Int) (u:Value) (wr:World):Prop:=∃ k:Nat,k≤n∧u=.int .i64 k∧za2 f (l.take k) (l.drop k)=V∧Below w0.heap.size w0 wr
theorem refPlant_any (w:World) (B:Nat) (p:PlantV) (h:PlantAt w B p) (hS:PlantS p) (hB:B≤w.heap.size):Calls Tryz.prog 68 #[.agg (zap p).toArray] w (zce w (zb7 p)):=by
 obtain ⟨⟨As,ns,cs⟩,secs,⟨At,nt,ct⟩,trains,⟨Aw,nw,cw⟩,sws,⟨Ar,nr,cr⟩,rts⟩:=p
 show Calls Tryz.prog 68 #[.agg #[.slice As ns cs,.slice At nt ct,.slice Aw nw cw,.slice Ar nr cr]] w _
 have hl1:secs.length=ns:=h.secs.1
 have hl2:trains.length=nt:=h.trains.1
 have hl3:sws.length=nw:=h.sws.1
 have hl4:rts.length=nr:=h.rts.1
 have hn1:ns≤1000:=by rw [← hl1];exact hS.secs.1
 have hn2:nt≤1000:=by rw [← hl2];exact hS.trains.1
 have hn3:nw≤1000:=by rw [← hl3];exact hS.sws.1
 have hn4:nr≤1000:=by rw [← hl4];exact hS.rts.1
 have k0:(((w.alloc (.cells #[.slice As ns cs,.slice At nt ct,.slice Aw nw cw,.slice Ar nr cr] 26)).alloc (.cells #[.int .i64 0,.int .i64 0] 180)).alloc (.cells #[.int .i64 0,.int .i64 0] 180)).heap[w.heap.size]?=some (.cells #[.slice As ns cs,.slice At nt ct,.slice Aw nw cw,.slice Ar nr cr] 26 (0,0)):=by
  rw [zae,if_neg (by simp;omega),zae,if_neg (by simp),zae,if_pos rfl]
 have k1:(((w.alloc (.cells #[.slice As ns cs,.slice At nt ct,.slice Aw nw cw,.slice Ar nr cr] 26)).alloc (.cells #[.int .i64 0,.int .i64 0] 180)).alloc (.cells #[.int .i64 0,.int .i64 0] 180)).heap[w.heap.size+1]?=some (.cells #[.int .i64 0,.int .i64 0] 180 (0,0)):=by
  rw [zae,if_neg (by simp),zae,if_pos (by simp)]
 have k2:(((w.alloc (.cells #[.slice As ns cs,.slice At nt ct,.slice Aw nw cw,.slice Ar nr cr] 26)).alloc (.cells #[.int .i64 0,.int .i64 0] 180)).alloc (.cells #[.int .i64 0,.int .i64 0] 180)).heap[w.heap.size+1+1]?=some (.cells #[.int .i64 0,.int .i64 0] 180 (0,0)):=by
  rw [zae,if_pos (by simp)]
 have hb0:Below w.heap.size w (((w.alloc (.cells #[.slice As ns cs,.slice At nt ct,.slice Aw nw cw,.slice Ar nr cr] 26)).alloc (.cells #[.int .i64 0,.int .i64 0] 180)).alloc (.cells #[.int .i64 0,.int .i64 0] 180)):=(((Below.refl _ _).alloc (Nat.le_refl _) _).alloc (by simp) _).alloc (by simp;omega) _
 have hs:w.heap.size+3≤(((w.alloc (.cells #[.slice As ns cs,.slice At nt ct,.slice Aw nw cw,.slice Ar nr cr] 26)).alloc (.cells #[.int .i64 0,.int .i64 0] 180)).alloc (.cells #[.int .i64 0,.int .i64 0] 180)).heap.size:=by simp
 have HH:=Lib.hid ((h.keep hb0).mono hB)
 have HS:=Lib.hid hS
 have HB:=Lib.hid hb0
 obtain ⟨V,hV⟩:∃ V,zb7 ⟨⟨As,ns,cs⟩,secs,⟨At,nt,ct⟩,trains,⟨Aw,nw,cw⟩,sws,⟨Ar,nr,cr⟩,rts⟩=V:=⟨_,rfl⟩
 rw [hV]
 obtain ⟨E1,hE1⟩:∃ E,zbr ns nt nw nr=E:=⟨_,rfl⟩
 obtain ⟨V1,hV1⟩:∃ V,za2 nmE [] secs=V:=⟨_,rfl⟩
 obtain ⟨V2,hV2⟩:∃ V,za2 nmE [] trains=V:=⟨_,rfl⟩
 obtain ⟨V3,hV3⟩:∃ V,za2 (swE ns) [] sws=V:=⟨_,rfl⟩
 obtain ⟨V4,hV4⟩:∃ V,za2 (rtE ns sws) [] rts=V:=⟨_,rfl⟩
 have HV:Hid (V=if E1=0 then zam [V1,V2,V3,V4] else E1):=by
  rw [Hid,← hV,zb7]
  simp only [hl1,hl2,hl3,hl4,hE1,hV1,hV2,hV3,hV4]
 have HE1:=Lib.hid hE1
 have HV1:=Lib.hid hV1
 have HV2:=Lib.hid hV2
 have HV3:=Lib.hid hV3
 have HV4:=Lib.hid hV4
 have HL1:=Lib.hid hl1
 have HL2:=Lib.hid hl2
 have HL3:=Lib.hid hl3
 have HL4:=Lib.hid hl4
 clear hb0 h hS hl1 hl2 hl3 hl4 hV hE1 hV1 hV2 hV3 hV4
 go_enter Tryz.func68,Tryz.ntmps68
 go_upto_region 2 with (fail)
 generalize (((w.alloc (.cells #[.slice As ns cs,.slice At nt ct,.slice Aw nw cw,.slice Ar nr cr] 26)).alloc (.cells #[.int .i64 0,.int .i64 0] 180)).alloc (.cells #[.int .i64 0,.int .i64 0] 180))=w0 at *
 generalize hbw:w.heap.size=bw at *
 have HBW:=Lib.hid hbw
 clear hbw
 have d0:=(cell_of_row w0 _ 0 _ _ _ k0).trans (by rfl:_=some (.slice As ns cs))
 have d1:=(cell_of_row w0 _ 1 _ _ _ k0).trans (by rfl:_=some (.slice At nt ct))
 have d2:=(cell_of_row w0 _ 2 _ _ _ k0).trans (by rfl:_=some (.slice Aw nw cw))
 have d3:=(cell_of_row w0 _ 3 _ _ _ k0).trans (by rfl:_=some (.slice Ar nr cr))
 by_cases a1:ns=0
 · have HN:Hid (V=10):=by
    have e:E1=10:=HE1.out.symm.trans (zfi (Or.inl a1))
    rw [Hid,HV.out,e]
    rfl
   have a1':((ns:Int) == 0)=true:=by simp [a1]
   clear a1
   obtain ⟨r2,r3,q2,q3⟩:=zbu k1
   obtain ⟨s2,s3,t2,t3⟩:=zbu k2
   go_wp2
   refine bodyPost_ret (v:=.tuple #[.agg #[.int .i64 0,.int .i64 0],.int .i64 10]) (by simp [results,Tryz.results68,go_sem,r2,r3]) rfl ⟨0,0,?_,?_⟩
   · rw [HN.out]
   · rw [HBW.out]
     exact (HB.out).trans (zal _ _ (Nat.le_succ _))
 have a1':((ns:Int) == 0)=false:=by simp [a1]
 by_cases a2:nt=0
 · have HN:Hid (V=10):=by
    have e:E1=10:=HE1.out.symm.trans (zfi (Or.inr a2))
    rw [Hid,HV.out,e]
    rfl
   have a2':((nt:Int) == 0)=true:=by simp [a2]
   clear a1 a2
   obtain ⟨r2,r3,q2,q3⟩:=zbu k1
   obtain ⟨s2,s3,t2,t3⟩:=zbu k2
   go_wp2
   refine bodyPost_ret (v:=.tuple #[.agg #[.int .i64 0,.int .i64 0],.int .i64 10]) (by simp [results,Tryz.results68,go_sem,r2,r3]) rfl ⟨0,0,?_,?_⟩
   · rw [HN.out]
   · rw [HBW.out]
     exact (HB.out).trans (zal _ _ (Nat.le_succ _))
 have a2':((nt:Int) == 0)=false:=by simp [a2]
 have p1:0<ns:=by omega
 have p2:0<nt:=by omega
 have HP:=Lib.hid (And.intro p1 p2)
 clear a1 a2 p1 p2
 go_upto_region 4 with (fail)
 by_cases f1:(8:Int)<(ns:Int)
 · have HN:Hid (V=8):=by
    have e:E1=8:=HE1.out.symm.trans (zc6 HP.out.1 HP.out.2 (by omega))
    rw [Hid,HV.out,e]
    rfl
   obtain ⟨r2,r3,q2,q3⟩:=zbu k1
   obtain ⟨s2,s3,t2,t3⟩:=zbu k2
   go_wp2
   refine bodyPost_ret (v:=.tuple #[.agg #[.int .i64 0,.int .i64 0],.int .i64 8]) (by simp [results,Tryz.results68,go_sem,r2,r3]) rfl ⟨0,0,?_,?_⟩
   · rw [HN.out]
   · rw [HBW.out]
     exact (HB.out).trans (zal _ _ (Nat.le_succ _))
 by_cases f2:(3:Int)<(nt:Int)
 · have HN:Hid (V=8):=by
    have e:E1=8:=HE1.out.symm.trans (zc6 HP.out.1 HP.out.2 (by omega))
    rw [Hid,HV.out,e]
    rfl
   obtain ⟨r2,r3,q2,q3⟩:=zbu k1
   obtain ⟨s2,s3,t2,t3⟩:=zbu k2
   go_wp2
   refine bodyPost_ret (v:=.tuple #[.agg #[.int .i64 0,.int .i64 0],.int .i64 8]) (by simp [results,Tryz.results68,go_sem,r2,r3]) rfl ⟨0,0,?_,?_⟩
   · rw [HN.out]
   · rw [HBW.out]
     exact (HB.out).trans (zal _ _ (Nat.le_succ _))
 by_cases f3:(4:Int)<(nw:Int)
 · have HN:Hid (V=8):=by
    have e:E1=8:=HE1.out.symm.trans (zc6 HP.out.1 HP.out.2 (by omega))
    rw [Hid,HV.out,e]
    rfl
   obtain ⟨r2,r3,q2,q3⟩:=zbu k1
   obtain ⟨s2,s3,t2,t3⟩:=zbu k2
   go_wp2
   refine bodyPost_ret (v:=.tuple #[.agg #[.int .i64 0,.int .i64 0],.int .i64 8]) (by simp [results,Tryz.results68,go_sem,r2,r3]) rfl ⟨0,0,?_,?_⟩
   · rw [HN.out]
   · rw [HBW.out]
     exact (HB.out).trans (zal _ _ (Nat.le_succ _))
 by_cases f4:(10:Int)<(nr:Int)
 · have HN:Hid (V=8):=by
    have e:E1=8:=HE1.out.symm.trans (zc6 HP.out.1 HP.out.2 (by omega))
    rw [Hid,HV.out,e]
    rfl
   obtain ⟨r2,r3,q2,q3⟩:=zbu k1
   obtain ⟨s2,s3,t2,t3⟩:=zbu k2
   go_wp2
   refine bodyPost_ret (v:=.tuple #[.agg #[.int .i64 0,.int .i64 0],.int .i64 8]) (by simp [results,Tryz.results68,go_sem,r2,r3]) rfl ⟨0,0,?_,?_⟩
   · rw [HN.out]
   · rw [HBW.out]
     exact (HB.out).trans (zal _ _ (Nat.le_succ _))
 have HVV:Hid (V=zam [V1,V2,V3,V4]):=by
  have e:E1=0:=HE1.out.symm.trans (plantHead_ok HP.out.1 HP.out.2 (by omega) (by omega) (by omega) (by omega))
  rw [Hid,HV.out,if_pos e]
 clear HV HE1 HP a1' a2'
 go_upto_region 6 with (fail)
 clear f1 f2 f3 f4
 have NM1:=zh2 w0 bw As ns cs secs HL1.out HH.out.secs.2 (by omega) hn1 HH.out.cap.1 HS.out.secs.2
 rw [HV1.out] at NM1
 go_upto_region 7 with (go_at_call 107;refine NM1.mono ?_;rintro e wa ⟨i1,rfl,hb1⟩)
 replace k0:=blk hb1 k0
 replace k1:=blk hb1 k1
 replace k2:=blk hb1 k2
 replace d0:=zat hb1 d0
 replace d1:=zat hb1 d1
 replace d2:=zat hb1 d2
 replace d3:=zat hb1 d3
 replace HB:=Lib.hid (HB.out.trans (hb1.mono (by omega)))
 replace HH:=Lib.hid (HH.out.below (hb1.mono (by omega)))
 replace hs:=Nat.le_trans hs hb1.size
 clear NM1 hb1
 by_cases h1:V1≠0
 · have h1':(V1 != 0)=true:=by simp [h1]
   have HN:Hid (V=V1):=by rw [Hid,HVV.out];exact if_neg h1
   clear h1
   obtain ⟨r2,r3,q2,q3⟩:=zbu k1
   go_wp2
   refine bodyPost_ret (v:=.tuple #[.agg #[.int .i64 1,.int .i64 i1],.int .i64 V1]) (by simp [results,Tryz.results68,go_sem,r2,r3]) rfl ⟨1,i1,?_,?_⟩
   · rw [HN.out]
   · rw [HBW.out]
     exact (HB.out).trans (zal _ _ (Nat.le_succ _))
 replace h1:V1=0:=Classical.not_not.1 h1
 have h1':(V1 != 0)=false:=by simp [h1]
 replace HVV:Hid (V=zam [V2,V3,V4]):=by rw [Hid,HVV.out,h1];rfl
 clear h1
 go_upto_region 9 with (fail)
 have NM2:=zh2 wa bw At nt ct trains HL2.out HH.out.trains.2 (by omega) hn2 HH.out.cap.2.1 HS.out.trains.2
 rw [HV2.out] at NM2
 go_upto_region 10 with (go_at_call 107;refine NM2.mono ?_;rintro e wb ⟨i2,rfl,hb1⟩)
 replace k0:=blk hb1 k0
 replace k1:=blk hb1 k1
 replace k2:=blk hb1 k2
 replace d0:=zat hb1 d0
 replace d1:=zat hb1 d1
 replace d2:=zat hb1 d2
 replace d3:=zat hb1 d3
 replace HB:=Lib.hid (HB.out.trans (hb1.mono (by omega)))
 replace HH:=Lib.hid (HH.out.below (hb1.mono (by omega)))
 replace hs:=Nat.le_trans hs hb1.size
 clear NM2 hb1 h1'
 by_cases h2:V2≠0
 · have h2':(V2 != 0)=true:=by simp [h2]
   have HN:Hid (V=V2):=by rw [Hid,HVV.out];exact if_neg h2
   clear h2
   obtain ⟨r2,r3,q2,q3⟩:=zbu k1
   go_wp2
   refine bodyPost_ret (v:=.tuple #[.agg #[.int .i64 2,.int .i64 i2],.int .i64 V2]) (by simp [results,Tryz.results68,go_sem,r2,r3]) rfl ⟨2,i2,?_,?_⟩
   · rw [HN.out]
   · rw [HBW.out]
     exact (HB.out).trans (zal _ _ (Nat.le_succ _))
 replace h2:V2=0:=Classical.not_not.1 h2
 have h2':(V2 != 0)=false:=by simp [h2]
 replace HVV:Hid (V=zam [V3,V4]):=by rw [Hid,HVV.out,h2];rfl
 clear h2
 go_wp2
 clear h2'
 go_loopw [9] (fun u wx=>CkR wb (swE ns) sws nw V3 u wx) (fun u _=>nw - (intOf u).toNat)
 case atStart=>exact ⟨0,Nat.zero_le _,rfl,HV3.out,Below.refl _ _⟩
 case round =>
  clear HV3
  obtain ⟨k,hk,rfl,hgo,hb⟩:=hrel
  have HGO:=Lib.hid hgo
  have HBK:=Lib.hid hb
  have HF:=HH.out.below (hb.mono (by omega))
  have hsk:=hb.size
  replace k0:=blk hb k0
  replace k1:=blk hb k1
  replace k2:=blk hb k2
  replace d0:=zat hb d0
  replace d1:=zat hb d1
  replace d2:=zat hb d2
  replace d3:=zat hb d3
  clear hgo hb
  by_cases hlt:k<nw
  · have hkl:k<sws.length:=by rw [HL3.out];exact hlt
    obtain ⟨x,hev⟩:∃ ev,sws[k]?=some ev:=⟨_,List.getElem?_eq_getElem hkl⟩
    have SW:=zlo wr bw As At Aw Ar ns nt nw nr cs ct cw cr sws HL3.out HF.sws.2 (by omega) hn3 hn1 HS.out.sws.2 k x hev
    obtain ⟨E,hE⟩:∃ E,swE ns (sws.take k) x=E:=⟨_,rfl⟩
    rw [hE] at SW
    have HE:=Lib.hid hE
    have HEV:=Lib.hid hev
    have HX:=Lib.hid k0
    clear hE hev hkl HF
    by_cases h3:E=0
    · have h3':(E != 0)=false:=by simp [h3]
      have HN:=Lib.hid (zc1 HEV.out HGO.out (HE.out.trans h3))
      clear h3
      go_upto_region 16 with (go_at_call 108;refine SW.mono ?_;rintro e wc ⟨rfl,hbc⟩)
      have HB1:=Lib.hid (HBK.out.trans (hbc.mono hsk))
      clear hbc SW d0 d1 d2 d3 k0 k1 k2 HX HBK
      go_wp2
      go_roundw
      case rel=>exact ⟨k+1,by omega,by go_num,HN.out,HB1.out⟩
      case measure=>simp [intOf];omega
    · have h3':(E != 0)=true:=by simp [h3]
      have HN:Hid (V=E):=by
       have h9:=zb3 HEV.out HGO.out (by rw [HE.out];exact h3)
       rw [HE.out] at h9
       rw [Hid,HVV.out,← h9]
       exact if_neg h3
      clear h3
      go_upto_region 16 with (go_at_call 108;refine SW.mono ?_;rintro e wc ⟨rfl,hbc⟩)
      replace k1:=blk hbc k1
      have HB1:=Lib.hid (HB.out.trans ((HBK.out.trans (hbc.mono hsk)).mono (by omega)))
      clear hbc SW d0 d1 d2 d3 k0 k2 HX HBK
      obtain ⟨r2,r3,q2,q3⟩:=zbu k1
      go_wp2
      refine bodyPost_ret (v:=.tuple #[.agg #[.int .i64 3,.int .i64 k],.int .i64 E]) (by simp [results,Tryz.results68,go_sem,r2,r3]) rfl ⟨3,k,?_,?_⟩
      · rw [HN.out]
      · rw [HBW.out]
        exact (HB1.out).trans (zal _ _ (Nat.le_succ _))
  · have HN3:Hid (V3=0):=zb9 (by rw [HL3.out];omega) HGO.out
    have HVW:Hid (V=zam [V4]):=by rw [Hid,HVV.out,HN3.out];rfl
    have HB2:=Lib.hid (HB.out.trans (HBK.out.mono (by omega)))
    have hs2:=Nat.le_trans hs hsk
    replace HH:=Lib.hid HF
    clear HN3 HVV HBK HGO HF hk
    obtain ⟨wq,rfl⟩:∃ wq,wq=wr:=⟨wr,rfl⟩
    go_wp2
    go_loopw [11] (fun u wx=>CkR wq (rtE ns sws) rts nr V4 u wx) (fun u _=>nr - (intOf u).toNat)
    case atStart=>exact ⟨0,Nat.zero_le _,rfl,HV4.out,Below.refl _ _⟩
    case round =>
     clear HV4
     obtain ⟨j,hj,rfl,hgo,hb⟩:=hrel
     have HGO:=Lib.hid hgo
     have HBK:=Lib.hid hb
     have HF:=HH.out.below (hb.mono (by omega))
     have hsk:=hb.size
     replace k0:=blk hb k0
     replace k1:=blk hb k1
     replace k2:=blk hb k2
     replace d0:=zat hb d0
     replace d1:=zat hb d1
     replace d2:=zat hb d2
     replace d3:=zat hb d3
     clear hgo hb
     by_cases hjt:j<nr
     · have hkl:j<rts.length:=by rw [HL4.out];exact hjt
       obtain ⟨x,hev⟩:∃ ev,rts[j]?=some ev:=⟨_,List.getElem?_eq_getElem hkl⟩
       have hxm:=List.mem_of_getElem? hev
       have SW:=refRoute_any wr bw As At Aw Ar ns nt nw nr cs ct cw cr rts sws HL4.out HF.rts.2 HL3.out HF.sws.2 (by omega) hn4 hn1 hn3 (fun s hs=>(HS.out.rts.2 s hs).1) j x hev (HF.rt x hxm).1 (HF.rt x hxm).2 (HF.cap.2.2.2.2 x hxm) (HS.out.rts.2 x hxm).2.1 (HS.out.rts.2 x hxm).2.2
       obtain ⟨E,hE⟩:∃ E,rtE ns sws (rts.take j) x=E:=⟨_,rfl⟩
       rw [hE] at SW
       have HE:=Lib.hid hE
       have HEV:=Lib.hid hev
       clear hE hev hkl HF hxm
       by_cases h3:E=0
       · have h3':(E != 0)=false:=by simp [h3]
         have HN:=Lib.hid (zc1 HEV.out HGO.out (HE.out.trans h3))
         clear h3
         go_upto_region 22 with (go_at_call 109;refine SW.mono ?_;rintro e wc ⟨rfl,hbc⟩)
         have HB1:=Lib.hid (HBK.out.trans (hbc.mono hsk))
         clear hbc SW d0 d1 d2 d3 k0 k1 k2 HBK
         go_wp2
         go_roundw
         case rel=>exact ⟨j+1,by omega,by go_num,HN.out,HB1.out⟩
         case measure=>simp [intOf];omega
       · have h3':(E != 0)=true:=by simp [h3]
         have HN:Hid (V=E):=by
          have h9:=zb3 HEV.out HGO.out (by rw [HE.out];exact h3)
          rw [HE.out] at h9
          rw [Hid,HVW.out,← h9]
          exact if_neg h3
         clear h3
         go_upto_region 22 with (go_at_call 109;refine SW.mono ?_;rintro e wc ⟨rfl,hbc⟩)
         replace k1:=blk hbc k1
         have HB1:=Lib.hid (HB2.out.trans ((HBK.out.trans (hbc.mono hsk)).mono (by omega)))
         clear hbc SW d0 d1 d2 d3 k0 k2 HBK
         obtain ⟨r2,r3,q2,q3⟩:=zbu k1
         go_wp2
         refine bodyPost_ret (v:=.tuple #[.agg #[.int .i64 4,.int .i64 j],.int .i64 E]) (by simp [results,Tryz.results68,go_sem,r2,r3]) rfl ⟨4,j,?_,?_⟩
         · rw [HN.out]
         · rw [HBW.out]
           exact (HB1.out).trans (zal _ _ (Nat.le_succ _))
     · have HN3:Hid (V4=0):=zb9 (by rw [HL4.out];omega) HGO.out
       have HN:Hid (V=0):=by rw [Hid,HVW.out,HN3.out];rfl
       have HB1:=Lib.hid (HB2.out.trans (HBK.out.mono (by omega)))
       obtain ⟨r2,r3,q2,q3⟩:=zbu k1
       obtain ⟨s2,s3,t2,t3⟩:=zbu k2
       go_wp2
       refine bodyPost_ret (v:=.tuple #[.agg #[.int .i64 0,.int .i64 0],.int .i64 0]) (by simp [results,Tryz.results68,go_sem,r2,r3]) rfl ⟨0,0,?_,?_⟩
       · rw [HN.out]
       · rw [HBW.out]
         exact (HB1.out).trans (zal _ _ (Nat.le_succ _))
theorem ziz (w:World) (B:Nat) (p:PlantV) (h:PlantAt w B p) (hS:PlantS p) (hB:B≤w.heap.size):Calls Tryz.prog 38 #[.agg (zap p).toArray] w (zay w (zb7 p)):=by
 have hb0:=hB1 w (.cells (zap p).toArray 26)
 have RT:=refPlant_any (w.alloc (.cells (zap p).toArray 26)) B p (h.keep hb0) hS (Nat.le_trans hB hb0.size)
 generalize zb7 p=V at *
 obtain ⟨⟨As,ns,cs⟩,secs,⟨At,nt,ct⟩,trains,⟨Aw,nw,cw⟩,sws,⟨Ar,nr,cr⟩,rts⟩:=p
 have k0:=hA1 w (.cells #[.slice As ns cs,.slice At nt ct,.slice Aw nw cw,.slice Ar nr cr] 26)
 change Below w.heap.size w (w.alloc (.cells #[.slice As ns cs,.slice At nt ct,.slice Aw nw cw,.slice Ar nr cr] 26)) at hb0
 change Calls Tryz.prog 68 #[.agg #[.slice As ns cs,.slice At nt ct,.slice Aw nw cw,.slice Ar nr cr]] (w.alloc (.cells #[.slice As ns cs,.slice At nt ct,.slice Aw nw cw,.slice Ar nr cr] 26)) _ at RT
 show Calls Tryz.prog 38 #[.agg #[.slice As ns cs,.slice At nt ct,.slice Aw nw cw,.slice Ar nr cr]] w _
 have HB:=Lib.hid hb0
 have hs0:=hb0.size
 clear hb0 h hS hB
 go_enter Tryz.func38,Tryz.ntmps38
 go_upto_region 1 with (fail)
 change Calls Tryz.prog 68 #[.agg #[.slice As ns cs,.slice At nt ct,.slice Aw nw cw,.slice Ar nr cr]] (w.alloc (.cells #[.slice As ns cs,.slice At nt ct,.slice Aw nw cw,.slice Ar nr cr] 26)) (zce (w.alloc (.cells #[.slice As ns cs,.slice At nt ct,.slice Aw nw cw,.slice Ar nr cr] 26)) V) at RT
 generalize (w.alloc (.cells #[.slice As ns cs,.slice At nt ct,.slice Aw nw cw,.slice Ar nr cr] 26))=w0 at *
 generalize hbw:w.heap.size=bw at *
 have HBW:=Lib.hid hbw
 clear hbw
 have d0:=(cell_of_row w0 _ 0 _ _ _ k0).trans (by rfl:_=some (.slice As ns cs))
 have d1:=(cell_of_row w0 _ 1 _ _ _ k0).trans (by rfl:_=some (.slice At nt ct))
 have d2:=(cell_of_row w0 _ 2 _ _ _ k0).trans (by rfl:_=some (.slice Aw nw cw))
 have d3:=(cell_of_row w0 _ 3 _ _ _ k0).trans (by rfl:_=some (.slice Ar nr cr))
 go_wp2_with (go_at_call 68;refine RT.mono ?_;rintro e wa ⟨ma,mb,rfl,hb1⟩)
 go_ret
 exact ⟨rfl,by rw [HBW.out];exact HB.out.trans ((hb1.mono hs0).alloc (Nat.le_trans hs0 hb1.size) _)⟩
end Go.Proofs.YtoodbfkbbchjiaaGreatDoor
