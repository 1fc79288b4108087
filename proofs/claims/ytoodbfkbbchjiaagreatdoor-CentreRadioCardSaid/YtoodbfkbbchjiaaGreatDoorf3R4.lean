import Derived.Test.YtoodbfkbbchjiaaGreatDoorf3R3
set_option maxRecDepth 100000
set_option maxHeartbeats 16000000
namespace Go.Proofs.YtoodbfkbbchjiaaGreatDoor
open Go.RowKit
theorem refNet_any (w:World) (B:Nat) (p:NetV) (h:FeedAt w B p) (hS:FeedS p) (hB:B≤w.heap.size):Calls Tryz.prog 69 #[.agg (zc9 p).toArray] w (zce w (zfp p)):=by
 obtain ⟨⟨As,ns,cs⟩,sts,⟨Af,nf,cf⟩,fss,⟨At,nt,ct⟩,tns⟩:=p
 show Calls Tryz.prog 69 #[.agg #[.slice As ns cs,.slice Af nf cf,.slice At nt ct]] w _
 have hl1:sts.length=ns:=h.sts.1
 have hl2:fss.length=nf:=h.fss.1
 have hl3:tns.length=nt:=h.tns.1
 have hn1:ns≤1000:=by rw [← hl1];exact hS.sts.1
 have hn2:nf≤1000:=by rw [← hl2];exact hS.fss
 have hn3:nt≤1000:=by rw [← hl3];exact hS.tns.1
 have k0:(((w.alloc (.cells #[.slice As ns cs,.slice Af nf cf,.slice At nt ct] 31)).alloc (.cells #[.int .i64 0,.int .i64 0] 183)).alloc (.cells #[.int .i64 0,.int .i64 0] 183)).heap[w.heap.size]?=some (.cells #[.slice As ns cs,.slice Af nf cf,.slice At nt ct] 31 (0,0)):=by
  rw [zae,if_neg (by simp;omega),zae,if_neg (by simp),zae,if_pos rfl]
 have k1:(((w.alloc (.cells #[.slice As ns cs,.slice Af nf cf,.slice At nt ct] 31)).alloc (.cells #[.int .i64 0,.int .i64 0] 183)).alloc (.cells #[.int .i64 0,.int .i64 0] 183)).heap[w.heap.size+1]?=some (.cells #[.int .i64 0,.int .i64 0] 183 (0,0)):=by
  rw [zae,if_neg (by simp),zae,if_pos (by simp)]
 have k2:(((w.alloc (.cells #[.slice As ns cs,.slice Af nf cf,.slice At nt ct] 31)).alloc (.cells #[.int .i64 0,.int .i64 0] 183)).alloc (.cells #[.int .i64 0,.int .i64 0] 183)).heap[w.heap.size+1+1]?=some (.cells #[.int .i64 0,.int .i64 0] 183 (0,0)):=by
  rw [zae,if_pos (by simp)]
 have hb0:Below w.heap.size w (((w.alloc (.cells #[.slice As ns cs,.slice Af nf cf,.slice At nt ct] 31)).alloc (.cells #[.int .i64 0,.int .i64 0] 183)).alloc (.cells #[.int .i64 0,.int .i64 0] 183)):=(((Below.refl _ _).alloc (Nat.le_refl _) _).alloc (by simp) _).alloc (by simp;omega) _
 have hs:w.heap.size+3≤(((w.alloc (.cells #[.slice As ns cs,.slice Af nf cf,.slice At nt ct] 31)).alloc (.cells #[.int .i64 0,.int .i64 0] 183)).alloc (.cells #[.int .i64 0,.int .i64 0] 183)).heap.size:=by simp
 have HH:=Lib.hid ((h.keep hb0).mono hB)
 have HS:=Lib.hid hS
 have HB:=Lib.hid hb0
 obtain ⟨V,hV⟩:∃ V,zfp ⟨⟨As,ns,cs⟩,sts,⟨Af,nf,cf⟩,fss,⟨At,nt,ct⟩,tns⟩=V:=⟨_,rfl⟩
 rw [hV]
 obtain ⟨E1,hE1⟩:∃ E,zb2 ns nf nt=E:=⟨_,rfl⟩
 obtain ⟨V1,hV1⟩:∃ V,za2 stE [] sts=V:=⟨_,rfl⟩
 obtain ⟨V2,hV2⟩:∃ V,za2 (fun _ s=>fsE ns s) [] fss=V:=⟨_,rfl⟩
 obtain ⟨V3,hV3⟩:∃ V,za2 (tnE nf) [] tns=V:=⟨_,rfl⟩
 have HV:Hid (V=if E1=0 then zam [V1,V2,V3] else E1):=by
  rw [Hid,← hV,zfp]
  simp only [hl1,hl2,hl3,hE1,hV1,hV2,hV3]
 have HE1:=Lib.hid hE1
 have HV1:=Lib.hid hV1
 have HV2:=Lib.hid hV2
 have HV3:=Lib.hid hV3
 have HL1:=Lib.hid hl1
 have HL2:=Lib.hid hl2
 have HL3:=Lib.hid hl3
 clear hb0 h hS hl1 hl2 hl3 hV hE1 hV1 hV2 hV3
 go_enter Tryz.func69,Tryz.ntmps69
 go_upto_region 2 with (fail)
 generalize (((w.alloc (.cells #[.slice As ns cs,.slice Af nf cf,.slice At nt ct] 31)).alloc (.cells #[.int .i64 0,.int .i64 0] 183)).alloc (.cells #[.int .i64 0,.int .i64 0] 183))=w0 at *
 generalize hbw:w.heap.size=bw at *
 have HBW:=Lib.hid hbw
 clear hbw
 have d0:=(cell_of_row w0 _ 0 _ _ _ k0).trans (by rfl:_=some (.slice As ns cs))
 have d1:=(cell_of_row w0 _ 1 _ _ _ k0).trans (by rfl:_=some (.slice Af nf cf))
 have d2:=(cell_of_row w0 _ 2 _ _ _ k0).trans (by rfl:_=some (.slice At nt ct))
 by_cases a1:ns=0
 · have HN:Hid (V=10):=by
    have e:E1=10:=HE1.out.symm.trans (zgh (Or.inl a1))
    rw [Hid,HV.out,e]
    rfl
   have a1':((ns:Int) == 0)=true:=by simp [a1]
   clear a1
   obtain ⟨r2,r3,q2,q3⟩:=zbu k1
   obtain ⟨s2,s3,t2,t3⟩:=zbu k2
   go_wp2
   refine bodyPost_ret (v:=.tuple #[.agg #[.int .i64 0,.int .i64 0],.int .i64 10]) (by simp [results,Tryz.results69,go_sem,r2,r3]) rfl ⟨0,0,?_,?_⟩
   · rw [HN.out]
   · rw [HBW.out]
     exact (HB.out).trans (zal _ _ (Nat.le_succ _))
 have a1':((ns:Int) == 0)=false:=by simp [a1]
 by_cases a2:nf=0
 · have HN:Hid (V=10):=by
    have e:E1=10:=HE1.out.symm.trans (zgh (Or.inr a2))
    rw [Hid,HV.out,e]
    rfl
   have a2':((nf:Int) == 0)=true:=by simp [a2]
   clear a1 a2
   obtain ⟨r2,r3,q2,q3⟩:=zbu k1
   obtain ⟨s2,s3,t2,t3⟩:=zbu k2
   go_wp2
   refine bodyPost_ret (v:=.tuple #[.agg #[.int .i64 0,.int .i64 0],.int .i64 10]) (by simp [results,Tryz.results69,go_sem,r2,r3]) rfl ⟨0,0,?_,?_⟩
   · rw [HN.out]
   · rw [HBW.out]
     exact (HB.out).trans (zal _ _ (Nat.le_succ _))
 have a2':((nf:Int) == 0)=false:=by simp [a2]
 have p1:0<ns:=by omega
 have p2:0<nf:=by omega
 have HP:=Lib.hid (And.intro p1 p2)
 clear a1 a2 p1 p2
 go_upto_region 4 with (fail)
 by_cases f1:(6:Int)<(ns:Int)
 · have HN:Hid (V=8):=by
    have e:E1=8:=HE1.out.symm.trans (zek HP.out.1 HP.out.2 (by omega))
    rw [Hid,HV.out,e]
    rfl
   obtain ⟨r2,r3,q2,q3⟩:=zbu k1
   obtain ⟨s2,s3,t2,t3⟩:=zbu k2
   go_wp2
   refine bodyPost_ret (v:=.tuple #[.agg #[.int .i64 0,.int .i64 0],.int .i64 8]) (by simp [results,Tryz.results69,go_sem,r2,r3]) rfl ⟨0,0,?_,?_⟩
   · rw [HN.out]
   · rw [HBW.out]
     exact (HB.out).trans (zal _ _ (Nat.le_succ _))
 by_cases f2:(10:Int)<(nf:Int)
 · have HN:Hid (V=8):=by
    have e:E1=8:=HE1.out.symm.trans (zek HP.out.1 HP.out.2 (by omega))
    rw [Hid,HV.out,e]
    rfl
   obtain ⟨r2,r3,q2,q3⟩:=zbu k1
   obtain ⟨s2,s3,t2,t3⟩:=zbu k2
   go_wp2
   refine bodyPost_ret (v:=.tuple #[.agg #[.int .i64 0,.int .i64 0],.int .i64 8]) (by simp [results,Tryz.results69,go_sem,r2,r3]) rfl ⟨0,0,?_,?_⟩
   · rw [HN.out]
   · rw [HBW.out]
     exact (HB.out).trans (zal _ _ (Nat.le_succ _))
 by_cases f3:(6:Int)<(nt:Int)
 · have HN:Hid (V=8):=by
    have e:E1=8:=HE1.out.symm.trans (zek HP.out.1 HP.out.2 (by omega))
    rw [Hid,HV.out,e]
    rfl
   obtain ⟨r2,r3,q2,q3⟩:=zbu k1
   obtain ⟨s2,s3,t2,t3⟩:=zbu k2
   go_wp2
   refine bodyPost_ret (v:=.tuple #[.agg #[.int .i64 0,.int .i64 0],.int .i64 8]) (by simp [results,Tryz.results69,go_sem,r2,r3]) rfl ⟨0,0,?_,?_⟩
   · rw [HN.out]
   · rw [HBW.out]
     exact (HB.out).trans (zal _ _ (Nat.le_succ _))
 have HVV:Hid (V=zam [V1,V2,V3]):=by
  have e:E1=0:=HE1.out.symm.trans (feedHead_ok HP.out.1 HP.out.2 (by omega) (by omega) (by omega))
  rw [Hid,HV.out,if_pos e]
 clear HV HE1 HP a1' a2'
 go_upto_region 6 with (fail)
 clear f1 f2 f3
 go_wp2
 go_loopw [5] (fun u wx=>CkR w0 stE sts ns V1 u wx) (fun u _=>ns - (intOf u).toNat)
 case atStart=>exact ⟨0,Nat.zero_le _,rfl,HV1.out,Below.refl _ _⟩
 case round =>
  clear HV1
  obtain ⟨k,hk,rfl,hgo,hb⟩:=hrel
  have HGO:=Lib.hid hgo
  have HBK:=Lib.hid hb
  have HF:=HH.out.belowB (hb.mono (by omega))
  have hsk:=hb.size
  replace k0:=blk hb k0
  replace k1:=blk hb k1
  replace k2:=blk hb k2
  replace d0:=zat hb d0
  replace d1:=zat hb d1
  replace d2:=zat hb d2
  clear hgo hb
  by_cases hlt:k<ns
  · have hkl:k<sts.length:=by rw [HL1.out];exact hlt
    obtain ⟨⟨s,lm,tk⟩,hev⟩:∃ ev,sts[k]?=some ev:=⟨_,List.getElem?_eq_getElem hkl⟩
    have hz9:=(HS.out.sts.2 _ (List.mem_of_getElem? hev))
    have hba:=hB1 wr (.cells #[.int .i64 1,.int .i64 k] 183)
    have k3:=hA1 wr (.cells #[.int .i64 1,.int .i64 k] 183)
    have hra:=(HF.sts.2).below (hba.mono (by omega))
    obtain ⟨bb,off,rfl,hbB,z0,z1,z2⟩:=Rd.st hra hev
    have hsa:=Nat.le_trans hsk hba.size
    have HX:=Lib.hid hba
    have HBA:=Lib.hid (HBK.out.trans (hba.mono hsk))
    have HEV:=Lib.hid hev
    simp only at z0 z1 z2 hz9
    obtain ⟨bn,hbn⟩:∃ b,za3 s=b:=⟨_,rfl⟩
    obtain ⟨bt,hbt⟩:∃ b,zcu ((sts.take k).map (·.1)) s=b:=⟨_,rfl⟩
    obtain ⟨bl,hbl⟩:∃ b,zaj lm 0 100000=b:=⟨_,rfl⟩
    have HER:Hid (stE (sts.take k) (s,lm,tk)=zam [zag bn 4,zag (!bt) 5,zag bl 2]):=by rw [Hid,stE,hbn,hbt,hbl]
    have NM:=fun W=>zbv s bn hbn (by omega) W
    have WL:=fun W=>za1 lm 0 100000 bl hbl W
    have HBT:Hid (zcu (((sts.map (·.1)).take k).drop 0) s=bt):=by rw [Hid,← List.map_take,List.drop_zero];exact hbt
    clear hkl hbn hbt hbl hev hba HF HBK
    go_upto_region 10 with (fail)
    replace k0:=blk HX.out k0
    replace k1:=blk HX.out k1
    replace k2:=blk HX.out k2
    replace d0:=zat HX.out d0
    replace d1:=zat HX.out d1
    replace d2:=zat HX.out d2
    clear HX
    generalize wr.alloc (.cells #[.int .i64 1,.int .i64 k] 183)=wa at *
    generalize wr.heap.size=xa at *
    cases bn with
    | false =>
     have HN:Hid (V=4):=by
      have e:stE (sts.take k) (s,lm,tk)=4:=by rw [HER.out];rfl
      have h9:=zb3 HEV.out HGO.out (by rw [e];decide)
      rw [Hid,HVV.out,← h9,e]
      rfl
     obtain ⟨s2,s3,t2,t3⟩:=zbu k3
     go_upto_region 11 with (go_at_call 73;refine (NM _).mono ?_;rintro e w' ⟨rfl,rfl⟩)
     obtain ⟨r2,r3,q2,q3⟩:=zbu k1
     go_wp2
     refine bodyPost_ret (v:=.tuple #[.agg #[.int .i64 1,.int .i64 k],.int .i64 4]) (by simp [results,Tryz.results69,go_sem,r2,r3]) rfl ⟨1,k,?_,?_⟩
     · rw [HN.out]
     · rw [HBW.out]
       exact (HB.out.trans (HBA.out.mono (by omega))).trans (zal _ _ (Nat.le_succ _))
    | true =>
     go_upto_region 12 with (go_at_call 73;refine (NM _).mono ?_;rintro e w' ⟨rfl,rfl⟩)
     clear NM
     go_wp2
     go_loopw [7] (fun u wx=>HtRel wa (sts.map (·.1)) s k bt u wx) (fun u _=>k - (intOf u).toNat)
     case atStart=>exact ⟨0,Nat.zero_le _,rfl,HBT.out,Below.refl _ _⟩
     case round =>
      clear HBT
      obtain ⟨j,hj,rfl,hgj,hb⟩:=hrel
      have HGJ:=Lib.hid hgj
      have HBJ:=Lib.hid hb
      have hrj:=hra.below (hb.mono (by omega))
      replace k0:=blk hb k0
      replace k1:=blk hb k1
      replace k2:=blk hb k2
      replace k3:=blk hb k3
      replace d0:=zat hb d0
      replace d1:=zat hb d1
      replace d2:=zat hb d2
      replace z0:=zat hb z0
      replace z1:=zat hb z1
      have hsj:=hb.size
      clear hgj hb
      by_cases hjk:j<k
      · have hjl:j<sts.length:=by rw [HL1.out];omega
        obtain ⟨⟨x,lx,tx⟩,hev⟩:∃ ev,sts[j]?=some ev:=⟨_,List.getElem?_eq_getElem hjl⟩
        obtain ⟨b9,off9,hA9,hb9B,y0,y1,y2⟩:=Rd.st hrj hev
        cases hA9
        have HEV2:Hid ((sts.map (·.1))[j]?=some x):=by rw [Hid,List.getElem?_map,hev];rfl
        simp only at y0
        have hjn:j<ns:=by omega
        have x0:=fun y:Xt wr=>y.cell d0
        have x1:=fun y:Xt wr=>y.cell y0
        have x2:=fun y:Xt wr=>y.cell z0
        clear hev hjl y1 y2
        go_upto_region 15 with (fail)
        refine za5 (by kernel_rfl) (by kernel_rfl) ?_
        repeat (go_big_quiet_step (fail))
        refine wpQuiet_nil ?_
        intro w1 hx
        have hbx:=Xt.below hx
        have HB1:=Lib.hid (HBJ.out.trans (hbx.mono hsj))
        replace k1:=blk hbx k1
        replace k3:=blk hbx k3
        clear hx x0 x1 x2 y0 z0 HBJ hbx
        cases he:(x.toList == s.toList) with
        | true =>
         have HE:=Lib.hid he
         have HBT:=Lib.hid (ht_yes hjk HEV2.out he HGJ.out)
         have HN:Hid (V=5):=by
          have e:stE (sts.take k) (s,lm,tk)=5:=by rw [HER.out,HBT.out];rfl
          have h9:=zb3 HEV.out HGO.out (by rw [e];decide)
          rw [Hid,HVV.out,← h9,e]
          rfl
         obtain ⟨s2,s3,t2,t3⟩:=zbu k3
         obtain ⟨r2,r3,q2,q3⟩:=zbu k1
         go_wp2
         refine bodyPost_ret (v:=.tuple #[.agg #[.int .i64 1,.int .i64 k],.int .i64 5]) (by simp [results,Tryz.results69,go_sem,r2,r3]) rfl ⟨1,k,?_,?_⟩
         · rw [HN.out]
         · rw [HBW.out]
           exact (HB.out.trans ((HBA.out.trans (HB1.out.mono (by omega))).mono (by omega))).trans (zal _ _ (Nat.le_succ _))
        | false =>
         have HE:=Lib.hid he
         have HN3:=Lib.hid (ht_no hjk HEV2.out he HGJ.out)
         go_wp2
         go_roundw
         case rel=>exact ⟨j+1,by omega,by go_num,HN3.out,HB1.out⟩
         case measure=>simp [intOf];omega
      · have HBT:=Lib.hid (ht_end hjk HGJ.out)
        have HB1:=Lib.hid (HBA.out.trans (HBJ.out.mono (by omega)))
        clear HGJ HBJ hrj
        cases bl with
        | false =>
         have HN:Hid (V=2):=by
          have e:stE (sts.take k) (s,lm,tk)=2:=by rw [HER.out,HBT.out];rfl
          have h9:=zb3 HEV.out HGO.out (by rw [e];decide)
          rw [Hid,HVV.out,← h9,e]
          rfl
         obtain ⟨s2,s3,t2,t3⟩:=zbu k3
         go_upto_region 18 with (go_at_call 9;refine (WL _).mono ?_;rintro e w' ⟨rfl,rfl⟩)
         obtain ⟨r2,r3,q2,q3⟩:=zbu k1
         go_wp2
         refine bodyPost_ret (v:=.tuple #[.agg #[.int .i64 1,.int .i64 k],.int .i64 2]) (by simp [results,Tryz.results69,go_sem,r2,r3]) rfl ⟨1,k,?_,?_⟩
         · rw [HN.out]
         · rw [HBW.out]
           exact (HB.out.trans (HB1.out.mono (by omega))).trans (zal _ _ (Nat.le_succ _))
        | true =>
         have HN3:=Lib.hid (zc1 HEV.out HGO.out (by rw [HER.out,HBT.out];rfl))
         go_wp2_with (go_at_call 9;refine (WL _).mono ?_;rintro e w' ⟨rfl,rfl⟩)
         go_roundw
         case rel=>exact ⟨k+1,by omega,by go_num,HN3.out,HB1.out⟩
         case measure=>simp [intOf];omega
  · have HN3:Hid (V1=0):=zb9 (by rw [HL1.out];omega) HGO.out
    have HVW:Hid (V=zam [V2,V3]):=by rw [Hid,HVV.out,HN3.out];rfl
    have HB2:=Lib.hid (HB.out.trans (HBK.out.mono (by omega)))
    have hs2:=Nat.le_trans hs hsk
    replace HH:=Lib.hid HF
    clear HN3 HVV HBK HGO HF hk
    obtain ⟨wq,rfl⟩:∃ wq,wq=wr:=⟨wr,rfl⟩
    go_wp2
    go_loopw [8] (fun u wx=>CkR wq (fun _ s=>fsE ns s) fss nf V2 u wx) (fun u _=>nf - (intOf u).toNat)
    case atStart=>exact ⟨0,Nat.zero_le _,rfl,HV2.out,Below.refl _ _⟩
    case round =>
     clear HV2
     obtain ⟨j,hj,rfl,hgo,hb⟩:=hrel
     have HGO:=Lib.hid hgo
     have HBK:=Lib.hid hb
     have HF:=HH.out.belowB (hb.mono (by omega))
     have hsk:=hb.size
     replace k0:=blk hb k0
     replace k1:=blk hb k1
     replace k2:=blk hb k2
     replace d0:=zat hb d0
     replace d1:=zat hb d1
     replace d2:=zat hb d2
     clear hgo hb
     by_cases hjt:j<nf
     · have hkl:j<fss.length:=by rw [HL2.out];exact hjt
       obtain ⟨x,hev⟩:∃ ev,fss[j]?=some ev:=⟨_,List.getElem?_eq_getElem hkl⟩
       have hra:=HF.fss.2
       obtain ⟨bb,off,rfl,hbB,z0,z1,z2,z3⟩:=Rd.fs hra hev
       have SW:=fun W=>refFsec_any As (some ⟨bb,off,none⟩) At ns cs nf cf nt ct W x hn1
       unfold zec at SW
       obtain ⟨E,hE⟩:∃ E,fsE ns x=E:=⟨_,rfl⟩
       rw [hE] at SW
       have HE:=Lib.hid hE
       have HEV:=Lib.hid hev
       clear hE hev hkl HF hra
       have x0:=fun y:Xt wr=>y.cell d0
       have x1:=fun y:Xt wr=>y.cell d1
       have x2:=fun y:Xt wr=>y.cell d2
       have x3:=fun y:Xt wr=>y.cell z0
       have x4:=fun y:Xt wr=>y.cell z1
       have x5:=fun y:Xt wr=>y.cell z2
       have x6:=fun y:Xt wr=>y.cell z3
       go_upto_region 22 with (fail)
       refine za5 (by kernel_rfl) (by kernel_rfl) ?_
       repeat (go_big_quiet_step (first | (go_at_call 110;exact Xt.calls (SW _))))
       refine wpQuiet_nil ?_
       intro w1 hx
       have hbx:=Xt.below hx
       have HB1:=Lib.hid (HBK.out.trans (hbx.mono hsk))
       replace k1:=blk hbx k1
       clear hx x0 x1 x2 x3 x4 x5 x6 z0 z1 z2 z3 HBK hbx SW d0 d1 d2 k0 k2
       by_cases h3:E=0
       · have h3':(E != 0)=false:=by simp [h3]
         have HN:=Lib.hid (zc1 (f:=fun _ s=>fsE ns s) HEV.out HGO.out (HE.out.trans h3))
         clear h3
         go_wp2
         go_roundw
         case rel=>exact ⟨j+1,by omega,by go_num,HN.out,HB1.out⟩
         case measure=>simp [intOf];omega
       · have h3':(E != 0)=true:=by simp [h3]
         have HN:Hid (V=E):=by
          have h9:=zb3 (f:=fun _ s=>fsE ns s) HEV.out HGO.out (by rw [HE.out];exact h3)
          rw [HE.out] at h9
          rw [Hid,HVW.out,← h9]
          exact if_neg h3
         clear h3
         obtain ⟨r2,r3,q2,q3⟩:=zbu k1
         go_wp2
         refine bodyPost_ret (v:=.tuple #[.agg #[.int .i64 2,.int .i64 j],.int .i64 E]) (by simp [results,Tryz.results69,go_sem,r2,r3]) rfl ⟨2,j,?_,?_⟩
         · rw [HN.out]
         · rw [HBW.out]
           exact (HB2.out.trans (HB1.out.mono (by omega))).trans (zal _ _ (Nat.le_succ _))
     · have HN3:Hid (V2=0):=zb9 (by rw [HL2.out];omega) HGO.out
       have HVX:Hid (V=zam [V3]):=by rw [Hid,HVW.out,HN3.out];rfl
       have HB3:=Lib.hid (HB2.out.trans (HBK.out.mono (by omega)))
       have hs3:=Nat.le_trans hs2 hsk
       replace HH:=Lib.hid HF
       clear HN3 HVW HBK HGO HF hj HB2 HB
       obtain ⟨wp,rfl⟩:∃ wp,wp=wr:=⟨wr,rfl⟩
       go_wp2
       go_loopw [10] (fun u wx=>CkR wp (tnE nf) tns nt V3 u wx) (fun u _=>nt - (intOf u).toNat)
       case atStart=>exact ⟨0,Nat.zero_le _,rfl,HV3.out,Below.refl _ _⟩
       case round =>
        clear HV3
        obtain ⟨i,hi,rfl,hgo,hb⟩:=hrel
        have HGO:=Lib.hid hgo
        have HBK:=Lib.hid hb
        have HF:=HH.out.belowB (hb.mono (by omega))
        have hsk:=hb.size
        replace k0:=blk hb k0
        replace k1:=blk hb k1
        replace k2:=blk hb k2
        replace d0:=zat hb d0
        replace d1:=zat hb d1
        replace d2:=zat hb d2
        clear hgo hb
        by_cases hit:i<nt
        · have hkl:i<tns.length:=by rw [HL3.out];exact hit
          obtain ⟨x,hev⟩:∃ ev,tns[i]?=some ev:=⟨_,List.getElem?_eq_getElem hkl⟩
          have hxm:=List.mem_of_getElem? hev
          obtain ⟨hz9,hz8⟩:=(HS.out.tns.2 _ hxm)
          have hba:=hB1 wr (.cells #[.int .i64 3,.int .i64 i] 183)
          have k3:=hA1 wr (.cells #[.int .i64 3,.int .i64 i] 183)
          have hra:=(HF.tns.2).below (hba.mono (by omega))
          have hst:=(HF.tn x hxm).below (hba.mono (by omega))
          obtain ⟨bb,off,rfl,hbB,z0,z1,z2,z3⟩:=Rd.tn hra hev
          have hsa:=Nat.le_trans hsk hba.size
          have HX:=Lib.hid hba
          have HBA:=Lib.hid (HBK.out.trans (hba.mono hsk))
          have HEV:=Lib.hid hev
          obtain ⟨ix,hix⟩:∃ ix,za4 (fun a:TnV=>a.nm.toList == x.nm.toList) tns 0=ix:=⟨_,rfl⟩
          obtain ⟨bn,hbn⟩:∃ b,za3 x.nm=b:=⟨_,rfl⟩
          obtain ⟨bt,hbt⟩:∃ b,zcu ((tns.take i).map (·.nm)) x.nm=b:=⟨_,rfl⟩
          obtain ⟨E,hE⟩:∃ E,trE nf x=E:=⟨_,rfl⟩
          have HIX:Hid (decide (ix<(i:Int))=bt):=by
           have h9:=zkt (fun a:TnV=>a.nm.toList == x.nm.toList) tns 0 i x hev (by simp)
           rw [Nat.zero_add,hix] at h9
           rw [Hid,h9,← hbt,zcu,List.any_map]
           rfl
          have HER:Hid (tnE nf (tns.take i) x=zam [zag bn 4,zag (!bt) 5,E]):=by rw [Hid,tnE,hbn,hbt,hE]
          have NM:=fun W=>zbv x.nm bn hbn (by omega) W
          have hsz:bw≤(wr.alloc (.cells #[.int .i64 3,.int .i64 i] 183)).heap.size:=by omega
          have HXX:=Lib.hid hix
          have HE:=Lib.hid hE
          clear hkl hbn hbt hev hba HF HBK hix hE
          go_upto_region 29 with (fail)
          replace k0:=blk HX.out k0
          replace k1:=blk HX.out k1
          replace k2:=blk HX.out k2
          replace d0:=zat HX.out d0
          replace d1:=zat HX.out d1
          replace d2:=zat HX.out d2
          clear HX
          generalize wr.alloc (.cells #[.int .i64 3,.int .i64 i] 183)=wa at *
          generalize wr.heap.size=xa at *
          cases bn with
          | false =>
           have HN:Hid (V=4):=by
            have e:tnE nf (tns.take i) x=4:=by rw [HER.out];rfl
            have h9:=zb3 HEV.out HGO.out (by rw [e];decide)
            rw [Hid,HVX.out,← h9,e]
            rfl
           obtain ⟨s2,s3,t2,t3⟩:=zbu k3
           go_upto_region 30 with (go_at_call 73;refine (NM _).mono ?_;rintro e w' ⟨rfl,rfl⟩)
           obtain ⟨r2,r3,q2,q3⟩:=zbu k1
           go_wp2
           refine bodyPost_ret (v:=.tuple #[.agg #[.int .i64 3,.int .i64 i],.int .i64 4]) (by simp [results,Tryz.results69,go_sem,r2,r3]) rfl ⟨3,i,?_,?_⟩
           · rw [HN.out]
           · rw [HBW.out]
             exact (HB3.out.trans (HBA.out.mono (by omega))).trans (zal _ _ (Nat.le_succ _))
          | true =>
           go_upto_region 31 with (go_at_call 73;refine (NM _).mono ?_;rintro e w' ⟨rfl,rfl⟩)
           clear NM
           have TX:=fun (y:Xt wa)=>refTrain_any As Af (some ⟨bb,off,none⟩) ns cs nf cf nt ct bw tns x.nm ix HXX.out y.1 hn3 HL3.out (hra.below (y.2.mono (by omega))) (Nat.le_trans hsz y.2.size)
           unfold zec at TX
           have x0:=fun y:Xt wa=>y.cell d0
           have x1:=fun y:Xt wa=>y.cell d1
           have x2:=fun y:Xt wa=>y.cell d2
           have x3:=fun y:Xt wa=>y.cell z0
           refine za5 (by kernel_rfl) (by kernel_rfl) ?_
           repeat (go_big_quiet_step (first | (go_at_call 111;exact Xt.calls (TX _))))
           refine wpQuiet_nil ?_
           intro w1 hx
           have hbx:=Xt.below hx
           replace HBA:=Lib.hid (HBA.out.trans (hbx.mono hsa))
           replace hst:=hst.below (hbx.mono (by omega))
           replace hsz:=Nat.le_trans hsz hbx.size
           replace hsa:=Nat.le_trans hsa hbx.size
           replace k1:=blk hbx k1
           replace k2:=blk hbx k2
           replace k3:=blk hbx k3
           replace d0:=zat hbx d0
           replace d1:=zat hbx d1
           replace d2:=zat hbx d2
           replace z0:=zat hbx z0
           replace z1:=zat hbx z1
           replace z2:=zat hbx z2
           replace z3:=zat hbx z3
           clear hx x0 x1 x2 x3 TX hbx k0 hra
           by_cases hlt2:ix<(i:Int)
           · have HBT:Hid (bt=true):=by rw [Hid,← HIX.out];simp [hlt2]
             have HN:Hid (V=5):=by
              have e:tnE nf (tns.take i) x=5:=by rw [HER.out,HBT.out];rfl
              have h9:=zb3 HEV.out HGO.out (by rw [e];decide)
              rw [Hid,HVX.out,← h9,e]
              rfl
             obtain ⟨s2,s3,t2,t3⟩:=zbu k3
             obtain ⟨r2,r3,q2,q3⟩:=zbu k1
             go_wp2
             refine bodyPost_ret (v:=.tuple #[.agg #[.int .i64 3,.int .i64 i],.int .i64 5]) (by simp [results,Tryz.results69,go_sem,r2,r3]) rfl ⟨3,i,?_,?_⟩
             · rw [HN.out]
             · rw [HBW.out]
               exact (HB3.out.trans (HBA.out.mono (by omega))).trans (zal _ _ (Nat.le_succ _))
           have HBT:Hid (bt=false):=by rw [Hid,← HIX.out];simp [hlt2]
           go_upto_region 33 with (fail)
           clear hlt2
           have TF:∀ y:Xt w1,Calls Tryz.prog 112 #[.agg #[.slice As ns cs,.slice Af nf cf,.slice (some ⟨bb,off,none⟩) nt ct],.agg #[.string x.nm,.int .i64 x.e1,.int .i64 x.e2,.slice x.s.A x.s.n x.s.c]] y.1 (zay y.1 E):=fun y=>by
            have h9:=zls As Af (some ⟨bb,off,none⟩) ns cs nf cf nt ct y.1 bw x hn2 (hst.below (y.2.mono (by omega))) (Nat.le_trans hsz y.2.size) hz8
            rw [HE.out] at h9
            exact h9
           have x0:=fun y:Xt w1=>y.cell d0
           have x1:=fun y:Xt w1=>y.cell d1
           have x2:=fun y:Xt w1=>y.cell d2
           have x3:=fun y:Xt w1=>y.cell z0
           have x4:=fun y:Xt w1=>y.cell z1
           have x5:=fun y:Xt w1=>y.cell z2
           have x6:=fun y:Xt w1=>y.cell z3
           refine za5 (by kernel_rfl) (by kernel_rfl) ?_
           repeat (go_big_quiet_step (first | (go_at_call 112;exact Xt.calls (TF _))))
           refine wpQuiet_nil ?_
           intro w2 hx
           have hbx:=Xt.below hx
           replace HBA:=Lib.hid (HBA.out.trans (hbx.mono hsa))
           replace k1:=blk hbx k1
           replace k3:=blk hbx k3
           clear hx x0 x1 x2 x3 x4 x5 x6 TF hbx k2 d0 d1 d2 z0 z1 z2 z3
           by_cases h3:E=0
           · have h3':(E != 0)=false:=by simp [h3]
             have HN:=Lib.hid (zc1 HEV.out HGO.out (show tnE nf (tns.take i) x=0 by rw [HER.out,HBT.out,h3];rfl))
             clear h3
             go_wp2
             go_roundw
             case rel=>exact ⟨i+1,by omega,by go_num,HN.out,HBA.out⟩
             case measure=>simp [intOf];omega
           · have h3':(E != 0)=true:=by simp [h3]
             have HN:Hid (V=E):=by
              have e:tnE nf (tns.take i) x=E:=by rw [HER.out,HBT.out];simp [zam,zag,h3]
              have h9:=zb3 HEV.out HGO.out (by rw [e];exact h3)
              rw [e] at h9
              rw [Hid,HVX.out,← h9]
              exact if_neg h3
             clear h3
             obtain ⟨s2,s3,t2,t3⟩:=zbu k3
             obtain ⟨r2,r3,q2,q3⟩:=zbu k1
             go_wp2
             refine bodyPost_ret (v:=.tuple #[.agg #[.int .i64 3,.int .i64 i],.int .i64 E]) (by simp [results,Tryz.results69,go_sem,r2,r3]) rfl ⟨3,i,?_,?_⟩
             · rw [HN.out]
             · rw [HBW.out]
               exact (HB3.out.trans (HBA.out.mono (by omega))).trans (zal _ _ (Nat.le_succ _))
        · have HN3:Hid (V3=0):=zb9 (by rw [HL3.out];omega) HGO.out
          have HN:Hid (V=0):=by rw [Hid,HVX.out,HN3.out];rfl
          have HB1:=Lib.hid (HB3.out.trans (HBK.out.mono (by omega)))
          obtain ⟨r2,r3,q2,q3⟩:=zbu k1
          obtain ⟨s2,s3,t2,t3⟩:=zbu k2
          go_wp2
          refine bodyPost_ret (v:=.tuple #[.agg #[.int .i64 0,.int .i64 0],.int .i64 0]) (by simp [results,Tryz.results69,go_sem,r2,r3]) rfl ⟨0,0,?_,?_⟩
          · rw [HN.out]
          · rw [HBW.out]
            exact (HB1.out).trans (zal _ _ (Nat.le_succ _))
theorem zlq (w:World) (B:Nat) (p:NetV) (h:FeedAt w B p) (hS:FeedS p) (hB:B≤w.heap.size):Calls Tryz.prog 39 #[.agg (zc9 p).toArray] w (zay w (zfp p)):=by
 have hb0:=hB1 w (.cells (zc9 p).toArray 31)
 have RT:=refNet_any (w.alloc (.cells (zc9 p).toArray 31)) B p (h.keep hb0) hS (Nat.le_trans hB hb0.size)
 generalize zfp p=V at *
 obtain ⟨⟨As,ns,cs⟩,sts,⟨Af,nf,cf⟩,fss,⟨At,nt,ct⟩,tns⟩:=p
 have k0:=hA1 w (.cells #[.slice As ns cs,.slice Af nf cf,.slice At nt ct] 31)
 change Below w.heap.size w (w.alloc (.cells #[.slice As ns cs,.slice Af nf cf,.slice At nt ct] 31)) at hb0
 change Calls Tryz.prog 69 #[.agg #[.slice As ns cs,.slice Af nf cf,.slice At nt ct]] (w.alloc (.cells #[.slice As ns cs,.slice Af nf cf,.slice At nt ct] 31)) _ at RT
 show Calls Tryz.prog 39 #[.agg #[.slice As ns cs,.slice Af nf cf,.slice At nt ct]] w _
 have HB:=Lib.hid hb0
 have hs0:=hb0.size
 clear hb0 h hS hB
 go_enter Tryz.func39,Tryz.ntmps39
 go_upto_region 1 with (fail)
 change Calls Tryz.prog 69 #[.agg #[.slice As ns cs,.slice Af nf cf,.slice At nt ct]] (w.alloc (.cells #[.slice As ns cs,.slice Af nf cf,.slice At nt ct] 31)) (zce (w.alloc (.cells #[.slice As ns cs,.slice Af nf cf,.slice At nt ct] 31)) V) at RT
 generalize (w.alloc (.cells #[.slice As ns cs,.slice Af nf cf,.slice At nt ct] 31))=w0 at *
 generalize hbw:w.heap.size=bw at *
 have HBW:=Lib.hid hbw
 clear hbw
 have d0:=(cell_of_row w0 _ 0 _ _ _ k0).trans (by rfl:_=some (.slice As ns cs))
 have d1:=(cell_of_row w0 _ 1 _ _ _ k0).trans (by rfl:_=some (.slice Af nf cf))
 have d2:=(cell_of_row w0 _ 2 _ _ _ k0).trans (by rfl:_=some (.slice At nt ct))
 go_wp2_with (go_at_call 69;refine RT.mono ?_;rintro e wa ⟨ma,mb,rfl,hb1⟩)
 go_ret
 exact ⟨rfl,by rw [HBW.out];exact HB.out.trans ((hb1.mono hs0).alloc (Nat.le_trans hs0 hb1.size) _)⟩
end Go.Proofs.YtoodbfkbbchjiaaGreatDoor
