import Derived.Test.YtoodbfkbbchjiaaGreatDoorf3F2
import Derived.Test.YtoodbfkbbchjiaaGreatDoorf3F3
set_option maxRecDepth 100000
set_option maxHeartbeats 16000000
namespace Go.Proofs.YtoodbfkbbchjiaaGreatDoor
open Go.RowKit
theorem info9:(Tryz.prog.info? 9).map (fun i=>(i.zero,i.size,i.bytes))=some (some (.string ⟨#[]⟩),1,16):=by kernel_rfl
theorem zez {X:World} {k:Nat} {x:Value} (h:X.cell? ⟨k,0,none⟩=some x):∀ j u,[x][j]?=some u→X.cell? ((⟨k,0,none⟩:Addr).add j)=some u:=by
 intro j u hu
 match j,hu with
 | 0,hu =>
  simp only [zX2,Option.some.injEq] at hu
  subst hu
  simpa [Addr.add] using h
def NmRel {α:Type} (w0:World) (f:List α→α→Int) (l:List α) (nm:α→ByteArray) (n:Nat) (V:Int) (u un:Value) (wr:World):Prop:=
 ∃ k:Nat,k≤n∧u=.int .i64 k∧za2 f (l.take k) (l.drop k)=V∧wr.ownsRow w0.heap.size 9 1 un k (strCells ((l.take k).map nm))∧Below w0.heap.size w0 wr
theorem zl6 {α:Type} {l:List α} {k:Nat} {x:α} (h:l[k]?=some x) (nm:α→ByteArray):strCells ((l.take (k+1)).map nm)=strCells ((l.take k).map nm)++[.string (nm x)]:=by
 rw [List.take_add_one,h]
 simp [strCells]
theorem len_take {α:Type} {l:List α} {k:Nat} (h:k≤l.length) (nm:α→ByteArray):((l.take k).map nm).length=k:=by simp;omega
theorem zia (a b c:Int):zam [zam [a,b],c]=zam [a,b,c]:=by
 by_cases h:a=0 <;> by_cases g:b=0 <;> simp [zam,h,g]
theorem fdNet_any (w:World) (B:Nat) (n:NetV) (h:FeedAt w B n) (hS:FeedS n) (hB:B≤w.heap.size) :
 Calls Tryz.prog 77 #[.agg (zc9 n).toArray] w (zce w (zfp n)):=by
 obtain ⟨⟨A1,n1,c1⟩,sts,⟨A2,n2,c2⟩,fss,⟨A3,n3,c3⟩,tns⟩:=n
 show Calls Tryz.prog 77 #[.agg #[.slice A1 n1 c1,.slice A2 n2 c2,.slice A3 n3 c3]] w _
 obtain ⟨i1,hi1,hy0,hy1,hy2⟩:=info_parts info9
 have hl1:sts.length=n1:=h.sts.1
 have hl2:fss.length=n2:=h.fss.1
 have hl3:tns.length=n3:=h.tns.1
 have hn1:n1≤1000:=by rw [← hl1];exact hS.sts.1
 have hn2:n2≤1000:=by rw [← hl2];exact hS.fss
 have hn3:n3≤1000:=by rw [← hl3];exact hS.tns.1
 have k0:((w.alloc (.cells #[.slice A1 n1 c1,.slice A2 n2 c2,.slice A3 n3 c3] 31)).alloc (.cells #[.int .i64 0,.int .i64 0] 183)).heap[w.heap.size]?=some (.cells #[.slice A1 n1 c1,.slice A2 n2 c2,.slice A3 n3 c3] 31 (0,0)):=by
  rw [zae,if_neg (by simp),zae,if_pos rfl]
 have k1:((w.alloc (.cells #[.slice A1 n1 c1,.slice A2 n2 c2,.slice A3 n3 c3] 31)).alloc (.cells #[.int .i64 0,.int .i64 0] 183)).heap[w.heap.size+1]?=some (.cells #[.int .i64 0,.int .i64 0] 183 (0,0)):=by
  rw [zae,if_pos (by simp)]
 have hb0:=hB2 w (.cells #[.slice A1 n1 c1,.slice A2 n2 c2,.slice A3 n3 c3] 31) (.cells #[.int .i64 0,.int .i64 0] 183)
 have hs:=hS2 w (.cells #[.slice A1 n1 c1,.slice A2 n2 c2,.slice A3 n3 c3] 31) (.cells #[.int .i64 0,.int .i64 0] 183)
 have H0:FeedAt ((w.alloc (.cells #[.slice A1 n1 c1,.slice A2 n2 c2,.slice A3 n3 c3] 31)).alloc (.cells #[.int .i64 0,.int .i64 0] 183)) w.heap.size ⟨⟨A1,n1,c1⟩,sts,⟨A2,n2,c2⟩,fss,⟨A3,n3,c3⟩,tns⟩:=(h.keep hb0).mono hB
 have HH:=Lib.hid H0
 have HS:=Lib.hid hS
 have HB:=Lib.hid hb0
 have HL1:=Lib.hid hl1
 have HL2:=Lib.hid hl2
 have HL3:=Lib.hid hl3
 obtain ⟨V,hV⟩:∃ V,zfp ⟨⟨A1,n1,c1⟩,sts,⟨A2,n2,c2⟩,fss,⟨A3,n3,c3⟩,tns⟩=V:=⟨_,rfl⟩
 rw [hV]
 obtain ⟨E1,hE1⟩:∃ E,zb2 n1 n2 n3=E:=⟨_,rfl⟩
 obtain ⟨V1,hV1⟩:∃ V,za2 stE [] sts=V:=⟨_,rfl⟩
 obtain ⟨V2,hV2⟩:∃ V,za2 (fun _ s=>fsE n1 s) [] fss=V:=⟨_,rfl⟩
 obtain ⟨V3,hV3⟩:∃ V,za2 (tnE n2) [] tns=V:=⟨_,rfl⟩
 have HV:Hid (V=if E1=0 then zam [V1,V2,V3] else E1):=by
  rw [Hid,← hV,zfp]
  simp only [hl1,hl2,hl3,hE1,hV1,hV2,hV3]
 have HE1:=Lib.hid hE1
 have HV1:=Lib.hid hV1
 have HV2:=Lib.hid hV2
 have HV3:=Lib.hid hV3
 clear hb0 h hS H0 hl1 hl2 hl3 hV hE1 hV1 hV2 hV3
 go_enter Tryz.func77,Tryz.ntmps77
 go_upto_region 1 with (fail)
 generalize ((w.alloc (.cells #[.slice A1 n1 c1,.slice A2 n2 c2,.slice A3 n3 c3] 31)).alloc (.cells #[.int .i64 0,.int .i64 0] 183))=w0 at *
 generalize hbw:w.heap.size=bw at *
 have HBW:=Lib.hid hbw
 clear hbw
 obtain ⟨d0,d1,d2⟩:_∧_∧_:=zba k0
 obtain ⟨r0,r1,q0,q1⟩:=zbu k1
 by_cases hE:E1=0
 · have HVV:Hid (V=zam [V1,V2,V3]):=by rw [Hid,HV.out,if_pos hE]
   obtain ⟨a1,a2,f1,f2,f3⟩:=zl1 (HE1.out.trans hE)
   clear hE HV HE1
   have HE2:zb2 n1 n2 n3=0:=by simp [zb2,a1,a2,f1,f2,f3,zam,zag]
   simp only [zb2,a1,a2,f1,f2,f3,decide_true,Bool.and_self] at HE2
   have HE3:=Lib.hid HE2
   clear HE2
   go_upto_region 3 with (first | (go_at_call 131;refine (zcd _ _ _).mono ?_;rintro e w' ⟨rfl,rfl⟩) | (go_at_call 130;refine (zf1 _ _ _).mono ?_;rintro e w' ⟨he,rfl⟩;rw [HE3.out] at he;subst he))
   have HB2:∀ o,Below w0.heap.size w0 (w0.alloc o):=fun o=>(Below.refl _ _).alloc (Nat.le_refl _) o
   generalize hw2:w0.alloc _=w2
   have hb2:Below w0.heap.size w0 w2:=by rw [← hw2];exact HB2 _
   clear HB2 hw2 HE3
   replace d0:=zat hb2 d0
   replace d1:=zat hb2 d1
   replace d2:=zat hb2 d2
   replace k1:=blk hb2 k1
   replace HH:=Lib.hid (HH.out.keep hb2)
   replace HB:=Lib.hid (HB.out.trans (hb2.mono (by omega)))
   replace hs:=Nat.le_trans hs hb2.size
   clear r0 r1 q0 q1 k0 hb2 f1 f2 f3
   generalize w0.heap.size=zz at *
   go_wp2
   go_loopw [6,54] (fun un u wr=>NmRel w2 stE sts (·.1) n1 V1 u un wr) (fun _ u _=>n1 - (intOf u).toNat)
   case atStart=>exact ⟨0,Nat.zero_le _,rfl,HV1.out,⟨rfl,.inl ⟨rfl,rfl⟩⟩,Below.refl _ _⟩
   case round =>
    clear HV1
    obtain ⟨k,hk,rfl,hgo,hown,hb⟩:=hrel
    obtain ⟨An,cn,rfl⟩:=zcn hown
    have HGO:=Lib.hid hgo
    have HBK:=Lib.hid hb
    have HOWN:=Lib.hid hown
    have HF:=HH.out.keep hb
    have hsk:=hb.size
    replace d0:=zat hb d0
    replace d1:=zat hb d1
    replace d2:=zat hb d2
    replace k1:=blk hb k1
    clear hgo hb hown
    by_cases hlt:k<n1
    · have hkl:k<sts.length:=by rw [HL1.out];exact hlt
      obtain ⟨ev,hev⟩:∃ ev,sts[k]?=some ev:=⟨_,List.getElem?_eq_getElem hkl⟩
      obtain ⟨bb,off,hA,hbB,z0,z1,z2⟩:=Rd.st HF.sts.2 hev
      simp only at hA
      subst hA
      have HSV:=Lib.hid hev
      have hz9:=HS.out.sts.2 ev (List.mem_of_getElem? hev)
      obtain ⟨s,lim,tk⟩:=ev
      simp only at z0 z1 z2 hz9
      obtain ⟨e0,e1,e2⟩:_∧_∧_:=zba (W:=wr.alloc (.cells #[.string s,.int .i64 lim,.bool tk] 80)) (by rw [zae,if_pos rfl])
      have hba:=hB1 wr (.cells #[.string s,.int .i64 lim,.bool tk] 80)
      have HBA:=Lib.hid (HBK.out.trans (hba.mono hsk))
      have hsa:=Nat.le_trans hsk hba.size
      have HOA:=Lib.hid (zaf HOWN.out hba)
      have hra:=za7 (zaf HOWN.out hba)
      replace d0:=zat hba d0
      replace d1:=zat hba d1
      replace d2:=zat hba d2
      replace k1:=blk hba k1
      obtain ⟨E9,hE9⟩:∃ E,nmE ((sts.take k).map (·.1)) s=E:=⟨_,rfl⟩
      obtain ⟨b1,hb1⟩:∃ b,zaj lim 0 100000=b:=⟨_,rfl⟩
      have EN:=fun y:Xt (wr.alloc (.cells #[.string s,.int .i64 lim,.bool tk] 80))=>zjm y.1 _ An k cn _ s E9 hE9 (len_take (by omega) _) (by omega) (hra.keep y.2) (by omega)
      have W1:=fun W=>zcp lim 0 100000 b1 hb1 W
      obtain ⟨er,her⟩:∃ er,zam [E9,zag b1 2]=er:=⟨_,rfl⟩
      have HER:Hid (stE (sts.take k) (s,lim,tk)=er):=by
       rw [Hid,← her,← hE9,← hb1]
       exact (zia _ _ _).symm
      have HEF:=Lib.hid her
      clear hba hkl HBK her hb1 hE9 hev HOWN hra HF
      go_upto_region 9 with (fail)
      clear z0 z1 z2
      generalize wr.alloc (.cells #[.string s,.int .i64 lim,.bool tk] 80)=wa at *
      generalize wr.heap.size=xb at *
      have x0:=fun y:Xt wa=>y.cell e0
      have x1:=fun y:Xt wa=>y.cell e1
      refine zax [] [0,1,2,3,4,5,6,7] 8 [9,10] (fun w'=>∃ y:Xt wa,w'=y.1) (by as_aux_lemma=>kernel_rfl) (by as_aux_lemma=>kernel_rfl) ⟨⟨wa.drew,(Below.refl _ _).drew⟩,rfl⟩ ?_
      simp only [zad,zac,zaa,zX1,zX2,zX3]
      refine wpQuiet_nil ?_
      show wpQuiet _ _ _ _ _ _
      repeat (go_big_quiet_step (first | (go_at_call 132;exact Xt.calls (EN _)) | (go_at_call 133;exact Xt.calls_same (W1 _)) | (go_at_call 131;exact Xt.calls_same (zcd _ _ _))))
      refine wpQuiet_nil ?_
      intro wb hx
      have hb3:=Xt.below hx
      clear x0 x1 hx W1 EN e1 e2
      go_upto_region 10 with (go_at_call 130;refine (zf1 _ _ _).mono ?_;rintro e w' ⟨he,rfl⟩;rw [HEF.out] at he;subst he)
      refine zab ?_
      have HB5:∀ o,Below wa.heap.size wa (wb.alloc o):=fun o=>hb3.alloc hb3.size o
      generalize hw5:wb.alloc _=w5
      have hb5:Below wa.heap.size wa w5:=by rw [← hw5];exact HB5 _
      replace d0:=zat hb5 d0
      replace d1:=zat hb5 d1
      replace d2:=zat hb5 d2
      replace e0:=zat hb5 e0
      replace k1:=blk hb5 k1
      have hs5:=Nat.le_trans hsa hb5.size
      have HB6:=Lib.hid (HBA.out.trans (hb5.mono hsa))
      have hown5:=zaf HOA.out hb5
      clear HB5 hb5 hw5 hb3 HBA HOA HEF hsa
      by_cases h0:er=0
      · have h0':(er != 0)=false:=by simp [h0]
        have HN:=Lib.hid (zc1 HSV.out HGO.out (HER.out.trans h0))
        have HTK:=Lib.hid (zl6 HSV.out (fun x:StV=>x.1))
        clear h0
        go_upto_region 12 with (fail)
        go_wp2_with (at_builtin;refine stp ?_)
        unfold Stp
        refine wpList_append_lies _ rfl _ _ 22 rfl w2.heap.size 9 i1 _ 1 16 Tryz.underlying22 hi1 hy0 hy1 hy2 rfl (by omega) (.slice An k cn) k _ rfl (hown5.alloc _) ⟨w5.heap.size,0,none⟩ 1 1 [.string s] rfl rfl (zez (by simp)) (by simp [Value.oneCell']) (by omega) (by simp only [maxLen];omega) (by omega) (by simp;omega) _ rfl ?_
        intro gg cap w6 hown6 hgrow6 hat6 hlt6
        have HB7:=Lib.hid ((HB6.out.alloc hs5 _).grown hgrow6 (by simp;omega) (fun j hj=>(zbi hown5 hj).1))
        have HO6:Hid (w6.ownsRow w2.heap.size 9 1 (.slice (some ⟨gg,0,none⟩) (k+1) cap) (k+1) (strCells ((sts.take (k+1)).map (·.1)))):=by
         rw [Hid,HTK.out]
         exact hown6
        clear hown6 hgrow6 hat6 hlt6 hown5
        go_wp2
        go_roundw
        case rel=>exact ⟨k+1,by omega,by go_num,HN.out,HO6.out,HB7.out⟩
        case measure=>simp [intOf];omega
      · have h0':(er != 0)=true:=by simp [h0]
        have HN:Hid (V1=er):=by rw [Hid,← HER.out];exact (zb3 HSV.out HGO.out (by rw [HER.out];exact h0)).symm
        have HV9:Hid (V=er):=by rw [Hid,HVV.out,HN.out,firstE_no h0]
        obtain ⟨r2,r3,q2,q3⟩:=zbu k1
        clear h0 hown5
        go_wp2
        refine bodyPost_ret (v:=.tuple #[.agg #[.int .i64 1,.int .i64 k],.int .i64 er]) (by simp [results,Tryz.results77,go_sem,r2,r3]) rfl ⟨1,k,?_,?_⟩
        · rw [HV9.out]
        · rw [HBW.out]
          exact (HB.out.trans (HB6.out.mono (by omega))).trans (zal _ _ (Nat.le_succ _))
    · have HN1:Hid (V1=0):=zb9 (by rw [HL1.out];omega) HGO.out
      have HVW:Hid (V=zam [V2,V3]):=by rw [Hid,HVV.out,HN1.out,firstE_ok]
      have HB2:=Lib.hid (HB.out.trans (HBK.out.mono (by omega)))
      have hs2:=Nat.le_trans hs hsk
      have HF1:=Lib.hid HF
      clear HN1 HVV HGO HBK HOWN HB hs HF HH
      go_wp2
      go_loopw [83] (fun u wx=>zkd wr (fun _ s=>fsE n1 s) fss n2 V2 u wx) (fun u _=>n2 - (intOf u).toNat)
      case atStart=>exact ⟨0,Nat.zero_le _,rfl,HV2.out,Below.refl _ _⟩
      case round =>
       clear HV2
       obtain ⟨j,hj,rfl,hgo,hb⟩:=hrel
       rename_i wo
       have HGO:=Lib.hid hgo
       have HBK:=Lib.hid hb
       have HF:=HF1.out.keep hb
       have hsj:=hb.size
       replace d0:=zat hb d0
       replace d1:=zat hb d1
       replace d2:=zat hb d2
       replace k1:=blk hb k1
       clear hgo hb
       by_cases hlt2:j<n2
       · have hkl:j<fss.length:=by rw [HL2.out];exact hlt2
         obtain ⟨ev,hev⟩:∃ ev,fss[j]?=some ev:=⟨_,List.getElem?_eq_getElem hkl⟩
         obtain ⟨bb,off,hA,hbB,z0,z1,z2,z3⟩:=Rd.fs HF.fss.2 hev
         simp only at hA
         subst hA
         have HSV:=Lib.hid hev
         obtain ⟨p,q,sh,lo⟩:=ev
         simp only at z0 z1 z2 z3
         obtain ⟨e0,e1,e2,e3⟩:_∧_∧_∧_:=zbo (W:=wr.alloc (.cells #[.int .i64 p,.int .i64 q,.int .i64 sh,.int .i64 lo] 116)) (by rw [zae,if_pos rfl])
         have hba:=hB1 wr (.cells #[.int .i64 p,.int .i64 q,.int .i64 sh,.int .i64 lo] 116)
         have HBA:=Lib.hid (HBK.out.trans (hba.mono hsj))
         have hsa:=Nat.le_trans hsj hba.size
         replace d0:=zat hba d0
         replace d1:=zat hba d1
         replace d2:=zat hba d2
         replace k1:=blk hba k1
         obtain ⟨er,her⟩:∃ er,fsE n1 ⟨p,q,sh,lo⟩=er:=⟨_,rfl⟩
         have HER:Hid ((fun _ s=>fsE n1 s:List FsV→FsV→Int) (fss.take j) ⟨p,q,sh,lo⟩=er):=her
         have SC:=fun W=>zl2 W n1 ⟨p,q,sh,lo⟩ (by omega)
         rw [her] at SC
         simp only at SC
         clear hba hkl HBK her hev HF
         go_upto_region 17 with (fail)
         clear z0 z1 z2 z3
         generalize wr.alloc (.cells #[.int .i64 p,.int .i64 q,.int .i64 sh,.int .i64 lo] 116)=wa at *
         generalize wr.heap.size=xb at *
         go_upto_region 18 with (go_at_call 134;refine (SC _).mono ?_;rintro e w' ⟨rfl,hb3⟩)
         rename_i wb
         replace d0:=zat hb3 d0
         replace d1:=zat hb3 d1
         replace d2:=zat hb3 d2
         replace k1:=blk hb3 k1
         have HB6:=Lib.hid (HBA.out.trans (hb3.mono hsa))
         clear hb3 HBA hsa SC e0 e1 e2 e3
         by_cases h0:er=0
         · have h0':(er != 0)=false:=by simp [h0]
           have HN:=Lib.hid (zc1 HSV.out HGO.out (HER.out.trans h0))
           clear h0
           go_wp2
           go_roundw
           case rel=>exact ⟨j+1,by omega,by go_num,HN.out,HB6.out⟩
           case measure=>simp [intOf];omega
         · have h0':(er != 0)=true:=by simp [h0]
           have HN:Hid (V2=er):=by rw [Hid,← HER.out];exact (zb3 HSV.out HGO.out (by rw [HER.out];exact h0)).symm
           have HV9:Hid (V=er):=by rw [Hid,HVW.out,HN.out,firstE_no h0]
           obtain ⟨r2,r3,q2,q3⟩:=zbu k1
           clear h0
           go_wp2
           refine bodyPost_ret (v:=.tuple #[.agg #[.int .i64 2,.int .i64 j],.int .i64 er]) (by simp [results,Tryz.results77,go_sem,r2,r3]) rfl ⟨2,j,?_,?_⟩
           · rw [HV9.out]
           · rw [HBW.out]
             exact (HB2.out.trans (HB6.out.mono (by omega))).trans (zal _ _ (Nat.le_succ _))
       · have HN1:Hid (V2=0):=zb9 (by rw [HL2.out];omega) HGO.out
         have HVX:Hid (V=V3):=by
          rw [Hid,HVW.out,HN1.out,firstE_ok]
          by_cases h:V3=0 <;> simp [zam,h]
         have HB3:=Lib.hid (HB2.out.trans (HBK.out.mono (by omega)))
         have hs3:=Nat.le_trans hs2 hsj
         have HF2:=Lib.hid HF
         clear HN1 HVW HGO HBK HB2 hs2 HF HF1
         obtain ⟨wq,rfl⟩:∃ wq,wq=wr:=⟨wr,rfl⟩
         go_wp2
         go_loopw [6,102] (fun un u wx=>NmRel wq (tnE n2) tns (·.nm) n3 V3 u un wx) (fun _ u _=>n3 - (intOf u).toNat)
         case atStart=>exact ⟨0,Nat.zero_le _,rfl,HV3.out,⟨rfl,.inl ⟨rfl,rfl⟩⟩,Below.refl _ _⟩
         case round =>
          clear HV3
          obtain ⟨i,hi,rfl,hgo,hown,hb⟩:=hrel
          obtain ⟨An,cn,rfl⟩:=zcn hown
          have HGO:=Lib.hid hgo
          have HBK:=Lib.hid hb
          have HOWN:=Lib.hid hown
          have HF:=HF2.out.keep hb
          have hsi:=hb.size
          replace d0:=zat hb d0
          replace d1:=zat hb d1
          replace d2:=zat hb d2
          replace k1:=blk hb k1
          clear hgo hb hown
          by_cases hlt3:i<n3
          · have hkl:i<tns.length:=by rw [HL3.out];exact hlt3
            obtain ⟨ev,hev⟩:∃ ev,tns[i]?=some ev:=⟨_,List.getElem?_eq_getElem hkl⟩
            obtain ⟨bb,off,hA,hbB,z0,z1,z2,z3⟩:=Rd.tn HF.tns.2 hev
            simp only at hA
            subst hA
            have HSV:=Lib.hid hev
            obtain ⟨hz9,hz8,_⟩:_∧_∧True:=⟨(HS.out.tns.2 ev (List.mem_of_getElem? hev)).1,(HS.out.tns.2 ev (List.mem_of_getElem? hev)).2,trivial⟩
            have hst:=HF.tn ev (List.mem_of_getElem? hev)
            obtain ⟨s,t1,t2,⟨As,ns,cs⟩,ls⟩:=ev
            simp only at z0 z1 z2 z3 hz9 hz8 hst
            obtain ⟨e0,e1,e2,e3⟩:_∧_∧_∧_:=zbo (W:=wr.alloc (.cells #[.string s,.int .i64 t1,.int .i64 t2,.slice As ns cs] 83)) (by rw [zae,if_pos rfl])
            have hba:=hB1 wr (.cells #[.string s,.int .i64 t1,.int .i64 t2,.slice As ns cs] 83)
            have HBA:=Lib.hid (HBK.out.trans (hba.mono hsi))
            have hsa:=Nat.le_trans hsi hba.size
            have HOA:=Lib.hid (zaf HOWN.out hba)
            have hra:=za7 (zaf HOWN.out hba)
            have hsta:=(hst.keep hba).mono (show bw≤(wr.alloc (.cells #[.string s,.int .i64 t1,.int .i64 t2,.slice As ns cs] 83)).heap.size by omega)
            replace d0:=zat hba d0
            replace d1:=zat hba d1
            replace d2:=zat hba d2
            replace k1:=blk hba k1
            obtain ⟨E9,hE9⟩:∃ E,nmE ((tns.take i).map (·.nm)) s=E:=⟨_,rfl⟩
            obtain ⟨E10,hE10⟩:∃ E,trE n2 ⟨s,t1,t2,⟨As,ns,cs⟩,ls⟩=E:=⟨_,rfl⟩
            have EN:=fun y:Xt (wr.alloc (.cells #[.string s,.int .i64 t1,.int .i64 t2,.slice As ns cs] 83))=>zjm y.1 _ An i cn _ s E9 hE9 (len_take (by omega) _) (by omega) (hra.keep y.2) (by omega)
            have ET:=fun y:Xt (wr.alloc (.cells #[.string s,.int .i64 t1,.int .i64 t2,.slice As ns cs] 83))=>fdTrain_any y.1 _ ⟨s,t1,t2,⟨As,ns,cs⟩,ls⟩ n2 (by omega) (hsta.keep y.2) y.2.size (by show ls.length≤_;omega)
            rw [hE10] at ET
            simp only at ET
            obtain ⟨er,her⟩:∃ er,zam [E9,E10]=er:=⟨_,rfl⟩
            have HER:Hid (tnE n2 (tns.take i) ⟨s,t1,t2,⟨As,ns,cs⟩,ls⟩=er):=by
             rw [Hid,← her,← hE9,← hE10]
             exact (zia _ _ _).symm
            have HEF:=Lib.hid her
            clear hba hkl HBK her hE10 hE9 hev HOWN hra HF hst hsta
            go_upto_region 25 with (fail)
            clear z0 z1 z2 z3
            generalize wr.alloc (.cells #[.string s,.int .i64 t1,.int .i64 t2,.slice As ns cs] 83)=wa at *
            generalize wr.heap.size=xb at *
            have x0:=fun y:Xt wa=>y.cell e0
            have x1:=fun y:Xt wa=>y.cell e1
            have x2:=fun y:Xt wa=>y.cell e2
            have x3:=fun y:Xt wa=>y.cell e3
            have x4:=fun y:Xt wa=>y.cell d1
            refine zax [] [0,1,2,3,4,5,6,7,8] 9 [10,11] (fun w'=>∃ y:Xt wa,w'=y.1) (by as_aux_lemma=>kernel_rfl) (by as_aux_lemma=>kernel_rfl) ⟨⟨wa.drew,(Below.refl _ _).drew⟩,rfl⟩ ?_
            simp only [zad,zac,zaa,zX1,zX2,zX3]
            refine wpQuiet_nil ?_
            show wpQuiet _ _ _ _ _ _
            repeat (go_big_quiet_step (first | (go_at_call 132;exact Xt.calls (EN _)) | (go_at_call 135;exact Xt.calls (ET _)) | (go_at_call 131;exact Xt.calls_same (zcd _ _ _))))
            refine wpQuiet_nil ?_
            intro wb hx
            have hb3:=Xt.below hx
            clear x0 x1 x2 x3 x4 hx ET EN e1 e2 e3
            go_upto_region 26 with (go_at_call 130;refine (zf1 _ _ _).mono ?_;rintro e w' ⟨he,rfl⟩;rw [HEF.out] at he;subst he)
            refine zab ?_
            have HB5:∀ o,Below wa.heap.size wa (wb.alloc o):=fun o=>hb3.alloc hb3.size o
            generalize hw5:wb.alloc _=w5
            have hb5:Below wa.heap.size wa w5:=by rw [← hw5];exact HB5 _
            replace d0:=zat hb5 d0
            replace d1:=zat hb5 d1
            replace d2:=zat hb5 d2
            replace e0:=zat hb5 e0
            replace k1:=blk hb5 k1
            have hs5:=Nat.le_trans hsa hb5.size
            have HB6:=Lib.hid (HBA.out.trans (hb5.mono hsa))
            have hown5:=zaf HOA.out hb5
            clear HB5 hb5 hw5 hb3 HBA HOA HEF hsa
            by_cases h0:er=0
            · have h0':(er != 0)=false:=by simp [h0]
              have HN:=Lib.hid (zc1 HSV.out HGO.out (HER.out.trans h0))
              have HTK:=Lib.hid (zl6 HSV.out (fun x:TnV=>x.nm))
              clear h0
              go_upto_region 28 with (fail)
              go_wp2_with (at_builtin;refine stp ?_)
              unfold Stp
              refine wpList_append_lies _ rfl _ _ 22 rfl wq.heap.size 9 i1 _ 1 16 Tryz.underlying22 hi1 hy0 hy1 hy2 rfl (by omega) (.slice An i cn) i _ rfl (hown5.alloc _) ⟨w5.heap.size,0,none⟩ 1 1 [.string s] rfl rfl (zez (by simp)) (by simp [Value.oneCell']) (by omega) (by simp only [maxLen];omega) (by omega) (by simp;omega) _ rfl ?_
              intro gg cap w6 hown6 hgrow6 hat6 hlt6
              have HB7:=Lib.hid ((HB6.out.alloc hs5 _).grown hgrow6 (by simp;omega) (fun j hj=>(zbi hown5 hj).1))
              have HO6:Hid (w6.ownsRow wq.heap.size 9 1 (.slice (some ⟨gg,0,none⟩) (i+1) cap) (i+1) (strCells ((tns.take (i+1)).map (·.nm)))):=by
               rw [Hid,HTK.out]
               exact hown6
              clear hown6 hgrow6 hat6 hlt6 hown5
              go_wp2
              go_roundw
              case rel=>exact ⟨i+1,by omega,by go_num,HN.out,HO6.out,HB7.out⟩
              case measure=>simp [intOf];omega
            · have h0':(er != 0)=true:=by simp [h0]
              have HN:Hid (V3=er):=by rw [Hid,← HER.out];exact (zb3 HSV.out HGO.out (by rw [HER.out];exact h0)).symm
              obtain ⟨r2,r3,q2,q3⟩:=zbu k1
              clear h0 hown5
              go_wp2
              refine bodyPost_ret (v:=.tuple #[.agg #[.int .i64 3,.int .i64 i],.int .i64 er]) (by simp [results,Tryz.results77,go_sem,r2,r3]) rfl ⟨3,i,?_,?_⟩
              · rw [HVX.out,HN.out]
              · rw [HBW.out]
                exact (HB3.out.trans (HB6.out.mono (by omega))).trans (zal _ _ (Nat.le_succ _))
          · have HN1:Hid (V3=0):=zb9 (by rw [HL3.out];omega) HGO.out
            obtain ⟨r2,r3,q2,q3⟩:=zbu k1
            go_wp2
            refine bodyPost_ret (v:=.tuple #[.agg #[.int .i64 0,.int .i64 0],.int .i64 0]) (by simp [results,Tryz.results77,go_sem,r2,r3]) rfl ⟨0,0,?_,?_⟩
            · rw [HVX.out,HN1.out]
            · rw [HBW.out]
              exact (HB3.out.trans (HBK.out.mono (by omega))).trans (zal _ _ (Nat.le_succ _))
 · have HVV:Hid (V=E1):=by rw [Hid,HV.out,if_neg hE]
   have hE':(E1 != 0)=true:=by simp [hE]
   clear hE HV
   by_cases a1:0<n1 <;> by_cases f1:(n1:Int)≤6 <;> by_cases f2:(n2:Int)≤10
   all_goals try (exfalso;omega)
   all_goals
    have HE2:zb2 n1 n2 n3=E1:=HE1.out
    simp only [zb2,a1,f1,f2,decide_true,decide_false,Bool.true_and,Bool.false_and] at HE2
    have HE3:=Lib.hid HE2
    clear HE1 HE2
    go_upto_region 3 with (first | (go_at_call 131;refine (zcd _ _ _).mono ?_;rintro e w' ⟨rfl,rfl⟩) | (go_at_call 130;refine (zf1 _ _ _).mono ?_;rintro e w' ⟨he,rfl⟩;rw [HE3.out] at he;subst he))
    have HB2:∀ o,Below bw w (w0.alloc o):=fun o=>HB.out.alloc (by omega) o
    have K2:∀ o,(w0.alloc o).heap[bw+1]?=some (.cells #[.int .i64 0,.int .i64 0] 183 (0,0)):=fun o=>blk ((Below.refl _ _).alloc (Nat.le_refl _) o) k1
    generalize hw2:w0.alloc _=w2
    have hb2:Below bw w w2:=by rw [← hw2];exact HB2 _
    have k2:w2.heap[bw+1]?=some (.cells #[.int .i64 0,.int .i64 0] 183 (0,0)):=by rw [← hw2];exact K2 _
    obtain ⟨r2,r3,q2,q3⟩:=zbu k2
    have HB3:=Lib.hid hb2
    clear HB2 K2 hb2 hw2 r0 r1 q0 q1
    go_wp2
    refine bodyPost_ret (v:=.tuple #[.agg #[.int .i64 0,.int .i64 0],.int .i64 E1]) (by simp [results,Tryz.results77,go_sem,r2,r3]) rfl ⟨0,0,?_,?_⟩
    · rw [HVV.out]
    · rw [HBW.out]
      exact HB3.out.trans (zal _ _ (Nat.le_succ _))
end Go.Proofs.YtoodbfkbbchjiaaGreatDoor
