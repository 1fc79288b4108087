import Derived.Test.YtoodbfkbbchjiaaGreatDoorf3M4
import Derived.Test.YtoodbfkbbchjiaaGreatDoorf3K4
import Derived.Test.YtoodbfkbbchjiaaGreatDoorf3M3
set_option maxRecDepth 100000
set_option maxHeartbeats 16000000
namespace Go.Proofs.YtoodbfkbbchjiaaGreatDoor
open Go.RowKit
def zgr (q m:Nat):Int:=zam [zag (decide (2≤(q:Int))) 10,zag (decide (q≤m)) 8]
theorem rtE1_head (m:Nat) (sws:List Sw) (r:RtV):rtE1 m sws r=if zgr r.secs.length m=0 then (if za2 (scE m) [] r.secs=0 then (if r.needs.length=sws.length then zag (ndB r.secs sws r.needs) 2 else 10) else za2 (scE m) [] r.secs) else zgr r.secs.length m:=by
 unfold rtE1
 by_cases h1:r.secs.length<2
 · have e1:¬ (2:Int)≤(r.secs.length:Int):=by omega
   have e3:zgr r.secs.length m=10:=by simp only [zgr,e1,decide_false];rfl
   rw [if_pos h1,e3]
   rfl
 · have e1:(2:Int)≤(r.secs.length:Int):=by omega
   by_cases h2:m<r.secs.length
   · have e2:¬ r.secs.length≤m:=by omega
     have e3:zgr r.secs.length m=8:=by simp only [zgr,e1,e2,decide_true,decide_false];rfl
     rw [if_neg h1,if_pos h2,e3]
     rfl
   · have e2:r.secs.length≤m:=by omega
     have e3:zgr r.secs.length m=0:=by simp only [zgr,e1,e2,decide_true];rfl
     rw [if_neg h1,if_neg h2,e3,if_pos rfl]
     by_cases h3:za2 (scE m) [] r.secs=0
     · rw [if_neg (fun h=>h h3),if_pos h3]
       by_cases h4:r.needs.length=sws.length
       · rw [if_neg (fun h=>h h4),if_pos h4]
         cases ndB r.secs sws r.needs <;> rfl
       · rw [if_pos h4,if_neg h4]
     · rw [if_pos h3,if_neg h3]
def NdR (w0:World) (secs:List Int) (sws:List Sw) (needs:List Int) (n:Nat) (V:Bool) (u:Value) (wr:World):Prop:=∃ k:Nat,k≤n∧u=.int .i64 k∧ndB secs (sws.drop k) (needs.drop k)=V∧Below w0.heap.size w0 wr
theorem rd_takeI {w:World} {B:Nat} {A:Option Addr} {l:List Int} (h:Rd w B A (zai l)) (k:Nat):Rd w B A (zai (l.take k)):=fun j u hu=>h j u (by
 unfold zai at hu ⊢
 rw [List.getElem?_map] at hu ⊢
 rw [List.getElem?_take] at hu
 split at hu
 · exact hu
 · simp at hu)
theorem routeErr_any (w:World) (B:Nat) (As At Aw Ar:Option Addr) (ns nt nw nr cs ct cw cr:Nat) (l:List RtV) (sws:List Sw) (hl:l.length=nr) (hr:Rd w B Ar (zd1 l)) (hlw:sws.length=nw) (hrw:Rd w B Aw (zbl sws)) (hB:B≤w.heap.size) (hs:ns≤1000) (hnw:nw≤1000) (k:Nat) (x:RtV) (hk:l[k]?=some x)
 (hs1:zcs w B x.s x.secs.length (zai x.secs)) (hs2:zcs w B x.d x.needs.length (zai x.needs)) (hcap:x.s.n≤x.s.c) (hz1:x.secs.length≤1000) (hz2:x.needs.length≤1000) :
 Calls Tryz.prog 129 #[.agg #[.slice As ns cs,.slice At nt ct,.slice Aw nw cw,.slice Ar nr cr],.int .i64 k] w (zay w (rtE1 ns sws x)):=by
 have hkl:k<l.length:=(List.getElem?_eq_some_iff.1 hk).1
 have hkn:k<nr:=by rw [← hl];exact hkl
 have k0:=hA1 w (.cells #[.slice As ns cs,.slice At nt ct,.slice Aw nw cw,.slice Ar nr cr] 26)
 have hb0:=hB1 w (.cells #[.slice As ns cs,.slice At nt ct,.slice Aw nw cw,.slice Ar nr cr] 26)
 have hr0:=hr.below (hb0.mono hB)
 have HRW:=Lib.hid (hrw.below (hb0.mono hB))
 have HR1:=Lib.hid (hs1.2.below (hb0.mono hB))
 have HR2:=Lib.hid (hs2.2.below (hb0.mono hB))
 have HB:=Lib.hid hb0
 have hs0:=hb0.size
 obtain ⟨bb,off,hA,hbB,z0,z1,z2⟩:=Rd.rt hr0 hk
 obtain ⟨hl1,_⟩:=hs1
 obtain ⟨hl2,_⟩:=hs2
 obtain ⟨s,⟨Aq,nq,cq⟩,secs,⟨Ad,nd,cd⟩,needs⟩:=x
 simp only at z0 z1 z2 hl1 hl2 hcap hz1 hz2 HR1 HR2
 rw [hl1] at hz1
 rw [hl2] at hz2
 obtain ⟨E1,hE1⟩:∃ E,zgr nq ns=E:=⟨_,rfl⟩
 obtain ⟨V1,hV1⟩:∃ V,za2 (scE ns) [] secs=V:=⟨_,rfl⟩
 obtain ⟨VB,hVB⟩:∃ V,ndB secs sws needs=V:=⟨_,rfl⟩
 obtain ⟨V,hV⟩:∃ V,rtE1 ns sws ⟨s,⟨Aq,nq,cq⟩,secs,⟨Ad,nd,cd⟩,needs⟩=V:=⟨_,rfl⟩
 rw [hV]
 have HV:Hid (V=if E1=0 then (if V1=0 then (if nd=nw then zag VB 2 else 10) else V1) else E1):=by
  rw [Hid,← hV,rtE1_head]
  simp only [hl1,hl2,hlw,hE1,hV1,hVB]
 have HE3:Hid (zam [zag (decide (2≤(nq:Int))) 10,zag (decide (nq≤ns)) 8]=E1):=hE1
 have HV1:=Lib.hid hV1
 have HVB:=Lib.hid hVB
 have HL1:=Lib.hid hl1
 have HL2:=Lib.hid hl2
 have HLW:=Lib.hid hlw
 subst hA
 clear hb0 hr hV hE1 hV1 hVB hrw hl1 hl2 hlw
 go_enter Tryz.func129,Tryz.ntmps129
 go_upto_region 1 with (fail)
 generalize (w.alloc (.cells #[.slice As ns cs,.slice At nt ct,.slice Aw nw cw,.slice (some ⟨bb,off,none⟩) nr cr] 26))=w0 at *
 have c0:=(cell_of_row w0 _ 0 _ _ _ k0).trans (by rfl:_=some (.slice As ns cs))
 have c2:=(cell_of_row w0 _ 2 _ _ _ k0).trans (by rfl:_=some (.slice Aw nw cw))
 have c3:=(cell_of_row w0 _ 3 _ _ _ k0).trans (by rfl:_=some (.slice (some ⟨bb,off,none⟩) nr cr))
 obtain ⟨d0,d1,d2⟩:_∧_∧_:=zba (W:=w0.alloc (.cells #[.string s,.slice Aq nq cq,.slice Ad nd cd] 78)) (by rw [zae,if_pos rfl])
 have hba:=hB1 w0 (.cells #[.string s,.slice Aq nq cq,.slice Ad nd cd] 78)
 have HBA:=Lib.hid (HB.out.trans (hba.mono hs0))
 have hsa:=Nat.le_trans hs0 hba.size
 replace HR1:=Lib.hid (HR1.out.below (hba.mono (by omega)))
 replace HR2:=Lib.hid (HR2.out.below (hba.mono (by omega)))
 replace HRW:=Lib.hid (HRW.out.below (hba.mono (by omega)))
 have e0:=zat hba c0
 have e2:=zat hba c2
 clear hba k0 hr0 HB
 go_upto_region 2 with (fail)
 clear z0 z1 z2 c0 c2 c3 d0
 generalize w0.alloc (.cells #[.string s,.slice Aq nq cq,.slice Ad nd cd] 78)=wa at *
 generalize w0.heap.size=xb at *
 generalize hbw:w.heap.size=bw at *
 have HBW:=Lib.hid hbw
 clear hbw
 have x0:=fun y:Xt wa=>y.cell e0
 have x1:=fun y:Xt wa=>y.cell d1
 refine zax [] [0,1,2,3,4,5,6,7,8,9,10,11,12] 13 [14,15] (fun w'=>∃ y:Xt wa,w'=y.1) (by as_aux_lemma=>kernel_rfl) (by as_aux_lemma=>kernel_rfl) ⟨⟨wa.drew,(Below.refl _ _).drew⟩,rfl⟩ ?_
 simp only [zad,zac,zaa,zX1,zX2,zX3]
 refine wpQuiet_nil ?_
 show wpQuiet _ _ _ _ _ _
 repeat (go_big_quiet_step (first | (go_at_call 115;exact Xt.calls_same (zb1 _ _ _))))
 refine wpQuiet_nil ?_
 intro w1 hx
 have hb1:=Xt.below hx
 clear x0 x1 hx
 go_upto_region 3 with (go_at_call 114;refine (zdo _ _ _).mono ?_;rintro e w' ⟨he,rfl⟩;rw [HE3.out] at he;subst he)
 refine zab ?_
 have HB5:∀ o,Below wa.heap.size wa (w1.alloc o):=fun o=>hb1.alloc hb1.size o
 generalize hw2:w1.alloc _=w2
 have hb2:Below wa.heap.size wa w2:=by rw [← hw2];exact HB5 _
 replace e0:=zat hb2 e0
 replace e2:=zat hb2 e2
 replace d1:=zat hb2 d1
 replace d2:=zat hb2 d2
 replace HR1:=Lib.hid (HR1.out.below (hb2.mono (by omega)))
 replace HR2:=Lib.hid (HR2.out.below (hb2.mono (by omega)))
 replace HRW:=Lib.hid (HRW.out.below (hb2.mono (by omega)))
 have HB2:=Lib.hid (HBA.out.trans (hb2.mono hsa))
 have hs2:=Nat.le_trans hsa hb2.size
 clear HB5 hb2 hw2 hb1 HE3 HBA hsa
 by_cases hE:E1=0
 · have hE':(E1 != 0)=false:=by simp [hE]
   have HVV:Hid (V=if V1=0 then (if nd=nw then zag VB 2 else 10) else V1):=by rw [Hid,HV.out,if_pos hE]
   clear hE HV
   go_wp2
   go_loopw [39] (fun u wr=>zkd w2 (scE ns) secs nq V1 u wr) (fun u _=>nq - (intOf u).toNat)
   case atStart=>exact ⟨0,Nat.zero_le _,rfl,HV1.out,Below.refl _ _⟩
   case round =>
    clear HV1
    obtain ⟨j,hj,rfl,hgo,hb⟩:=hrel
    have HGO:=Lib.hid hgo
    have HBK:=Lib.hid hb
    have hr1:=HR1.out.below (hb.mono (by omega))
    have hsk:=hb.size
    replace e0:=zat hb e0
    replace e2:=zat hb e2
    replace d1:=zat hb d1
    replace d2:=zat hb d2
    clear hgo hb
    by_cases hlt:j<nq
    · have hjl:j<secs.length:=by rw [HL1.out];exact hlt
      obtain ⟨q,hev⟩:∃ ev,secs[j]?=some ev:=⟨_,List.getElem?_eq_getElem hjl⟩
      obtain ⟨b9,off9,rfl,hb9B,z0⟩:=hr1.at_ (k:=j) (u:=.int .i64 q) (by simp [zai,hev])
      have HSV:=Lib.hid hev
      have hrt:=rd_takeI hr1 j
      have HTL:Hid ((secs.take j).length=j):=by rw [Hid,List.length_take];omega
      have hjc:j≤cq:=by omega
      obtain ⟨b1,hb1⟩:∃ b,zaj q 0 ((ns:Int) - 1)=b:=⟨_,rfl⟩
      obtain ⟨b2,hb2⟩:∃ b,ze1 (secs.take j) q=b:=⟨_,rfl⟩
      have WI:=fun W=>zb0 q 0 ((ns:Int) - 1) b1 hb1 W
      have TX:=fun (y:Xt wr) (c:Nat)=>zcv (some ⟨b9,off9,none⟩) j c _ (secs.take j) q b2 hb2 y.1 (by omega) HTL.out (hrt.below (y.2.mono (by omega)))
      obtain ⟨er,her⟩:∃ er,zam [zag b1 6,zag (!b2) 26]=er:=⟨_,rfl⟩
      have HER:Hid (scE ns (secs.take j) q=er):=by rw [Hid,scE,hb1,hb2,her]
      have HEF:=Lib.hid her
      clear hjl hb1 hb2 her hev hrt
      go_upto_region 8 with (fail)
      have x0:=fun y:Xt wr=>y.cell e0
      have x1:=fun y:Xt wr=>y.cell d1
      refine zax [] [0,1,2,3,4,5,6,7,8,9,10,11,12,13,14] 15 [16,17] (fun w'=>∃ y:Xt wr,w'=y.1) (by as_aux_lemma=>kernel_rfl) (by as_aux_lemma=>kernel_rfl) ⟨⟨wr.drew,(Below.refl _ _).drew⟩,rfl⟩ ?_
      simp only [zad,zac,zaa,zX1,zX2,zX3]
      refine wpQuiet_nil ?_
      show wpQuiet _ _ _ _ _ _
      repeat (go_big_quiet_step (first | (go_at_call 193;exact Xt.calls_same (WI _)) | (go_at_call 115;exact Xt.calls_same (zb1 _ _ _)) | (go_at_call 194;exact Xt.calls_same (TX _ _))))
      refine wpQuiet_nil ?_
      intro wb hx
      have hb3:=Xt.below hx
      clear x0 x1 hx WI TX z0
      go_upto_region 9 with (go_at_call 114;refine (zdo _ _ _).mono ?_;rintro e w' ⟨he,rfl⟩;rw [HEF.out] at he;subst he)
      refine zab ?_
      have HB5:∀ o,Below wr.heap.size wr (wb.alloc o):=fun o=>hb3.alloc hb3.size o
      generalize hw5:wb.alloc _=w5
      have hb5:Below wr.heap.size wr w5:=by rw [← hw5];exact HB5 _
      have HB6:=Lib.hid (HBK.out.trans (hb5.mono hsk))
      clear HB5 hb5 hw5 hb3 HBK HEF hr1 e0 e2 d1 d2
      by_cases h0:er=0
      · have h0':(er != 0)=false:=by simp [h0]
        have HN:=Lib.hid (zc1 HSV.out HGO.out (HER.out.trans h0))
        clear h0
        go_wp2
        go_roundw
        case rel=>exact ⟨j+1,by omega,by go_num,HN.out,HB6.out⟩
        case measure=>simp [intOf];omega
      · have h0':(er != 0)=true:=by simp [h0]
        have HN:Hid (V1=er):=by rw [Hid,← HER.out];exact (zb3 HSV.out HGO.out (by rw [HER.out];exact h0)).symm
        have HV9:Hid (V=er):=by rw [Hid,HVV.out,HN.out,if_neg h0]
        clear h0
        go_wp2
        go_ret
        exact ⟨by rw [HV9.out];rfl,by rw [HBW.out];exact HB2.out.trans (HB6.out.mono (by omega))⟩
    · have HN1:Hid (V1=0):=zb9 (by rw [HL1.out];omega) HGO.out
      have HVW:Hid (V=if nd=nw then zag VB 2 else 10):=by rw [Hid,HVV.out,HN1.out,if_pos rfl]
      have HB3:=Lib.hid (HB2.out.trans (HBK.out.mono (by omega)))
      have hs3:=Nat.le_trans hs2 hsk
      replace HR1:=Lib.hid hr1
      replace HR2:=Lib.hid (HR2.out.below (HBK.out.mono (by omega)))
      replace HRW:=Lib.hid (HRW.out.below (HBK.out.mono (by omega)))
      clear HN1 HVV HGO HBK HB2 hr1
      by_cases hnd:nd=nw
      · subst hnd
        have HVX:Hid (V=zag VB 2):=by rw [Hid,HVW.out,if_pos rfl]
        clear HVW
        obtain ⟨wq,rfl⟩:∃ wq,wq=wr:=⟨wr,rfl⟩
        go_wp2
        go_loopw [75] (fun u wx=>NdR wq secs sws needs nd VB u wx) (fun u _=>nd - (intOf u).toNat)
        case atStart=>exact ⟨0,Nat.zero_le _,rfl,HVB.out,Below.refl _ _⟩
        case round =>
         clear HVB
         obtain ⟨i,hi,rfl,hgo,hb⟩:=hrel
         have HGO:=Lib.hid hgo
         have HBK:=Lib.hid hb
         have hr1:=HR1.out.below (hb.mono (by omega))
         have hr2:=HR2.out.below (hb.mono (by omega))
         have hrw:=HRW.out.below (hb.mono (by omega))
         have hsi:=hb.size
         replace e0:=zat hb e0
         replace e2:=zat hb e2
         replace d1:=zat hb d1
         replace d2:=zat hb d2
         clear hgo hb
         by_cases hlt2:i<nd
         · have hil:i<needs.length:=by rw [HL2.out];exact hlt2
           have hiw:i<sws.length:=by rw [HLW.out];exact hlt2
           obtain ⟨q,hev⟩:∃ ev,needs[i]?=some ev:=⟨_,List.getElem?_eq_getElem hil⟩
           obtain ⟨⟨snm,sq⟩,hew⟩:∃ ev,sws[i]?=some ev:=⟨_,List.getElem?_eq_getElem hiw⟩
           obtain ⟨b9,off9,hA9,hb9B,z0⟩:=hr2.at_ (k:=i) (u:=.int .i64 q) (by simp [zai,hev])
           obtain ⟨b8,off8,hA8,hb8B,y0,y1⟩:=Rd.sw hrw hew
           simp only at y0 y1
           subst hA9 hA8
           obtain ⟨bh,hbh⟩:∃ b,ze1 secs sq=b:=⟨_,rfl⟩
           have TX:=fun (y:Xt wr)=>zcv Aq nq cq _ secs sq bh hbh y.1 (by omega) HL1.out (hr1.below (y.2.mono (by omega)))
           have HST:Hid (((if bh=true then zf4 q else decide (q=-1)) && ndB secs (sws.drop (i+1)) (needs.drop (i+1)))=VB):=by
            have h9:=HGO.out
            rw [za9 hev,za9 hew,ndB] at h9
            rw [Hid,← h9,hbh]
            cases bh <;> rfl
           clear hil hiw hev hew hbh HGO
           go_upto_region 18 with (fail)
           have x1:=fun y:Xt wr=>y.cell d1
           have x2:=fun y:Xt wr=>y.cell e2
           have x3:=fun y:Xt wr=>y.cell y1
           refine za5 (by kernel_rfl) (by kernel_rfl) ?_
           repeat (go_big_quiet_step (first | (go_at_call 194;exact Xt.calls_same (TX _))))
           refine wpQuiet_nil ?_
           intro wb hx
           have hb3:=Xt.below hx
           have HB6:=Lib.hid (HBK.out.trans (hb3.mono hsi))
           clear x1 x2 x3 hx TX z0 y0 y1 HBK e0 e2 d1 d2 hb3 hr1 hr2 hrw
           cases bh with
           | true =>
            obtain ⟨bq,hbq⟩:∃ b,zf4 q=b:=⟨_,rfl⟩
            have IP:=fun W=>isPos_val q bq hbq W
            have HST2:Hid ((bq && ndB secs (sws.drop (i+1)) (needs.drop (i+1)))=VB):=by rw [Hid,← HST.out,← hbq];rfl
            clear hbq HST
            cases bq with
            | true =>
             go_wp2_with (go_at_call 195;refine (IP _).mono ?_;rintro e w' ⟨rfl,rfl⟩)
             go_roundw
             case rel=>exact ⟨i+1,by omega,by go_num,HST2.out,HB6.out⟩
             case measure=>simp [intOf];omega
            | false =>
             have HV9:Hid (V=2):=by rw [Hid,HVX.out,← HST2.out];rfl
             go_wp2_with (go_at_call 195;refine (IP _).mono ?_;rintro e w' ⟨rfl,rfl⟩)
             go_ret
             exact ⟨by rw [HV9.out];rfl,by rw [HBW.out];exact HB3.out.trans (HB6.out.mono (by omega))⟩
           | false =>
            by_cases hq:q=-1
            · have hq1:(q == -1)=true:=by simp [hq]
              have HST2:Hid (ndB secs (sws.drop (i+1)) (needs.drop (i+1))=VB):=by rw [Hid,← HST.out];simp [hq]
              subst hq
              go_wp2
              go_roundw
              case rel=>exact ⟨i+1,by omega,by go_num,HST2.out,HB6.out⟩
              case measure=>simp [intOf];omega
            · have hq1:(q == -1)=false:=by simp [hq]
              have HV9:Hid (V=2):=by
               have h9:=HST.out
               simp [hq] at h9
               rw [Hid,HVX.out,h9]
               rfl
              clear hq HST
              go_wp2
              go_ret
              exact ⟨by rw [HV9.out];rfl,by rw [HBW.out];exact HB3.out.trans (HB6.out.mono (by omega))⟩
         · have HN1:Hid (VB=true):=by
            have h9:=HGO.out
            rw [List.drop_eq_nil_iff.2 (show sws.length≤i by rw [HLW.out];omega),List.drop_eq_nil_iff.2 (show needs.length≤i by rw [HL2.out];omega)] at h9
            rw [Hid,← h9]
            rfl
           have HV9:Hid (V=0):=by rw [Hid,HVX.out,HN1.out];rfl
           go_wp2
           go_ret
           exact ⟨by rw [HV9.out];rfl,by rw [HBW.out];exact HB3.out.trans (HBK.out.mono (by omega))⟩
      · have hnd1:((nd:Int) != (nw:Int))=true:=by simp;omega
        have HV9:Hid (V=10):=by rw [Hid,HVW.out,if_neg hnd]
        clear hnd HVW
        go_wp2
        go_ret
        exact ⟨by rw [HV9.out];rfl,by rw [HBW.out];exact HB3.out⟩
 · have hE':(E1 != 0)=true:=by simp [hE]
   have HV1:Hid (V=E1):=by rw [Hid,HV.out,if_neg hE]
   clear hE
   go_wp2
   go_ret
   exact ⟨by rw [HV1.out];rfl,by rw [HBW.out];exact HB2.out⟩
theorem ze4 {α:Type} {f g:List α→α→Int} (h:∀ pre x,f pre x=g pre x):∀ (l pre:List α),za2 f pre l=za2 g pre l
 | [],_=>rfl
 | x :: l,pre=>by rw [za2,za2,h,ze4 h l]
theorem nd_texts (l:List ByteArray):za2 (ndE (fun x:ByteArray=>x) (fun _ _=>0)) [] l=za2 nmE [] l:=ze4 (fun pre x=>by
 unfold ndE
 rw [show pre.map (fun x:ByteArray=>x)=pre from List.map_id' pre]
 by_cases h:nmE pre x=0
 · rw [if_pos h,h]
 · rw [if_neg h]) l []
theorem nd_switches (m:Nat) (l:List Sw):za2 (ndE (fun x:Sw=>x.1) (swM m)) [] l=za2 (swE m) [] l:=ze4 (fun pre x=>(swE_nd m pre x).symm) l []
theorem nd_routes (m:Nat) (sws:List Sw) (l:List RtV):za2 (ndE (fun x:RtV=>x.nm) (fun _ r=>rtE1 m sws r)) [] l=za2 (rtE m sws) [] l:=ze4 (fun pre x=>by
 show (if zam [zag (za3 x.nm) 4,zag (!zcu (pre.map (·.nm)) x.nm) 5]=0 then rtE1 m sws x else zam [zag (za3 x.nm) 4,zag (!zcu (pre.map (·.nm)) x.nm) 5])=zam [zag (za3 x.nm) 4,zag (!zcu (pre.map (·.nm)) x.nm) 5,rtE1 m sws x]
 generalize zag (za3 x.nm) 4=a
 generalize zag (!zcu (pre.map (·.nm)) x.nm) 5=b
 generalize rtE1 m sws x=c
 by_cases h:a=0 <;> by_cases g:b=0 <;> by_cases f:c=0 <;> simp [zam,h,g,f]) l []
theorem more_sw (w:World) (B x:Nat) (p:PlantV) (h:PlantAt w B p) (hS:PlantS p) (hB:B≤w.heap.size) (k0:w.heap[x]?=some (.cells #[p.ss.v,p.ts.v,p.ws.v,p.rs.v] 26 (0,0))) (k:Nat) (y:Sw) (hk:p.sws[k]?=some y) :
 Calls Tryz.prog 123 #[.int .i64 k,.pointer (some ⟨x,0,none⟩)] w (zay w (swM p.secs.length (p.sws.take k) y)):=by
 have SE:=zlg w B p.ss.A p.ts.A p.ws.A p.rs.A p.ss.n p.ts.n p.ws.n p.rs.n p.ss.c p.ts.c p.ws.c p.rs.c p.sws h.sws.1 h.sws.2 hB (by rw [← h.sws.1];exact hS.sws.1) (by rw [← h.secs.1];exact hS.secs.1) h.cap.2.2.1 k y hk
 rw [← h.secs.1] at SE
 obtain ⟨V,hV⟩:∃ V,swM p.secs.length (p.sws.take k) y=V:=⟨_,rfl⟩
 rw [hV] at SE ⊢
 have c0:=(cell_of_row w _ 0 _ _ _ k0).trans (by rfl:_=some (.slice p.ss.A p.ss.n p.ss.c))
 have c1:=(cell_of_row w _ 1 _ _ _ k0).trans (by rfl:_=some (.slice p.ts.A p.ts.n p.ts.c))
 have c2:=(cell_of_row w _ 2 _ _ _ k0).trans (by rfl:_=some (.slice p.ws.A p.ws.n p.ws.c))
 have c3:=(cell_of_row w _ 3 _ _ _ k0).trans (by rfl:_=some (.slice p.rs.A p.rs.n p.rs.c))
 unfold zay at SE
 rw [h.secs.1] at SE
 clear h hS k0 hk hV hB
 go_enter Tryz.func123,Tryz.ntmps123
 go_wp2_with (go_at_call 124;refine SE.mono ?_;rintro e w9 ⟨rfl,hb9⟩)
 go_ret
 exact ⟨rfl,hb9⟩
theorem more_rt (w:World) (B x:Nat) (p:PlantV) (h:PlantAt w B p) (hS:PlantS p) (hB:B≤w.heap.size) (k0:w.heap[x]?=some (.cells #[p.ss.v,p.ts.v,p.ws.v,p.rs.v] 26 (0,0))) (k:Nat) (y:RtV) (hk:p.rts[k]?=some y) :
 Calls Tryz.prog 128 #[.int .i64 k,.pointer (some ⟨x,0,none⟩)] w (zay w (rtE1 p.secs.length p.sws y)):=by
 have hm:=List.mem_of_getElem? hk
 have SE:=routeErr_any w B p.ss.A p.ts.A p.ws.A p.rs.A p.ss.n p.ts.n p.ws.n p.rs.n p.ss.c p.ts.c p.ws.c p.rs.c p.rts p.sws h.rts.1 h.rts.2 h.sws.1 h.sws.2 hB (by rw [← h.secs.1];exact hS.secs.1) (by rw [← h.sws.1];exact hS.sws.1) k y hk (h.rt y hm).1 (h.rt y hm).2 (h.cap.2.2.2.2 y hm) (hS.rts.2 y hm).2.1 (hS.rts.2 y hm).2.2
 obtain ⟨V,hV⟩:∃ V,rtE1 p.secs.length p.sws y=V:=⟨_,rfl⟩
 rw [← h.secs.1,hV] at SE
 rw [hV]
 have c0:=(cell_of_row w _ 0 _ _ _ k0).trans (by rfl:_=some (.slice p.ss.A p.ss.n p.ss.c))
 have c1:=(cell_of_row w _ 1 _ _ _ k0).trans (by rfl:_=some (.slice p.ts.A p.ts.n p.ts.c))
 have c2:=(cell_of_row w _ 2 _ _ _ k0).trans (by rfl:_=some (.slice p.ws.A p.ws.n p.ws.c))
 have c3:=(cell_of_row w _ 3 _ _ _ k0).trans (by rfl:_=some (.slice p.rs.A p.rs.n p.rs.c))
 unfold zay at SE
 rw [h.secs.1] at SE
 clear h hS k0 hk hV hB hm
 go_enter Tryz.func128,Tryz.ntmps128
 go_wp2_with (go_at_call 129;refine SE.mono ?_;rintro e w9 ⟨rfl,hb9⟩)
 go_ret
 exact ⟨rfl,hb9⟩
theorem list_secs (w:World) (B x:Nat) (p:PlantV) (h:PlantAt w B p) (hS:PlantS p) (hB:B≤w.heap.size) (k0:w.heap[x]?=some (.cells #[p.ss.v,p.ts.v,p.ws.v,p.rs.v] 26 (0,0))) :
 Calls Tryz.prog 116 #[.pointer (some ⟨x,0,none⟩)] w (zce w (za2 nmE [] p.secs)):=by
 have hx:x<w.heap.size:=(Array.getElem?_eq_some_iff.1 k0).1
 have hb0:=hB1 w (.cells #[.int .i64 0,.int .i64 0] 180)
 have k1:=hA1 w (.cells #[.int .i64 0,.int .i64 0] 180)
 have k2:=blk hb0 k0
 have H:=Lib.hid (h.keep hb0)
 have HB:=Lib.hid hb0
 have hs0:=hb0.size
 clear h hb0 k0
 go_enter Tryz.func116,Tryz.ntmps116
 go_upto_region 1 with (fail)
 generalize w.alloc (.cells #[.int .i64 0,.int .i64 0] 180)=w0 at *
 generalize hbw:w.heap.size=bw at *
 have HBW:=Lib.hid hbw
 clear hbw
 have c0:=(cell_of_row w0 _ 0 _ _ _ k2).trans (by rfl:_=some (.slice p.ss.A p.ss.n p.ss.c))
 obtain ⟨V,hV⟩:∃ V,za2 nmE [] p.secs=V:=⟨_,rfl⟩
 have HV:Hid (za2 nmE [] p.secs=V):=hV
 have NT:=zi8 w0 B 1 p.ss.A p.ss.n p.ss.c p.secs H.out.secs.1 H.out.secs.2 (by omega) (by rw [← H.out.secs.1];exact hS.secs.1) hS.secs.2
 rw [nd_texts,hV] at NT
 clear hV
 go_wp2_with (go_at_call 117;refine NT.mono ?_;rintro e w9 ⟨ma,mb,rfl,hb9⟩;replace k1:=blk hb9 k1;obtain ⟨r0,r1,q0,q1⟩:=zbu k1)
 refine bodyPost_ret (v:=.tuple #[.agg #[.int .i64 ma,.int .i64 mb],.int .i64 V]) (by simp [results,Tryz.results116,go_sem,r0,r1]) rfl ⟨ma,mb,?_,?_⟩
 · rw [HV.out]
 · rw [HBW.out]
   exact (HB.out.trans (hb9.mono hs0)).trans (zal _ _ (Nat.le_refl _))
theorem list_trains (w:World) (B x:Nat) (p:PlantV) (h:PlantAt w B p) (hS:PlantS p) (hB:B≤w.heap.size) (k0:w.heap[x]?=some (.cells #[p.ss.v,p.ts.v,p.ws.v,p.rs.v] 26 (0,0))) :
 Calls Tryz.prog 119 #[.pointer (some ⟨x,0,none⟩)] w (zce w (za2 nmE [] p.trains)):=by
 have hx:x<w.heap.size:=(Array.getElem?_eq_some_iff.1 k0).1
 have hb0:=hB1 w (.cells #[.int .i64 0,.int .i64 0] 180)
 have k1:=hA1 w (.cells #[.int .i64 0,.int .i64 0] 180)
 have k2:=blk hb0 k0
 have H:=Lib.hid (h.keep hb0)
 have HB:=Lib.hid hb0
 have hs0:=hb0.size
 clear h hb0 k0
 go_enter Tryz.func119,Tryz.ntmps119
 go_upto_region 1 with (fail)
 generalize w.alloc (.cells #[.int .i64 0,.int .i64 0] 180)=w0 at *
 generalize hbw:w.heap.size=bw at *
 have HBW:=Lib.hid hbw
 clear hbw
 have c1:=(cell_of_row w0 _ 1 _ _ _ k2).trans (by rfl:_=some (.slice p.ts.A p.ts.n p.ts.c))
 obtain ⟨V,hV⟩:∃ V,za2 nmE [] p.trains=V:=⟨_,rfl⟩
 have HV:Hid (za2 nmE [] p.trains=V):=hV
 have NT:=zi8 w0 B 2 p.ts.A p.ts.n p.ts.c p.trains H.out.trains.1 H.out.trains.2 (by omega) (by rw [← H.out.trains.1];exact hS.trains.1) hS.trains.2
 rw [nd_texts,hV] at NT
 clear hV
 go_wp2_with (go_at_call 117;refine NT.mono ?_;rintro e w9 ⟨ma,mb,rfl,hb9⟩;replace k1:=blk hb9 k1;obtain ⟨r0,r1,q0,q1⟩:=zbu k1)
 refine bodyPost_ret (v:=.tuple #[.agg #[.int .i64 ma,.int .i64 mb],.int .i64 V]) (by simp [results,Tryz.results119,go_sem,r0,r1]) rfl ⟨ma,mb,?_,?_⟩
 · rw [HV.out]
 · rw [HBW.out]
   exact (HB.out.trans (hb9.mono hs0)).trans (zal _ _ (Nat.le_refl _))
theorem list_sws (w:World) (B x:Nat) (p:PlantV) (h:PlantAt w B p) (hS:PlantS p) (hB:B≤w.heap.size) (k0:w.heap[x]?=some (.cells #[p.ss.v,p.ts.v,p.ws.v,p.rs.v] 26 (0,0))) :
 Calls Tryz.prog 120 #[.pointer (some ⟨x,0,none⟩)] w (zce w (za2 (swE p.secs.length) [] p.sws)):=by
 have hx:x<w.heap.size:=(Array.getElem?_eq_some_iff.1 k0).1
 have hb0:=hB1 w (.cells #[.int .i64 0,.int .i64 0] 180)
 have k1:=hA1 w (.cells #[.int .i64 0,.int .i64 0] 180)
 have k2:=blk hb0 k0
 have H:=Lib.hid (h.keep hb0)
 have HB:=Lib.hid hb0
 have hs0:=hb0.size
 clear h hb0 k0
 go_enter Tryz.func120,Tryz.ntmps120
 go_upto_region 1 with (fail)
 generalize w.alloc (.cells #[.int .i64 0,.int .i64 0] 180)=w0 at *
 generalize hbw:w.heap.size=bw at *
 have HBW:=Lib.hid hbw
 clear hbw
 have c2:=(cell_of_row w0 _ 2 _ _ _ k2).trans (by rfl:_=some (.slice p.ws.A p.ws.n p.ws.c))
 obtain ⟨V,hV⟩:∃ V,za2 (swE p.secs.length) [] p.sws=V:=⟨_,rfl⟩
 have HV:Hid (za2 (swE p.secs.length) [] p.sws=V):=hV
 have NT:=zj7 w0 B 3 p.ws.A p.ws.n p.ws.c p.sws (swM p.secs.length) H.out.sws.1 H.out.sws.2 (by omega) (by rw [← H.out.sws.1];exact hS.sws.1) hS.sws.2 (.pointer (some ⟨x,0,none⟩)) (fun W hb k y hk=>more_sw W B x p (H.out.keep hb) hS (Nat.le_trans (by omega) hb.size) (blk hb k2) k y hk)
 rw [nd_switches,hV] at NT
 clear hV
 go_wp2_with (go_at_call 122;refine NT.mono ?_;rintro e w9 ⟨ma,mb,rfl,hb9⟩;replace k1:=blk hb9 k1;obtain ⟨r0,r1,q0,q1⟩:=zbu k1)
 refine bodyPost_ret (v:=.tuple #[.agg #[.int .i64 ma,.int .i64 mb],.int .i64 V]) (by simp [results,Tryz.results120,go_sem,r0,r1]) rfl ⟨ma,mb,?_,?_⟩
 · rw [HV.out]
 · rw [HBW.out]
   exact (HB.out.trans (hb9.mono hs0)).trans (zal _ _ (Nat.le_refl _))
theorem list_rts (w:World) (B x:Nat) (p:PlantV) (h:PlantAt w B p) (hS:PlantS p) (hB:B≤w.heap.size) (k0:w.heap[x]?=some (.cells #[p.ss.v,p.ts.v,p.ws.v,p.rs.v] 26 (0,0))) :
 Calls Tryz.prog 125 #[.pointer (some ⟨x,0,none⟩)] w (zce w (za2 (rtE p.secs.length p.sws) [] p.rts)):=by
 have hx:x<w.heap.size:=(Array.getElem?_eq_some_iff.1 k0).1
 have hb0:=hB1 w (.cells #[.int .i64 0,.int .i64 0] 180)
 have k1:=hA1 w (.cells #[.int .i64 0,.int .i64 0] 180)
 have k2:=blk hb0 k0
 have H:=Lib.hid (h.keep hb0)
 have HB:=Lib.hid hb0
 have hs0:=hb0.size
 clear h hb0 k0
 go_enter Tryz.func125,Tryz.ntmps125
 go_upto_region 1 with (fail)
 generalize w.alloc (.cells #[.int .i64 0,.int .i64 0] 180)=w0 at *
 generalize hbw:w.heap.size=bw at *
 have HBW:=Lib.hid hbw
 clear hbw
 have c3:=(cell_of_row w0 _ 3 _ _ _ k2).trans (by rfl:_=some (.slice p.rs.A p.rs.n p.rs.c))
 obtain ⟨V,hV⟩:∃ V,za2 (rtE p.secs.length p.sws) [] p.rts=V:=⟨_,rfl⟩
 have HV:Hid (za2 (rtE p.secs.length p.sws) [] p.rts=V):=hV
 have NT:=named_routes w0 B 4 p.rs.A p.rs.n p.rs.c p.rts (fun _ r=>rtE1 p.secs.length p.sws r) H.out.rts.1 H.out.rts.2 (by omega) (by rw [← H.out.rts.1];exact hS.rts.1) (fun r hr=>(hS.rts.2 r hr).1) (.pointer (some ⟨x,0,none⟩)) (fun W hb k y hk=>more_rt W B x p (H.out.keep hb) hS (Nat.le_trans (by omega) hb.size) (blk hb k2) k y hk)
 rw [nd_routes,hV] at NT
 clear hV
 go_wp2_with (go_at_call 127;refine NT.mono ?_;rintro e w9 ⟨ma,mb,rfl,hb9⟩;replace k1:=blk hb9 k1;obtain ⟨r0,r1,q0,q1⟩:=zbu k1)
 refine bodyPost_ret (v:=.tuple #[.agg #[.int .i64 ma,.int .i64 mb],.int .i64 V]) (by simp [results,Tryz.results125,go_sem,r0,r1]) rfl ⟨ma,mb,?_,?_⟩
 · rw [HV.out]
 · rw [HBW.out]
   exact (HB.out.trans (hb9.mono hs0)).trans (zal _ _ (Nat.le_refl _))
theorem ix151_0 (v:Array Value) (W:World):Sem.run Tryz.prog (Instr.index 252 (Value.agg #[.func (.func 116) #[] v,.func (.func 119) #[] v,.func (.func 120) #[] v,.func (.func 125) #[] v]) (.int .i64 0)) W=.ok (.func (.func 116) #[] v) W:=by kernel_rfl
theorem ix151_1 (v:Array Value) (W:World):Sem.run Tryz.prog (Instr.index 252 (Value.agg #[.func (.func 116) #[] v,.func (.func 119) #[] v,.func (.func 120) #[] v,.func (.func 125) #[] v]) (.int .i64 1)) W=.ok (.func (.func 119) #[] v) W:=by kernel_rfl
theorem ix151_2 (v:Array Value) (W:World):Sem.run Tryz.prog (Instr.index 252 (Value.agg #[.func (.func 116) #[] v,.func (.func 119) #[] v,.func (.func 120) #[] v,.func (.func 125) #[] v]) (.int .i64 2)) W=.ok (.func (.func 120) #[] v) W:=by kernel_rfl
theorem ix151_3 (v:Array Value) (W:World):Sem.run Tryz.prog (Instr.index 252 (Value.agg #[.func (.func 116) #[] v,.func (.func 119) #[] v,.func (.func 120) #[] v,.func (.func 125) #[] v]) (.int .i64 3)) W=.ok (.func (.func 125) #[] v) W:=by kernel_rfl
def lstV (V1 V2 V3 V4:Int):Nat→Int
 | 0=>zam [V1,V2,V3,V4]
 | 1=>zam [V2,V3,V4]
 | 2=>zam [V3,V4]
 | 3=>zam [V4]
 | _=>0
def LsRel (w0:World) (V1 V2 V3 V4 V:Int) (u:Value) (wr:World):Prop:=∃ k:Nat,k≤4∧u=.int .i64 k∧lstV V1 V2 V3 V4 k=V∧Below w0.heap.size w0 wr
theorem zjc (w:World) (B:Nat) (p:PlantV) (h:PlantAt w B p) (hS:PlantS p) (hB:B≤w.heap.size):Calls Tryz.prog 76 #[.agg (zap p).toArray] w (zce w (zb7 p)):=by
 obtain ⟨⟨As,ns,cs⟩,secs,⟨At,nt,ct⟩,trains,⟨Aw,nw,cw⟩,sws,⟨Ar,nr,cr⟩,rts⟩:=p
 show Calls Tryz.prog 76 #[.agg #[.slice As ns cs,.slice At nt ct,.slice Aw nw cw,.slice Ar nr cr]] w _
 have hl1:secs.length=ns:=h.secs.1
 have hl2:trains.length=nt:=h.trains.1
 have hl3:sws.length=nw:=h.sws.1
 have hl4:rts.length=nr:=h.rts.1
 have hn1:ns≤1000:=by rw [← hl1];exact hS.secs.1
 have hn2:nt≤1000:=by rw [← hl2];exact hS.trains.1
 have hn3:nw≤1000:=by rw [← hl3];exact hS.sws.1
 have hn4:nr≤1000:=by rw [← hl4];exact hS.rts.1
 have k0:((w.alloc (.cells #[.slice As ns cs,.slice At nt ct,.slice Aw nw cw,.slice Ar nr cr] 26)).alloc (.cells #[.int .i64 0,.int .i64 0] 180)).heap[w.heap.size]?=some (.cells #[.slice As ns cs,.slice At nt ct,.slice Aw nw cw,.slice Ar nr cr] 26 (0,0)):=by
  rw [zae,if_neg (by simp),zae,if_pos rfl]
 have k1:((w.alloc (.cells #[.slice As ns cs,.slice At nt ct,.slice Aw nw cw,.slice Ar nr cr] 26)).alloc (.cells #[.int .i64 0,.int .i64 0] 180)).heap[w.heap.size+1]?=some (.cells #[.int .i64 0,.int .i64 0] 180 (0,0)):=by
  rw [zae,if_pos (by simp)]
 have hb0:=hB2 w (.cells #[.slice As ns cs,.slice At nt ct,.slice Aw nw cw,.slice Ar nr cr] 26) (.cells #[.int .i64 0,.int .i64 0] 180)
 have hs:=hS2 w (.cells #[.slice As ns cs,.slice At nt ct,.slice Aw nw cw,.slice Ar nr cr] 26) (.cells #[.int .i64 0,.int .i64 0] 180)
 have HH:=Lib.hid ((h.keep hb0).mono hB)
 have HS:=Lib.hid hS
 have HB:=Lib.hid hb0
 obtain ⟨V,hV⟩:∃ V,zb7 ⟨⟨As,ns,cs⟩,secs,⟨At,nt,ct⟩,trains,⟨Aw,nw,cw⟩,sws,⟨Ar,nr,cr⟩,rts⟩=V:=⟨_,rfl⟩
 rw [hV]
 obtain ⟨E1,hE1⟩:∃ E,zbr ns nt nw nr=E:=⟨_,rfl⟩
 obtain ⟨V1,hV1⟩:∃ V,za2 nmE [] secs=V:=⟨_,rfl⟩
 obtain ⟨V2,hV2⟩:∃ V,za2 nmE [] trains=V:=⟨_,rfl⟩
 obtain ⟨V3,hV3⟩:∃ V,za2 (swE secs.length) [] sws=V:=⟨_,rfl⟩
 obtain ⟨V4,hV4⟩:∃ V,za2 (rtE secs.length sws) [] rts=V:=⟨_,rfl⟩
 have HV:Hid (V=if E1=0 then zam [V1,V2,V3,V4] else E1):=by
  rw [Hid,← hV,zb7]
  simp only [hV1,hV2,hV3,hV4]
  rw [hl1,hl2,hl3,hl4,hE1]
 have HE1:=Lib.hid hE1
 have HV1:=Lib.hid hV1
 have HV2:=Lib.hid hV2
 have HV3:=Lib.hid hV3
 have HV4:=Lib.hid hV4
 clear hb0 h hS hl1 hl2 hl3 hl4 hV hE1 hV1 hV2 hV3 hV4
 go_enter Tryz.func76,Tryz.ntmps76
 go_upto_region 1 with (fail)
 generalize ((w.alloc (.cells #[.slice As ns cs,.slice At nt ct,.slice Aw nw cw,.slice Ar nr cr] 26)).alloc (.cells #[.int .i64 0,.int .i64 0] 180))=w0 at *
 generalize hbw:w.heap.size=bw at *
 have HBW:=Lib.hid hbw
 clear hbw
 have d0:=(cell_of_row w0 _ 0 _ _ _ k0).trans (by rfl:_=some (.slice As ns cs))
 have d1:=(cell_of_row w0 _ 1 _ _ _ k0).trans (by rfl:_=some (.slice At nt ct))
 have d2:=(cell_of_row w0 _ 2 _ _ _ k0).trans (by rfl:_=some (.slice Aw nw cw))
 have d3:=(cell_of_row w0 _ 3 _ _ _ k0).trans (by rfl:_=some (.slice Ar nr cr))
 by_cases hE:E1=0
 · have HVV:Hid (V=zam [V1,V2,V3,V4]):=by rw [Hid,HV.out,if_pos hE]
   obtain ⟨a1,a2,f1,f2,f3,f4⟩:=zgd (HE1.out.trans hE)
   have g1:¬ (8:Int)<(ns:Int):=by omega
   have g2:¬ (3:Int)<(nt:Int):=by omega
   have g3:¬ (4:Int)<(nw:Int):=by omega
   have g4:¬ (10:Int)<(nr:Int):=by omega
   have HE2:zbr ns nt nw nr=0:=HE1.out.trans hE
   simp only [zbr,a1,a2,g1,g2,g3,g4,decide_true,decide_false,Bool.and_self,Bool.or_self,Bool.not_false] at HE2
   have HE3:=Lib.hid HE2
   clear hE HV HE1 HE2
   go_upto_region 3 with (first | (go_at_call 115;refine (zb1 _ _ _).mono ?_;rintro e w' ⟨rfl,rfl⟩) | (go_at_call 114;refine (zdo _ _ _).mono ?_;rintro e w' ⟨he,rfl⟩;rw [HE3.out] at he;subst he))
   have HB2:∀ o,Below w0.heap.size w0 (w0.alloc o):=fun o=>(Below.refl _ _).alloc (Nat.le_refl _) o
   generalize hw2:w0.alloc _=w2
   have hb2:Below w0.heap.size w0 w2:=by rw [← hw2];exact HB2 _
   clear HB2 hw2 HE3
   replace k0:=blk hb2 k0
   replace k1:=blk hb2 k1
   replace HH:=Lib.hid (HH.out.keep hb2)
   replace HB:=Lib.hid (HB.out.trans (hb2.mono (by omega)))
   replace hs:=Nat.le_trans hs hb2.size
   clear d0 d1 d2 d3 hb2 f1 f2 f3 f4 g1 g2 g3 g4
   go_wp2
   go_loopw [57] (fun u wr=>LsRel w2 V1 V2 V3 V4 V u wr) (fun u _=>4 - (intOf u).toNat)
   case atStart=>exact ⟨0,by decide,rfl,HVV.out.symm,Below.refl _ _⟩
   case round =>
    obtain ⟨k,hk,rfl,hgo,hb⟩:=hrel
    have HGO:=Lib.hid hgo
    have HBK:=Lib.hid hb
    have HF:=HH.out.keep hb
    have hsk:=hb.size
    replace k0:=blk hb k0
    replace k1:=blk hb k1
    clear hgo hb
    have L1:=list_secs wr bw bw _ HF HS.out (by omega) k0
    have L2:=list_trains wr bw bw _ HF HS.out (by omega) k0
    have L3:=list_sws wr bw bw _ HF HS.out (by omega) k0
    have L4:=list_rts wr bw bw _ HF HS.out (by omega) k0
    rw [HV1.out] at L1
    rw [HV2.out] at L2
    rw [HV3.out] at L3
    rw [HV4.out] at L4
    have HK0:=Lib.hid k0
    clear HF k0
    match k,hk with
    | 0,_ =>
     clear L2 L3 L4
     have ix:=fun W=>ix151_0 #[.pointer (some ⟨bw,0,none⟩)] W
     go_upto_region 8 with (fail)
     go_upto_region 9 with (go_at_call 116;refine L1.mono ?_;rintro e wx ⟨ma,mb,rfl,hbx⟩)
     have k2:=blk hbx k1
     have HBX:=Lib.hid (HBK.out.trans (hbx.mono hsk))
     have hsx:=Nat.le_trans hsk hbx.size
     clear k1 L1
     have ka:=hA1 wx (.cells #[.int .i64 ma,.int .i64 mb] 180)
     have hba:=hB1 wx (.cells #[.int .i64 ma,.int .i64 mb] 180)
     have HBA:=Lib.hid (HBX.out.trans (hba.mono hsx))
     replace k2:=blk hba k2
     clear HBX hba hbx HBK
     generalize wx.alloc (.cells #[.int .i64 ma,.int .i64 mb] 180)=wy at *
     by_cases h0:V1=0
     · have h0':(V1 != 0)=false:=by simp [h0]
       have HN:Hid (lstV V1 V2 V3 V4 1=V):=by
        rw [Hid,← HGO.out]
        simp only [lstV,h0]
        rfl
       clear h0
       go_wp2
       go_roundw
       case rel=>exact ⟨1,by decide,by go_num,HN.out,HBA.out⟩
       case measure=>decide
     · have h0':(V1 != 0)=true:=by simp [h0]
       have HN:Hid (V=V1):=by rw [Hid,← HGO.out];exact if_neg h0
       obtain ⟨r2,r3,q2,q3⟩:=zbu k2
       obtain ⟨s2,s3,t2,t3⟩:=zbu ka
       clear h0
       go_wp2
       refine bodyPost_ret (v:=.tuple #[.agg #[.int .i64 ma,.int .i64 mb],.int .i64 V1]) (by simp [results,Tryz.results76,go_sem,r2,r3]) rfl ⟨ma,mb,?_,?_⟩
       · rw [HN.out]
       · rw [HBW.out]
         exact (HB.out.trans (HBA.out.mono (by omega))).trans (zal _ _ (Nat.le_succ _))
    | 1,_ =>
     clear L1 L3 L4
     have ix:=fun W=>ix151_1 #[.pointer (some ⟨bw,0,none⟩)] W
     go_upto_region 8 with (fail)
     go_upto_region 9 with (go_at_call 119;refine L2.mono ?_;rintro e wx ⟨ma,mb,rfl,hbx⟩)
     have k2:=blk hbx k1
     have HBX:=Lib.hid (HBK.out.trans (hbx.mono hsk))
     have hsx:=Nat.le_trans hsk hbx.size
     clear k1 L2
     have ka:=hA1 wx (.cells #[.int .i64 ma,.int .i64 mb] 180)
     have hba:=hB1 wx (.cells #[.int .i64 ma,.int .i64 mb] 180)
     have HBA:=Lib.hid (HBX.out.trans (hba.mono hsx))
     replace k2:=blk hba k2
     clear HBX hba hbx HBK
     generalize wx.alloc (.cells #[.int .i64 ma,.int .i64 mb] 180)=wy at *
     by_cases h0:V2=0
     · have h0':(V2 != 0)=false:=by simp [h0]
       have HN:Hid (lstV V1 V2 V3 V4 2=V):=by
        rw [Hid,← HGO.out]
        simp only [lstV,h0]
        rfl
       clear h0
       go_wp2
       go_roundw
       case rel=>exact ⟨2,by decide,by go_num,HN.out,HBA.out⟩
       case measure=>decide
     · have h0':(V2 != 0)=true:=by simp [h0]
       have HN:Hid (V=V2):=by rw [Hid,← HGO.out];exact if_neg h0
       obtain ⟨r2,r3,q2,q3⟩:=zbu k2
       obtain ⟨s2,s3,t2,t3⟩:=zbu ka
       clear h0
       go_wp2
       refine bodyPost_ret (v:=.tuple #[.agg #[.int .i64 ma,.int .i64 mb],.int .i64 V2]) (by simp [results,Tryz.results76,go_sem,r2,r3]) rfl ⟨ma,mb,?_,?_⟩
       · rw [HN.out]
       · rw [HBW.out]
         exact (HB.out.trans (HBA.out.mono (by omega))).trans (zal _ _ (Nat.le_succ _))
    | 2,_ =>
     clear L1 L2 L4
     have ix:=fun W=>ix151_2 #[.pointer (some ⟨bw,0,none⟩)] W
     go_upto_region 8 with (fail)
     go_upto_region 9 with (go_at_call 120;refine L3.mono ?_;rintro e wx ⟨ma,mb,rfl,hbx⟩)
     have k2:=blk hbx k1
     have HBX:=Lib.hid (HBK.out.trans (hbx.mono hsk))
     have hsx:=Nat.le_trans hsk hbx.size
     clear k1 L3
     have ka:=hA1 wx (.cells #[.int .i64 ma,.int .i64 mb] 180)
     have hba:=hB1 wx (.cells #[.int .i64 ma,.int .i64 mb] 180)
     have HBA:=Lib.hid (HBX.out.trans (hba.mono hsx))
     replace k2:=blk hba k2
     clear HBX hba hbx HBK
     generalize wx.alloc (.cells #[.int .i64 ma,.int .i64 mb] 180)=wy at *
     by_cases h0:V3=0
     · have h0':(V3 != 0)=false:=by simp [h0]
       have HN:Hid (lstV V1 V2 V3 V4 3=V):=by
        rw [Hid,← HGO.out]
        simp only [lstV,h0]
        rfl
       clear h0
       go_wp2
       go_roundw
       case rel=>exact ⟨3,by decide,by go_num,HN.out,HBA.out⟩
       case measure=>decide
     · have h0':(V3 != 0)=true:=by simp [h0]
       have HN:Hid (V=V3):=by rw [Hid,← HGO.out];exact if_neg h0
       obtain ⟨r2,r3,q2,q3⟩:=zbu k2
       obtain ⟨s2,s3,t2,t3⟩:=zbu ka
       clear h0
       go_wp2
       refine bodyPost_ret (v:=.tuple #[.agg #[.int .i64 ma,.int .i64 mb],.int .i64 V3]) (by simp [results,Tryz.results76,go_sem,r2,r3]) rfl ⟨ma,mb,?_,?_⟩
       · rw [HN.out]
       · rw [HBW.out]
         exact (HB.out.trans (HBA.out.mono (by omega))).trans (zal _ _ (Nat.le_succ _))
    | 3,_ =>
     clear L1 L2 L3
     have ix:=fun W=>ix151_3 #[.pointer (some ⟨bw,0,none⟩)] W
     go_upto_region 8 with (fail)
     go_upto_region 9 with (go_at_call 125;refine L4.mono ?_;rintro e wx ⟨ma,mb,rfl,hbx⟩)
     have k2:=blk hbx k1
     have HBX:=Lib.hid (HBK.out.trans (hbx.mono hsk))
     have hsx:=Nat.le_trans hsk hbx.size
     clear k1 L4
     have ka:=hA1 wx (.cells #[.int .i64 ma,.int .i64 mb] 180)
     have hba:=hB1 wx (.cells #[.int .i64 ma,.int .i64 mb] 180)
     have HBA:=Lib.hid (HBX.out.trans (hba.mono hsx))
     replace k2:=blk hba k2
     clear HBX hba hbx HBK
     generalize wx.alloc (.cells #[.int .i64 ma,.int .i64 mb] 180)=wy at *
     by_cases h0:V4=0
     · have h0':(V4 != 0)=false:=by simp [h0]
       have HN:Hid (lstV V1 V2 V3 V4 4=V):=by
        rw [Hid,← HGO.out]
        simp only [lstV,h0]
        rfl
       clear h0
       go_wp2
       go_roundw
       case rel=>exact ⟨4,by decide,by go_num,HN.out,HBA.out⟩
       case measure=>decide
     · have h0':(V4 != 0)=true:=by simp [h0]
       have HN:Hid (V=V4):=by rw [Hid,← HGO.out];exact if_neg h0
       obtain ⟨r2,r3,q2,q3⟩:=zbu k2
       obtain ⟨s2,s3,t2,t3⟩:=zbu ka
       clear h0
       go_wp2
       refine bodyPost_ret (v:=.tuple #[.agg #[.int .i64 ma,.int .i64 mb],.int .i64 V4]) (by simp [results,Tryz.results76,go_sem,r2,r3]) rfl ⟨ma,mb,?_,?_⟩
       · rw [HN.out]
       · rw [HBW.out]
         exact (HB.out.trans (HBA.out.mono (by omega))).trans (zal _ _ (Nat.le_succ _))
    | 4,_ =>
     have HN1:Hid (V=0):=HGO.out.symm
     obtain ⟨r2,r3,q2,q3⟩:=zbu k1
     clear L1 L2 L3 L4
     go_wp2
     refine bodyPost_ret (v:=.tuple #[.agg #[.int .i64 0,.int .i64 0],.int .i64 0]) (by simp [results,Tryz.results76,go_sem, *]) rfl ⟨0,0,?_,?_⟩
     · rw [HN1.out]
     · rw [HBW.out]
       exact (HB.out.trans (HBK.out.mono (by omega))).trans (zal _ _ (Nat.le_succ _))
 · have HVV:Hid (V=E1):=by rw [Hid,HV.out,if_neg hE]
   have hE':(E1 != 0)=true:=by simp [hE]
   clear hE HV
   by_cases a1:0<ns <;> by_cases f1:(8:Int)<(ns:Int) <;> by_cases f2:(3:Int)<(nt:Int) <;> by_cases f3:(4:Int)<(nw:Int)
   all_goals try (exfalso;omega)
   all_goals
    have HE2:zbr ns nt nw nr=E1:=HE1.out
    simp only [zbr,a1,f1,f2,f3,decide_true,decide_false,Bool.true_and,Bool.false_and,Bool.true_or,Bool.false_or,Bool.or_true,Bool.or_false,Bool.not_true] at HE2
    have HE3:=Lib.hid HE2
    clear HE1 HE2
    go_upto_region 3 with (first | (go_at_call 115;refine (zb1 _ _ _).mono ?_;rintro e w' ⟨rfl,rfl⟩) | (go_at_call 114;refine (zdo _ _ _).mono ?_;rintro e w' ⟨he,rfl⟩;rw [HE3.out] at he;subst he))
    have HB2:∀ o,Below bw w (w0.alloc o):=fun o=>HB.out.alloc (by omega) o
    have K2:∀ o,(w0.alloc o).heap[bw+1]?=some (.cells #[.int .i64 0,.int .i64 0] 180 (0,0)):=fun o=>blk ((Below.refl _ _).alloc (Nat.le_refl _) o) k1
    generalize hw2:w0.alloc _=w2
    have hb2:Below bw w w2:=by rw [← hw2];exact HB2 _
    have k2:w2.heap[bw+1]?=some (.cells #[.int .i64 0,.int .i64 0] 180 (0,0)):=by rw [← hw2];exact K2 _
    obtain ⟨r2,r3,q2,q3⟩:=zbu k2
    have HB3:=Lib.hid hb2
    clear HB2 K2 hb2 hw2
    go_wp2
    refine bodyPost_ret (v:=.tuple #[.agg #[.int .i64 0,.int .i64 0],.int .i64 E1]) (by simp [results,Tryz.results76,go_sem,r2,r3]) rfl ⟨0,0,?_,?_⟩
    · rw [HVV.out]
    · rw [HBW.out]
      exact HB3.out.trans (zal _ _ (Nat.le_succ _))
end Go.Proofs.YtoodbfkbbchjiaaGreatDoor
