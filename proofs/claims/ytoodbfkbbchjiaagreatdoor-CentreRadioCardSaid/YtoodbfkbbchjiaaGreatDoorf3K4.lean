import Derived.Test.YtoodbfkbbchjiaaGreatDoorf3K3A
import Derived.Test.YtoodbfkbbchjiaaGreatDoorf3K3B
import Derived.Test.YtoodbfkbbchjiaaGreatDoorf3F4
set_option maxRecDepth 100000
set_option maxHeartbeats 16000000
namespace Go.Proofs.YtoodbfkbbchjiaaGreatDoor
theorem ttAct_any (w:World) (n:Nat) (a:Act) (hn:n≤1000000000):Calls Tryz.prog 151 #[.int .i64 n,actV a] w (zay w (actE n a)):=by
 rw [actE_list]
 obtain ⟨k,s,d,l,m,x⟩:=a
 simp only
 cases h:zaj s 0 ((n:Int) - 1) with
 | true=>exact ttAct_walkA w n k s d l m x hn _ _ _ _ _ _ _ rfl rfl rfl h rfl rfl rfl rfl
 | false=>exact ttAct_walkB w n k s d l m x hn _ _ _ _ _ _ _ rfl rfl rfl h rfl rfl rfl rfl
open Go.RowKit
theorem zda (A:Option Addr) (n c B:Nat) (l:List ByteArray) (s:ByteArray) (b:Bool) (hb:zcu l s=b) (w:World) (hn:n≤1000000000) (hl:l.length=n) (h:Rd w B A (strCells l)) :
 Calls Tryz.prog 150 #[.slice A n c,.string s] w fun e w'=>e=.returned (.bool b)∧w=w':=by
 rw [← hb]
 exact zhd A n c B l s w hn hl h
theorem ttName_val (s:ByteArray) (b:Bool) (hb:za3 s=b) (hs9:s.size≤1000000000) (w:World):Calls Tryz.prog 149 #[.string s] w fun e w'=>e=.returned (.bool b)∧Below w.heap.size w w':=by
 rw [← hb]
 exact isName_any s hs9 w
theorem actGo_chk (m:Nat):∀ (l:List Act) (pre:List Act),zjt m l=za2 (fun _ a=>actE m a) pre l
 | [],_=>rfl
 | a :: l,pre=>by rw [zjt,za2,← actGo_chk m l]
theorem zi3 {w:World} {B:Nat} {A:Option Addr} {l:List ByteArray} (h:Rd w B A (strCells l)) (k:Nat):Rd w B A (strCells (l.take k)):=fun j u hu=>h j u (by
 unfold strCells at hu ⊢
 rw [List.getElem?_map] at hu ⊢
 rw [List.getElem?_take] at hu
 split at hu
 · exact hu
 · simp at hu)
def zlf (n:Nat):Int:=zam [zag (decide (0<n)) 10,zag (decide ((n:Int)≤16)) 8]
theorem netE_head (evs:List ByteArray) (acts:List Act):netE evs acts=if zlf evs.length=0 then (if za2 nmE [] evs=0 then (if 30<acts.length then 8 else za2 (fun _ a=>actE evs.length a) [] acts) else za2 nmE [] evs) else zlf evs.length:=by
 unfold netE zlf
 rw [evGo_chk,actGo_chk _ _ []]
 by_cases h1:evs.length=0
 · simp [h1,zam,zag]
 · have e1:0<evs.length:=by omega
   by_cases h2:16<evs.length
   · have e2:¬ (evs.length:Int)≤16:=by omega
     simp [h1,h2,e1,e2,zam,zag]
   · have e2:(evs.length:Int)≤16:=by omega
     by_cases h3:za2 nmE [] evs=0 <;> simp [h1,h2,e1,e2,h3,zam,zag]
theorem ttNet_any (w:World) (B:Nat) (es as9:SlV) (evs:List ByteArray) (acts:List Act) (h1:zcs w B es evs.length (strCells evs)) (h2:zcs w B as9 acts.length (zb4 acts)) (hc:es.n≤es.c) (hB:B≤w.heap.size)
 (hs1:evs.length≤1000∧∀ s∈evs,s.size≤1000) (hs2:acts.length≤1000) :
 Calls Tryz.prog 81 #[.agg #[es.v,as9.v]] w (zce w (netE evs acts)):=by
 obtain ⟨Ae,ne,ce⟩:=es
 obtain ⟨Aa,na,ca⟩:=as9
 show Calls Tryz.prog 81 #[.agg #[.slice Ae ne ce,.slice Aa na ca]] w _
 obtain ⟨hl1,hr1⟩:=h1
 obtain ⟨hl2,hr2⟩:=h2
 obtain ⟨hn1,hz⟩:=hs1
 simp only at hl1 hl2 hr1 hr2 hc
 rw [hl1] at hn1
 rw [hl2] at hs2
 have k0:((w.alloc (.cells #[.slice Ae ne ce,.slice Aa na ca] 42)).alloc (.cells #[.int .i64 0,.int .i64 0] 188)).heap[w.heap.size]?=some (.cells #[.slice Ae ne ce,.slice Aa na ca] 42 (0,0)):=by
  rw [zae,if_neg (by simp),zae,if_pos rfl]
 have k1:((w.alloc (.cells #[.slice Ae ne ce,.slice Aa na ca] 42)).alloc (.cells #[.int .i64 0,.int .i64 0] 188)).heap[w.heap.size+1]?=some (.cells #[.int .i64 0,.int .i64 0] 188 (0,0)):=by
  rw [zae,if_pos (by simp)]
 have hb0:=hB2 w (.cells #[.slice Ae ne ce,.slice Aa na ca] 42) (.cells #[.int .i64 0,.int .i64 0] 188)
 have hs:=hS2 w (.cells #[.slice Ae ne ce,.slice Aa na ca] 42) (.cells #[.int .i64 0,.int .i64 0] 188)
 have HR1:=Lib.hid ((hr1.below (hb0.mono hB)).mono hB)
 have HR2:=Lib.hid ((hr2.below (hb0.mono hB)).mono hB)
 have HB:=Lib.hid hb0
 have HL1:=Lib.hid hl1
 have HL2:=Lib.hid hl2
 have HZ:=Lib.hid hz
 obtain ⟨V,hV⟩:∃ V,netE evs acts=V:=⟨_,rfl⟩
 rw [hV]
 obtain ⟨E1,hE1⟩:∃ E,zlf ne=E:=⟨_,rfl⟩
 obtain ⟨V1,hV1⟩:∃ V,za2 nmE [] evs=V:=⟨_,rfl⟩
 obtain ⟨V2,hV2⟩:∃ V,za2 (fun _ a=>actE ne a) [] acts=V:=⟨_,rfl⟩
 have HV:Hid (V=if E1=0 then (if V1=0 then (if 30<na then 8 else V2) else V1) else E1):=by
  rw [Hid,← hV,netE_head]
  simp only [hl1,hl2,hE1,hV1,hV2]
 have HE3:Hid (zam [zag (decide (0<ne)) 10,zag (decide ((ne:Int)≤16)) 8]=E1):=hE1
 have HV1:=Lib.hid hV1
 have HV2:=Lib.hid hV2
 clear hb0 hr1 hr2 hl1 hl2 hz hV hE1 hV1 hV2
 go_enter Tryz.func81,Tryz.ntmps81
 go_upto_region 1 with (fail)
 generalize ((w.alloc (.cells #[.slice Ae ne ce,.slice Aa na ca] 42)).alloc (.cells #[.int .i64 0,.int .i64 0] 188))=w0 at *
 generalize hbw:w.heap.size=bw at *
 have HBW:=Lib.hid hbw
 clear hbw
 obtain ⟨d0,d1⟩:_∧_:=zaz k0
 have x0:=fun y:Xt w0=>y.cell d0
 refine zax [] [0,1,2,3,4,5,6,7,8,9] 10 [11,12] (fun w'=>∃ y:Xt w0,w'=y.1) (by as_aux_lemma=>kernel_rfl) (by as_aux_lemma=>kernel_rfl) ⟨⟨w0.drew,(Below.refl _ _).drew⟩,rfl⟩ ?_
 simp only [zad,zac,zaa,zX1,zX2,zX3]
 refine wpQuiet_nil ?_
 show wpQuiet _ _ _ _ _ _
 repeat (go_big_quiet_step (first | (go_at_call 148;exact Xt.calls_same (zdv _ _ _))))
 refine wpQuiet_nil ?_
 intro w1 hx
 have hb1:=Xt.below hx
 clear x0 hx
 go_upto_region 2 with (go_at_call 147;refine (first2 _ _ _).mono ?_;rintro e w' ⟨he,rfl⟩;rw [HE3.out] at he;subst he)
 refine zab ?_
 have HB2:∀ o,Below w0.heap.size w0 (w1.alloc o):=fun o=>hb1.alloc hb1.size o
 generalize hw2:w1.alloc _=w2
 have hb2:Below w0.heap.size w0 w2:=by rw [← hw2];exact HB2 _
 replace d0:=zat hb2 d0
 replace d1:=zat hb2 d1
 replace k1:=blk hb2 k1
 replace HR1:=Lib.hid (HR1.out.below (hb2.mono (by omega)))
 replace HR2:=Lib.hid (HR2.out.below (hb2.mono (by omega)))
 replace HB:=Lib.hid (HB.out.trans (hb2.mono (by omega)))
 replace hs:=Nat.le_trans hs hb2.size
 clear HB2 hb2 hw2 HE3 hb1 k0
 by_cases hE:E1=0
 · have hE':(E1 != 0)=false:=by simp [hE]
   have HVV:Hid (V=if V1=0 then (if 30<na then 8 else V2) else V1):=by rw [Hid,HV.out,if_pos hE]
   clear hE HV
   go_wp2
   go_loopw [30] (fun u wr=>zkd w2 nmE evs ne V1 u wr) (fun u _=>ne - (intOf u).toNat)
   case atStart=>exact ⟨0,Nat.zero_le _,rfl,HV1.out,Below.refl _ _⟩
   case round =>
    clear HV1
    obtain ⟨k,hk,rfl,hgo,hb⟩:=hrel
    have HGO:=Lib.hid hgo
    have HBK:=Lib.hid hb
    have hr1:=HR1.out.below (hb.mono (by omega))
    have hr2:=HR2.out.below (hb.mono (by omega))
    have hsk:=hb.size
    replace d0:=zat hb d0
    replace d1:=zat hb d1
    replace k1:=blk hb k1
    clear hgo hb
    by_cases hlt:k<ne
    · have hkl:k<evs.length:=by rw [HL1.out];exact hlt
      obtain ⟨s,hev⟩:∃ ev,evs[k]?=some ev:=⟨_,List.getElem?_eq_getElem hkl⟩
      obtain ⟨bb,off,rfl,hbB,z0⟩:=hr1.at_ (k:=k) (u:=.string s) (by simp [strCells,hev])
      have HSV:=Lib.hid hev
      have hz9:=HZ.out s (List.mem_of_getElem? hev)
      have hrt:=zi3 hr1 k
      have HTL:Hid ((evs.take k).length=k):=by rw [Hid,List.length_take];omega
      have hkc:k≤ce:=by omega
      obtain ⟨bn,hbn⟩:∃ b,za3 s=b:=⟨_,rfl⟩
      obtain ⟨bt,hbt⟩:∃ b,zcu (evs.take k) s=b:=⟨_,rfl⟩
      have NM:=fun W=>ttName_val s bn hbn (by omega) W
      have TX:=fun (y:Xt wr) (c:Nat)=>zda (some ⟨bb,off,none⟩) k c _ (evs.take k) s bt hbt y.1 (by omega) HTL.out (hrt.below (y.2.mono (by omega)))
      obtain ⟨er,her⟩:∃ er,zam [zag bn 4,zag (!bt) 5]=er:=⟨_,rfl⟩
      have HER:Hid (nmE (evs.take k) s=er):=by rw [Hid,nmE,hbn,hbt,her]
      have HEF:=Lib.hid her
      clear hkl hbn hbt her hev hrt
      go_upto_region 7 with (fail)
      have x0:=fun y:Xt wr=>y.cell d0
      refine zax [] [0,1,2,3,4,5,6,7,8,9,10] 11 [12,13] (fun w'=>∃ y:Xt wr,w'=y.1) (by as_aux_lemma=>kernel_rfl) (by as_aux_lemma=>kernel_rfl) ⟨⟨wr.drew,(Below.refl _ _).drew⟩,rfl⟩ ?_
      simp only [zad,zac,zaa,zX1,zX2,zX3]
      refine wpQuiet_nil ?_
      show wpQuiet _ _ _ _ _ _
      repeat (go_big_quiet_step (first | (go_at_call 149;exact Xt.calls (NM _)) | (go_at_call 148;exact Xt.calls_same (zdv _ _ _)) | (go_at_call 150;exact Xt.calls_same (TX _ _))))
      refine wpQuiet_nil ?_
      intro wb hx
      have hb3:=Xt.below hx
      clear x0 hx NM TX z0
      go_upto_region 8 with (go_at_call 147;refine (first2 _ _ _).mono ?_;rintro e w' ⟨he,rfl⟩;rw [HEF.out] at he;subst he)
      refine zab ?_
      have HB5:∀ o,Below wr.heap.size wr (wb.alloc o):=fun o=>hb3.alloc hb3.size o
      generalize hw5:wb.alloc _=w5
      have hb5:Below wr.heap.size wr w5:=by rw [← hw5];exact HB5 _
      replace d0:=zat hb5 d0
      replace d1:=zat hb5 d1
      replace k1:=blk hb5 k1
      have HB6:=Lib.hid (HBK.out.trans (hb5.mono hsk))
      clear HB5 hb5 hw5 hb3 HBK HEF hr1 hr2
      by_cases h0:er=0
      · have h0':(er != 0)=false:=by simp [h0]
        have HN:=Lib.hid (zc1 HSV.out HGO.out (HER.out.trans h0))
        clear h0
        go_wp2
        go_roundw
        case rel=>exact ⟨k+1,by omega,by go_num,HN.out,HB6.out⟩
        case measure=>simp [intOf];omega
      · have h0':(er != 0)=true:=by simp [h0]
        have HN:Hid (V1=er):=by rw [Hid,← HER.out];exact (zb3 HSV.out HGO.out (by rw [HER.out];exact h0)).symm
        have HV9:Hid (V=er):=by rw [Hid,HVV.out,HN.out,if_neg h0]
        obtain ⟨r2,r3,q2,q3⟩:=zbu k1
        clear h0
        go_wp2
        refine bodyPost_ret (v:=.tuple #[.agg #[.int .i64 1,.int .i64 k],.int .i64 er]) (by simp [results,Tryz.results81,go_sem,r2,r3]) rfl ⟨1,k,?_,?_⟩
        · rw [HV9.out]
        · rw [HBW.out]
          exact (HB.out.trans (HB6.out.mono (by omega))).trans (zal _ _ (Nat.le_succ _))
    · have HN1:Hid (V1=0):=zb9 (by rw [HL1.out];omega) HGO.out
      have HVW:Hid (V=if 30<na then 8 else V2):=by rw [Hid,HVV.out,HN1.out,if_pos rfl]
      have HB2:=Lib.hid (HB.out.trans (HBK.out.mono (by omega)))
      have hs2:=Nat.le_trans hs hsk
      have HR3:=Lib.hid hr2
      clear HN1 HVV HGO HBK HB hr1 hr2 HR1 HR2
      by_cases h30:30<na
      · have g30:(30:Int)<(na:Int):=by omega
        have HV9:Hid (V=8):=by rw [Hid,HVW.out,if_pos h30]
        obtain ⟨r2,r3,q2,q3⟩:=zbu k1
        clear h30
        go_wp2
        refine bodyPost_ret (v:=.tuple #[.agg #[.int .i64 0,.int .i64 0],.int .i64 8]) (by simp [results,Tryz.results81,go_sem,r2,r3]) rfl ⟨0,0,?_,?_⟩
        · rw [HV9.out]
        · rw [HBW.out]
          exact HB2.out.trans (zal _ _ (Nat.le_succ _))
      · have g30:¬ (30:Int)<(na:Int):=by omega
        have HV9:Hid (V=V2):=by rw [Hid,HVW.out,if_neg h30]
        clear h30 HVW
        obtain ⟨wq,rfl⟩:∃ wq,wq=wr:=⟨wr,rfl⟩
        go_wp2
        go_loopw [62] (fun u wx=>zkd wq (fun _ a=>actE ne a) acts na V2 u wx) (fun u _=>na - (intOf u).toNat)
        case atStart=>exact ⟨0,Nat.zero_le _,rfl,HV2.out,Below.refl _ _⟩
        case round =>
         clear HV2
         obtain ⟨j,hj,rfl,hgo,hb⟩:=hrel
         have HGO:=Lib.hid hgo
         have HBK:=Lib.hid hb
         have hr2:=HR3.out.below (hb.mono (by omega))
         have hsj:=hb.size
         replace d0:=zat hb d0
         replace d1:=zat hb d1
         replace k1:=blk hb k1
         clear hgo hb
         by_cases hlt2:j<na
         · have hkl:j<acts.length:=by rw [HL2.out];exact hlt2
           obtain ⟨ev,hev⟩:∃ ev,acts[j]?=some ev:=⟨_,List.getElem?_eq_getElem hkl⟩
           obtain ⟨bb,off,rfl,hbB,z0,z1,z2,z3,z4,z5⟩:=hr2.act hev
           have HSV:=Lib.hid hev
           obtain ⟨y0,y1,y2,y3,y4,y5⟩:=ev
           simp only at z0 z1 z2 z3 z4 z5
           have ka:=hA1 wr (.cells #[.int .i64 y0,.int .i64 y1,.int .i64 y2,.int .i64 y3,.int .i64 y4,.int .i64 y5] 122)
           have hba:=hB1 wr (.cells #[.int .i64 y0,.int .i64 y1,.int .i64 y2,.int .i64 y3,.int .i64 y4,.int .i64 y5] 122)
           have HBA:=Lib.hid (HBK.out.trans (hba.mono hsj))
           have hsa:=Nat.le_trans hsj hba.size
           replace d0:=zat hba d0
           replace d1:=zat hba d1
           replace k1:=blk hba k1
           obtain ⟨er,her⟩:∃ er,actE ne ⟨y0,y1,y2,y3,y4,y5⟩=er:=⟨_,rfl⟩
           have HER:Hid ((fun _ a=>actE ne a:List Act→Act→Int) (acts.take j) ⟨y0,y1,y2,y3,y4,y5⟩=er):=her
           have SC:=fun W=>ttAct_any W ne ⟨y0,y1,y2,y3,y4,y5⟩ (by omega)
           rw [her] at SC
           simp only [actV] at SC
           clear hba hkl HBK her hev
           go_upto_region 16 with (fail)
           clear z0 z1 z2 z3 z4 z5
           generalize wr.alloc (.cells #[.int .i64 y0,.int .i64 y1,.int .i64 y2,.int .i64 y3,.int .i64 y4,.int .i64 y5] 122)=wa at *
           generalize wr.heap.size=xb at *
           have c0:=(cell_of_row wa xb 0 _ _ _ ka).trans (by rfl:_=some (.int .i64 y0))
           have c1:=(cell_of_row wa xb 1 _ _ _ ka).trans (by rfl:_=some (.int .i64 y1))
           have c2:=(cell_of_row wa xb 2 _ _ _ ka).trans (by rfl:_=some (.int .i64 y2))
           have c3:=(cell_of_row wa xb 3 _ _ _ ka).trans (by rfl:_=some (.int .i64 y3))
           have c4:=(cell_of_row wa xb 4 _ _ _ ka).trans (by rfl:_=some (.int .i64 y4))
           have c5:=(cell_of_row wa xb 5 _ _ _ ka).trans (by rfl:_=some (.int .i64 y5))
           go_upto_region 17 with (go_at_call 151;refine (SC _).mono ?_;rintro e w' ⟨rfl,hb3⟩)
           rename_i wb
           replace d0:=zat hb3 d0
           replace d1:=zat hb3 d1
           replace k1:=blk hb3 k1
           have HB6:=Lib.hid (HBA.out.trans (hb3.mono hsa))
           clear hb3 HBA hsa SC c0 c1 c2 c3 c4 c5 ka
           by_cases h0:er=0
           · have h0':(er != 0)=false:=by simp [h0]
             have HN:=Lib.hid (zc1 HSV.out HGO.out (HER.out.trans h0))
             clear h0
             go_wp2
             go_roundw
             case rel=>exact ⟨j+1,by omega,by go_num,HN.out,HB6.out⟩
             case measure=>simp [intOf];omega
           · have h0':(er != 0)=true:=by simp [h0]
             have HN:Hid (V2=er):=by rw [Hid,← HER.out];exact (zb3 HSV.out HGO.out (by rw [HER.out];exact h0)).symm
             obtain ⟨r2,r3,q2,q3⟩:=zbu k1
             clear h0
             go_wp2
             refine bodyPost_ret (v:=.tuple #[.agg #[.int .i64 2,.int .i64 j],.int .i64 er]) (by simp [results,Tryz.results81,go_sem,r2,r3]) rfl ⟨2,j,?_,?_⟩
             · rw [HV9.out,HN.out]
             · rw [HBW.out]
               exact (HB2.out.trans (HB6.out.mono (by omega))).trans (zal _ _ (Nat.le_succ _))
         · have HN1:Hid (V2=0):=zb9 (by rw [HL2.out];omega) HGO.out
           obtain ⟨r2,r3,q2,q3⟩:=zbu k1
           go_wp2
           refine bodyPost_ret (v:=.tuple #[.agg #[.int .i64 0,.int .i64 0],.int .i64 0]) (by simp [results,Tryz.results81,go_sem,r2,r3]) rfl ⟨0,0,?_,?_⟩
           · rw [HV9.out,HN1.out]
           · rw [HBW.out]
             exact (HB2.out.trans (HBK.out.mono (by omega))).trans (zal _ _ (Nat.le_succ _))
 · have hE':(E1 != 0)=true:=by simp [hE]
   have HVV:Hid (V=E1):=by rw [Hid,HV.out,if_neg hE]
   obtain ⟨r2,r3,q2,q3⟩:=zbu k1
   clear hE HV
   go_wp2
   refine bodyPost_ret (v:=.tuple #[.agg #[.int .i64 0,.int .i64 0],.int .i64 E1]) (by simp [results,Tryz.results81,go_sem,r2,r3]) rfl ⟨0,0,?_,?_⟩
   · rw [HVV.out]
   · rw [HBW.out]
     exact HB.out.trans (zal _ _ (Nat.le_succ _))
end Go.Proofs.YtoodbfkbbchjiaaGreatDoor
