import Derived.Test.YtfdmeojcopkaoaaGreatDoorf3K3
import Derived.Test.YtfdmeojcopkaoaaGreatDoorf3M5
set_option maxRecDepth 100000
set_option maxHeartbeats 16000000
namespace Go.Proofs.YtfdmeojcopkaoaaGreatDoor
open Go.RowKit Go.Maps Go.WideMaps
theorem zjg (w:World) (B:Nat) (L:Int) (A:Option Addr) (n c:Nat) (l:List (Sw)) (mE:List (Sw)→(Sw)→Int) (hl:l.length=n) (hr:Rd w B A (zbk l)) (hB:B≤w.heap.size) (hn:n≤1000) (hz:∀ x∈l,((fun x:Sw=>x.1) x).size≤1000) (pp:Value) (MORE:∀ (W:World),Below w.heap.size w W→∀ (k:Nat) (x:Sw),l[k]?=some x→Calls Tryz.prog 60 #[.int .i64 k,pp] W (zax W (mE (l.take k) x))) :
 Calls Tryz.prog 59 #[.int .i64 L,.slice A n c,.func (.func 58) #[] #[],.func (.func 60) #[] #[pp]] w (zcg w (za4 (ndE (fun x:Sw=>x.1) mE) [] l)):=by
 have hmm:=@run_makeMap Tryz.prog
 have hnn:=fun W=>zhg 60 #[pp] W
 have k1:=hA1 w (.cells #[.int .i64 0,.int .i64 0] 80)
 have hb0:=hB1 w (.cells #[.int .i64 0,.int .i64 0] 80)
 have HSZ:Hid (w.heap.size+1=(w.alloc (.cells #[.int .i64 0,.int .i64 0] 80)).heap.size):=by simp [Hid]
 have hm0:((w.alloc (.cells #[.int .i64 0,.int .i64 0] 80)).alloc (.map #[] 0)).ownsMap (H:=Unit) Tryz.prog 9 (plainElem Tryz.prog 4) (w.heap.size+1) 0 (zcl []):=by
  have:=World.ownsMap_made (H:=Unit) (w.alloc (.cells #[.int .i64 0,.int .i64 0] 80)) Tryz.prog 9 (plainElem Tryz.prog 4)
  simpa [zcl,setOf] using this
 have hb9:Below (w.alloc (.cells #[.int .i64 0,.int .i64 0] 80)).heap.size (w.alloc (.cells #[.int .i64 0,.int .i64 0] 80)) ((w.alloc (.cells #[.int .i64 0,.int .i64 0] 80)).alloc (.map #[] 0)):=(Below.refl _ _).alloc (Nat.le_refl _) _
 have HB9:=Lib.hid hb9
 have HR:=Lib.hid (hr.below (hb0.mono hB))
 have HB:=Lib.hid hb0
 have HM:=Lib.hid hm0
 have HL:=Lib.hid hl
 have HZ:=Lib.hid hz
 obtain ⟨V,hV⟩:∃ V,za4 (ndE (fun x:Sw=>x.1) mE) [] l=V:=⟨_,rfl⟩
 rw [hV]
 have HV:=Lib.hid hV
 clear hb0 hr hl hV hm0 hz hb9
 go_enter Tryz.func59,Tryz.ntmps59
 go_wp2
 clear hmm
 generalize (w.alloc (.cells #[.int .i64 0,.int .i64 0] 80))=w0 at *
 generalize hbw:w.heap.size=bw at *
 have HBW:=Lib.hid hbw
 clear hbw
 have hs:bw+1≤w0.heap.size:=Nat.le_of_eq HSZ.out
 have hs9:w0.heap.size≤bw+1:=Nat.le_of_eq HSZ.out.symm
 go_loopw [18] (fun u wr=>NdRel w0 (ndE (fun x:Sw=>x.1) mE) l (fun x:Sw=>x.1) n V (bw+1) u wr) (fun u _=>n - (intOf u).toNat)
 case atStart=>exact ⟨0,Nat.zero_le _,rfl,HV.out,HM.out,HB9.out⟩
 case round =>
  clear HV HM HB9
  obtain ⟨k,hk,rfl,hgo,hmap,hb⟩:=hrel
  have HGO:=Lib.hid hgo
  have HBK:=Lib.hid hb
  have HMAP:=Lib.hid hmap
  have hr:=HR.out.below (hb.mono (by omega))
  have hsk:=hb.size
  replace k1:=blk hb k1
  clear hgo hb hmap
  by_cases hlt:k<n
  · have hkl:k<l.length:=by rw [HL.out];exact hlt
    obtain ⟨ev,hev⟩:∃ ev,l[k]?=some ev:=⟨_,List.getElem?_eq_getElem hkl⟩
    obtain ⟨bb,off,rfl,hbB,z0,z1⟩:=Rd.sw hr hev
    have HSV:=Lib.hid hev
    have hz9:=HZ.out ev (List.mem_of_getElem? hev)
    obtain ⟨s,i⟩:=ev
    simp only at z0 z1 hz9
    have ka:=hA1 wr (.cells #[.string s,.int .i64 i] 68)
    have hba:=hB1 wr (.cells #[.string s,.int .i64 i] 68)
    have HBA:=Lib.hid (HBK.out.trans (hba.mono hsk))
    have hsa:=Nat.le_trans hsk hba.size
    have hmapa:=zbl HMAP.out hba
    replace k1:=blk hba k1
    clear hba hkl hev HBK HMAP
    go_upto_region 5 with (fail)
    clear z0 z1
    generalize wr.alloc (.cells #[.string s,.int .i64 i] 68)=wa at *
    generalize wr.heap.size=xb at *
    obtain ⟨c0,c1⟩:_∧_:=zay ka
    go_upto_region 6 with (go_at_call 58;refine (swName_val s i _).mono ?_;rintro e wn ⟨rfl,hbn⟩)
    replace k1:=blk hbn k1
    replace hmapa:=zbl hmapa hbn
    have HBN:=Lib.hid (HBA.out.trans (hbn.mono hsa))
    have hsn:=Nat.le_trans hsa hbn.size
    clear hbn HBA hsa ka c0 c1
    obtain ⟨bn,hbn⟩:∃ b,zba s=b:=⟨_,rfl⟩
    obtain ⟨bt,hbt⟩:∃ b,zcy ((l.take k).map (fun x:Sw=>x.1)) s=b:=⟨_,rfl⟩
    have NM:=fun W=>zg6 s bn hbn (by omega) W
    have xl:=fun y:Xt wn=>zij (zbl hmapa y.2) s hz9
    rw [hbt] at xl
    obtain ⟨en,hen⟩:∃ er,zam [zaf bn 4,zaf (!bt) 5]=er:=⟨_,rfl⟩
    have HEN:Hid (nmE ((l.take k).map (fun x:Sw=>x.1)) s=en):=by rw [Hid,nmE,hbn,hbt,hen]
    have HEF:=Lib.hid hen
    have HMP:=Lib.hid hmapa
    clear hbn hbt hen hmapa
    refine zaw [] [0,1,2,3,4,5,6,7] 8 [9,10] (fun w'=>∃ y:Xt wn,w'=y.1) (by as_aux_lemma=>kernel_rfl) (by as_aux_lemma=>kernel_rfl) ⟨⟨wn.drew,(Below.refl _ _).drew⟩,rfl⟩ ?_
    simp only [zad,zac,zaa,zX1,zX2,zX3]
    refine wpQuiet_nil ?_
    show wpQuiet _ _ _ _ _ _
    repeat (go_big_quiet_step (first | (go_at_call 117;exact Xt.calls (NM _)) | (go_at_call 52;exact Xt.calls_same (zb2 _ _ _))))
    refine wpQuiet_nil ?_
    intro wb hx
    have hb3:=Xt.below hx
    clear hx NM xl
    go_upto_region 7 with (go_at_call 51;refine (zdn _ _ _).mono ?_;rintro e w' ⟨he,rfl⟩;rw [HEF.out] at he;subst he)
    refine zab ?_
    have HB5:∀ o,Below wn.heap.size wn (wb.alloc o):=fun o=>hb3.alloc hb3.size o
    generalize hw5:wb.alloc _=w5
    have hb5:Below wn.heap.size wn w5:=by rw [← hw5];exact HB5 _
    replace k1:=blk hb5 k1
    have HM5:=Lib.hid (zbl HMP.out hb5)
    have HB6:=Lib.hid (HBN.out.trans (hb5.mono hsn))
    have hs6:=Nat.le_trans hsn hb5.size
    clear HB5 hb5 hw5 hb3 HBN HEF HMP
    by_cases h0:en=0
    · have h0':(en == 0)=true:=by simp [h0]
      obtain ⟨em,hem⟩:∃ em,mE (l.take k) ⟨s,i⟩=em:=⟨_,rfl⟩
      have HER:Hid ((ndE (fun x:Sw=>x.1) mE) (l.take k) ⟨s,i⟩=em):=by
       rw [Hid,ndE,if_pos (HEN.out.trans h0)]
       exact hem
      have MR:=MORE w5 (HB.out.trans (HB6.out.mono (by omega))) k _ HSV.out
      rw [hem] at MR
      subst h0
      clear h0' hem
      go_upto_region 9 with (go_at_call 60;refine MR.mono ?_;rintro e w7 ⟨rfl,hb7⟩)
      replace k1:=blk hb7 k1
      have HM7:=Lib.hid (zbl HM5.out hb7)
      have HB7:=Lib.hid (HB6.out.trans (hb7.mono hs6))
      have hs7:=Nat.le_trans hs6 hb7.size
      clear hb7 HB6 HM5 MR hs6
      by_cases h1:em=0
      · have h1':(em != 0)=false:=by simp [h1]
        have HN:=Lib.hid (zc0 HSV.out HGO.out (HER.out.trans h1))
        have HST:=Lib.hid (zkl HSV.out (fun x:Sw=>x.1))
        have hmap:=HM7.out
        clear h1
        go_wp2_with (at_mapUpdate;refine stp ?_)
        unfold Stp
        refine wpList_mapUpdate_own _ rfl _ _ _ 206 rfl 9 4 (string_keyed Tryz.underlying9) Tryz.underlying206 (plainElem Tryz.prog 4) (bw+1) k _ rfl hmap (by unfold maxLen;omega) _ _ _ rfl rfl (keyOf_string_mk Tryz.underlying9 (s:=s) (by unfold maxLen;omega)) _ [] (plainElem_bool Tryz.underlying4 true) ?_
        intro w8 hmap8 hgrow8
        have HM8:Hid (w8.ownsMap (H:=Unit) Tryz.prog 9 (plainElem Tryz.prog 4) (bw+1) (k+1) (zcl ((l.take (k+1)).map (fun x:Sw=>x.1)))):=by
         rw [Hid,HST.out]
         exact hmap8
        have HB8:=Lib.hid (HB7.out.grown hgrow8 (by omega) (fun j hj=>by rw [← Option.some.inj hj];omega))
        clear hmap hmap8 hgrow8
        go_wp2
        go_roundw
        case rel=>exact ⟨k+1,by omega,by go_num,HN.out,HM8.out,HB8.out⟩
        case measure=>simp [intOf];omega
      · have h1':(em != 0)=true:=by simp [h1]
        have HN:Hid (V=em):=by rw [Hid,← HER.out];exact (zb4 HSV.out HGO.out (by rw [HER.out];exact h1)).symm
        obtain ⟨r2,r3,q2,q3⟩:=zbr k1
        clear h1
        go_wp2
        refine bodyPost_ret (v:=.tuple #[.agg #[.int .i64 L,.int .i64 k],.int .i64 em]) (by simp [results,Tryz.results59,go_sem,r2,r3]) rfl ⟨L,k,?_,?_⟩
        · rw [HN.out]
        · rw [HBW.out]
          exact (HB.out.trans (HB7.out.mono (by omega))).trans (zal _ _ (Nat.le_refl _))
    · have h0':(en == 0)=false:=by simp [h0]
      have h0'':(en != 0)=true:=by simp [h0]
      have HER:Hid ((ndE (fun x:Sw=>x.1) mE) (l.take k) ⟨s,i⟩=en):=by
       rw [Hid,ndE,if_neg (by rw [HEN.out];exact h0)]
       exact HEN.out
      have HN:Hid (V=en):=by rw [Hid,← HER.out];exact (zb4 HSV.out HGO.out (by rw [HER.out];exact h0)).symm
      obtain ⟨r2,r3,q2,q3⟩:=zbr k1
      clear h0
      go_wp2
      refine bodyPost_ret (v:=.tuple #[.agg #[.int .i64 L,.int .i64 k],.int .i64 en]) (by simp [results,Tryz.results59,go_sem,r2,r3]) rfl ⟨L,k,?_,?_⟩
      · rw [HN.out]
      · rw [HBW.out]
        exact (HB.out.trans (HB6.out.mono (by omega))).trans (zal _ _ (Nat.le_refl _))
  · have HN1:Hid (V=0):=zcc (by rw [HL.out];omega) HGO.out
    obtain ⟨r2,r3,q2,q3⟩:=zbr k1
    go_wp2
    refine bodyPost_ret (v:=.tuple #[.agg #[.int .i64 0,.int .i64 0],.int .i64 0]) (by simp [results,Tryz.results59,go_sem,r2,r3]) rfl ⟨0,0,?_,?_⟩
    · rw [HN1.out]
    · rw [HBW.out]
      exact (HB.out.trans (HBK.out.mono (by omega))).trans (zal _ _ (Nat.le_refl _))
theorem named_routes (w:World) (B:Nat) (L:Int) (A:Option Addr) (n c:Nat) (l:List (RtV)) (mE:List (RtV)→(RtV)→Int) (hl:l.length=n) (hr:Rd w B A (zdy l)) (hB:B≤w.heap.size) (hn:n≤1000) (hz:∀ x∈l,((fun x:RtV=>x.nm) x).size≤1000) (pp:Value) (MORE:∀ (W:World),Below w.heap.size w W→∀ (k:Nat) (x:RtV),l[k]?=some x→Calls Tryz.prog 65 #[.int .i64 k,pp] W (zax W (mE (l.take k) x))) :
 Calls Tryz.prog 64 #[.int .i64 L,.slice A n c,.func (.func 63) #[] #[],.func (.func 65) #[] #[pp]] w (zcg w (za4 (ndE (fun x:RtV=>x.nm) mE) [] l)):=by
 have hmm:=@run_makeMap Tryz.prog
 have hnn:=fun W=>zhg 65 #[pp] W
 have k1:=hA1 w (.cells #[.int .i64 0,.int .i64 0] 80)
 have hb0:=hB1 w (.cells #[.int .i64 0,.int .i64 0] 80)
 have HSZ:Hid (w.heap.size+1=(w.alloc (.cells #[.int .i64 0,.int .i64 0] 80)).heap.size):=by simp [Hid]
 have hm0:((w.alloc (.cells #[.int .i64 0,.int .i64 0] 80)).alloc (.map #[] 0)).ownsMap (H:=Unit) Tryz.prog 9 (plainElem Tryz.prog 4) (w.heap.size+1) 0 (zcl []):=by
  have:=World.ownsMap_made (H:=Unit) (w.alloc (.cells #[.int .i64 0,.int .i64 0] 80)) Tryz.prog 9 (plainElem Tryz.prog 4)
  simpa [zcl,setOf] using this
 have hb9:Below (w.alloc (.cells #[.int .i64 0,.int .i64 0] 80)).heap.size (w.alloc (.cells #[.int .i64 0,.int .i64 0] 80)) ((w.alloc (.cells #[.int .i64 0,.int .i64 0] 80)).alloc (.map #[] 0)):=(Below.refl _ _).alloc (Nat.le_refl _) _
 have HB9:=Lib.hid hb9
 have HR:=Lib.hid (hr.below (hb0.mono hB))
 have HB:=Lib.hid hb0
 have HM:=Lib.hid hm0
 have HL:=Lib.hid hl
 have HZ:=Lib.hid hz
 obtain ⟨V,hV⟩:∃ V,za4 (ndE (fun x:RtV=>x.nm) mE) [] l=V:=⟨_,rfl⟩
 rw [hV]
 have HV:=Lib.hid hV
 clear hb0 hr hl hV hm0 hz hb9
 go_enter Tryz.func64,Tryz.ntmps64
 go_wp2
 clear hmm
 generalize (w.alloc (.cells #[.int .i64 0,.int .i64 0] 80))=w0 at *
 generalize hbw:w.heap.size=bw at *
 have HBW:=Lib.hid hbw
 clear hbw
 have hs:bw+1≤w0.heap.size:=Nat.le_of_eq HSZ.out
 have hs9:w0.heap.size≤bw+1:=Nat.le_of_eq HSZ.out.symm
 go_loopw [18] (fun u wr=>NdRel w0 (ndE (fun x:RtV=>x.nm) mE) l (fun x:RtV=>x.nm) n V (bw+1) u wr) (fun u _=>n - (intOf u).toNat)
 case atStart=>exact ⟨0,Nat.zero_le _,rfl,HV.out,HM.out,HB9.out⟩
 case round =>
  clear HV HM HB9
  obtain ⟨k,hk,rfl,hgo,hmap,hb⟩:=hrel
  have HGO:=Lib.hid hgo
  have HBK:=Lib.hid hb
  have HMAP:=Lib.hid hmap
  have hr:=HR.out.below (hb.mono (by omega))
  have hsk:=hb.size
  replace k1:=blk hb k1
  clear hgo hb hmap
  by_cases hlt:k<n
  · have hkl:k<l.length:=by rw [HL.out];exact hlt
    obtain ⟨ev,hev⟩:∃ ev,l[k]?=some ev:=⟨_,List.getElem?_eq_getElem hkl⟩
    obtain ⟨bb,off,rfl,hbB,z0,z1,z2⟩:=Rd.rt hr hev
    have HSV:=Lib.hid hev
    have hz9:=HZ.out ev (List.mem_of_getElem? hev)
    obtain ⟨s,⟨As,ns,cs⟩,secs,⟨Ad,nd,cd⟩,needs⟩:=ev
    simp only at z0 z1 z2 hz9
    have ka:=hA1 wr (.cells #[.string s,.slice As ns cs,.slice Ad nd cd] 70)
    have hba:=hB1 wr (.cells #[.string s,.slice As ns cs,.slice Ad nd cd] 70)
    have HBA:=Lib.hid (HBK.out.trans (hba.mono hsk))
    have hsa:=Nat.le_trans hsk hba.size
    have hmapa:=zbl HMAP.out hba
    replace k1:=blk hba k1
    clear hba hkl hev HBK HMAP
    go_upto_region 5 with (fail)
    clear z0 z1 z2
    generalize wr.alloc (.cells #[.string s,.slice As ns cs,.slice Ad nd cd] 70)=wa at *
    generalize wr.heap.size=xb at *
    obtain ⟨c0,c1,c2⟩:_∧_∧_:=zbc ka
    go_upto_region 6 with (go_at_call 63;refine (rtName_val s _ _ _).mono ?_;rintro e wn ⟨rfl,hbn⟩)
    replace k1:=blk hbn k1
    replace hmapa:=zbl hmapa hbn
    have HBN:=Lib.hid (HBA.out.trans (hbn.mono hsa))
    have hsn:=Nat.le_trans hsa hbn.size
    clear hbn HBA hsa ka c0 c1 c2
    obtain ⟨bn,hbn⟩:∃ b,zba s=b:=⟨_,rfl⟩
    obtain ⟨bt,hbt⟩:∃ b,zcy ((l.take k).map (fun x:RtV=>x.nm)) s=b:=⟨_,rfl⟩
    have NM:=fun W=>zg6 s bn hbn (by omega) W
    have xl:=fun y:Xt wn=>zij (zbl hmapa y.2) s hz9
    rw [hbt] at xl
    obtain ⟨en,hen⟩:∃ er,zam [zaf bn 4,zaf (!bt) 5]=er:=⟨_,rfl⟩
    have HEN:Hid (nmE ((l.take k).map (fun x:RtV=>x.nm)) s=en):=by rw [Hid,nmE,hbn,hbt,hen]
    have HEF:=Lib.hid hen
    have HMP:=Lib.hid hmapa
    clear hbn hbt hen hmapa
    refine zaw [] [0,1,2,3,4,5,6,7] 8 [9,10] (fun w'=>∃ y:Xt wn,w'=y.1) (by as_aux_lemma=>kernel_rfl) (by as_aux_lemma=>kernel_rfl) ⟨⟨wn.drew,(Below.refl _ _).drew⟩,rfl⟩ ?_
    simp only [zad,zac,zaa,zX1,zX2,zX3]
    refine wpQuiet_nil ?_
    show wpQuiet _ _ _ _ _ _
    repeat (go_big_quiet_step (first | (go_at_call 117;exact Xt.calls (NM _)) | (go_at_call 52;exact Xt.calls_same (zb2 _ _ _))))
    refine wpQuiet_nil ?_
    intro wb hx
    have hb3:=Xt.below hx
    clear hx NM xl
    go_upto_region 7 with (go_at_call 51;refine (zdn _ _ _).mono ?_;rintro e w' ⟨he,rfl⟩;rw [HEF.out] at he;subst he)
    refine zab ?_
    have HB5:∀ o,Below wn.heap.size wn (wb.alloc o):=fun o=>hb3.alloc hb3.size o
    generalize hw5:wb.alloc _=w5
    have hb5:Below wn.heap.size wn w5:=by rw [← hw5];exact HB5 _
    replace k1:=blk hb5 k1
    have HM5:=Lib.hid (zbl HMP.out hb5)
    have HB6:=Lib.hid (HBN.out.trans (hb5.mono hsn))
    have hs6:=Nat.le_trans hsn hb5.size
    clear HB5 hb5 hw5 hb3 HBN HEF HMP
    by_cases h0:en=0
    · have h0':(en == 0)=true:=by simp [h0]
      obtain ⟨em,hem⟩:∃ em,mE (l.take k) ⟨s,⟨As,ns,cs⟩,secs,⟨Ad,nd,cd⟩,needs⟩=em:=⟨_,rfl⟩
      have HER:Hid ((ndE (fun x:RtV=>x.nm) mE) (l.take k) ⟨s,⟨As,ns,cs⟩,secs,⟨Ad,nd,cd⟩,needs⟩=em):=by
       rw [Hid,ndE,if_pos (HEN.out.trans h0)]
       exact hem
      have MR:=MORE w5 (HB.out.trans (HB6.out.mono (by omega))) k _ HSV.out
      rw [hem] at MR
      subst h0
      clear h0' hem
      go_upto_region 9 with (go_at_call 65;refine MR.mono ?_;rintro e w7 ⟨rfl,hb7⟩)
      replace k1:=blk hb7 k1
      have HM7:=Lib.hid (zbl HM5.out hb7)
      have HB7:=Lib.hid (HB6.out.trans (hb7.mono hs6))
      have hs7:=Nat.le_trans hs6 hb7.size
      clear hb7 HB6 HM5 MR hs6
      by_cases h1:em=0
      · have h1':(em != 0)=false:=by simp [h1]
        have HN:=Lib.hid (zc0 HSV.out HGO.out (HER.out.trans h1))
        have HST:=Lib.hid (zkl HSV.out (fun x:RtV=>x.nm))
        have hmap:=HM7.out
        clear h1
        go_wp2_with (at_mapUpdate;refine stp ?_)
        unfold Stp
        refine wpList_mapUpdate_own _ rfl _ _ _ 206 rfl 9 4 (string_keyed Tryz.underlying9) Tryz.underlying206 (plainElem Tryz.prog 4) (bw+1) k _ rfl hmap (by unfold maxLen;omega) _ _ _ rfl rfl (keyOf_string_mk Tryz.underlying9 (s:=s) (by unfold maxLen;omega)) _ [] (plainElem_bool Tryz.underlying4 true) ?_
        intro w8 hmap8 hgrow8
        have HM8:Hid (w8.ownsMap (H:=Unit) Tryz.prog 9 (plainElem Tryz.prog 4) (bw+1) (k+1) (zcl ((l.take (k+1)).map (fun x:RtV=>x.nm)))):=by
         rw [Hid,HST.out]
         exact hmap8
        have HB8:=Lib.hid (HB7.out.grown hgrow8 (by omega) (fun j hj=>by rw [← Option.some.inj hj];omega))
        clear hmap hmap8 hgrow8
        go_wp2
        go_roundw
        case rel=>exact ⟨k+1,by omega,by go_num,HN.out,HM8.out,HB8.out⟩
        case measure=>simp [intOf];omega
      · have h1':(em != 0)=true:=by simp [h1]
        have HN:Hid (V=em):=by rw [Hid,← HER.out];exact (zb4 HSV.out HGO.out (by rw [HER.out];exact h1)).symm
        obtain ⟨r2,r3,q2,q3⟩:=zbr k1
        clear h1
        go_wp2
        refine bodyPost_ret (v:=.tuple #[.agg #[.int .i64 L,.int .i64 k],.int .i64 em]) (by simp [results,Tryz.results64,go_sem,r2,r3]) rfl ⟨L,k,?_,?_⟩
        · rw [HN.out]
        · rw [HBW.out]
          exact (HB.out.trans (HB7.out.mono (by omega))).trans (zal _ _ (Nat.le_refl _))
    · have h0':(en == 0)=false:=by simp [h0]
      have h0'':(en != 0)=true:=by simp [h0]
      have HER:Hid ((ndE (fun x:RtV=>x.nm) mE) (l.take k) ⟨s,⟨As,ns,cs⟩,secs,⟨Ad,nd,cd⟩,needs⟩=en):=by
       rw [Hid,ndE,if_neg (by rw [HEN.out];exact h0)]
       exact HEN.out
      have HN:Hid (V=en):=by rw [Hid,← HER.out];exact (zb4 HSV.out HGO.out (by rw [HER.out];exact h0)).symm
      obtain ⟨r2,r3,q2,q3⟩:=zbr k1
      clear h0
      go_wp2
      refine bodyPost_ret (v:=.tuple #[.agg #[.int .i64 L,.int .i64 k],.int .i64 en]) (by simp [results,Tryz.results64,go_sem,r2,r3]) rfl ⟨L,k,?_,?_⟩
      · rw [HN.out]
      · rw [HBW.out]
        exact (HB.out.trans (HB6.out.mono (by omega))).trans (zal _ _ (Nat.le_refl _))
  · have HN1:Hid (V=0):=zcc (by rw [HL.out];omega) HGO.out
    obtain ⟨r2,r3,q2,q3⟩:=zbr k1
    go_wp2
    refine bodyPost_ret (v:=.tuple #[.agg #[.int .i64 0,.int .i64 0],.int .i64 0]) (by simp [results,Tryz.results64,go_sem,r2,r3]) rfl ⟨0,0,?_,?_⟩
    · rw [HN1.out]
    · rw [HBW.out]
      exact (HB.out.trans (HBK.out.mono (by omega))).trans (zal _ _ (Nat.le_refl _))
end Go.Proofs.YtfdmeojcopkaoaaGreatDoor
namespace Go.Proofs.YtfdmeojcopkaoaaGreatDoor
open Go.RowKit
theorem zes {α:Type} {f g:List α→α→Int} (h:∀ pre x,f pre x=g pre x):∀ (l pre:List α),za4 f pre l=za4 g pre l
 | [],_=>rfl
 | x :: l,pre=>by rw [za4,za4,h,zes h l]
theorem nd_texts (l:List ByteArray):za4 (ndE (fun x:ByteArray=>x) (fun _ _=>0)) [] l=za4 nmE [] l:=zes (fun pre x=>by
 unfold ndE
 rw [show pre.map (fun x:ByteArray=>x)=pre from List.map_id' pre]
 by_cases h:nmE pre x=0
 · rw [if_pos h,h]
 · rw [if_neg h]) l []
theorem nd_switches (m:Nat) (l:List Sw):za4 (ndE (fun x:Sw=>x.1) (swM m)) [] l=za4 (swE m) [] l:=zes (fun pre x=>(swE_nd m pre x).symm) l []
theorem nd_routes (m:Nat) (sws:List Sw) (l:List RtV):za4 (ndE (fun x:RtV=>x.nm) (fun _ r=>rtE1 m sws r)) [] l=za4 (rtE m sws) [] l:=zes (fun pre x=>by
 show (if zam [zaf (zba x.nm) 4,zaf (!zcy (pre.map (·.nm)) x.nm) 5]=0 then rtE1 m sws x else zam [zaf (zba x.nm) 4,zaf (!zcy (pre.map (·.nm)) x.nm) 5])=zam [zaf (zba x.nm) 4,zaf (!zcy (pre.map (·.nm)) x.nm) 5,rtE1 m sws x]
 generalize zaf (zba x.nm) 4=a
 generalize zaf (!zcy (pre.map (·.nm)) x.nm) 5=b
 generalize rtE1 m sws x=c
 by_cases h:a=0 <;> by_cases g:b=0 <;> by_cases f:c=0 <;> simp [zam,h,g,f]) l []
theorem more_sw (w:World) (B x:Nat) (p:PlantV) (h:PlantAt w B p) (hS:PlantS p) (hB:B≤w.heap.size) (k0:w.heap[x]?=some (.cells #[p.ss.v,p.ts.v,p.ws.v,p.rs.v] 26 (0,0))) (k:Nat) (y:Sw) (hk:p.sws[k]?=some y) :
 Calls Tryz.prog 60 #[.int .i64 k,.pointer (some ⟨x,0,none⟩)] w (zax w (swM p.secs.length (p.sws.take k) y)):=by
 have SE:=zki w B p.ss.A p.ts.A p.ws.A p.rs.A p.ss.n p.ts.n p.ws.n p.rs.n p.ss.c p.ts.c p.ws.c p.rs.c p.sws h.sws.1 h.sws.2 hB (by rw [← h.sws.1];exact hS.sws.1) (by rw [← h.secs.1];exact hS.secs.1) h.cap.2.2.1 k y hk
 rw [← h.secs.1] at SE
 obtain ⟨V,hV⟩:∃ V,swM p.secs.length (p.sws.take k) y=V:=⟨_,rfl⟩
 rw [hV] at SE ⊢
 have c0:=(cell_of_row w _ 0 _ _ _ k0).trans (by rfl:_=some (.slice p.ss.A p.ss.n p.ss.c))
 have c1:=(cell_of_row w _ 1 _ _ _ k0).trans (by rfl:_=some (.slice p.ts.A p.ts.n p.ts.c))
 have c2:=(cell_of_row w _ 2 _ _ _ k0).trans (by rfl:_=some (.slice p.ws.A p.ws.n p.ws.c))
 have c3:=(cell_of_row w _ 3 _ _ _ k0).trans (by rfl:_=some (.slice p.rs.A p.rs.n p.rs.c))
 unfold zax at SE
 rw [h.secs.1] at SE
 clear h hS k0 hk hV hB
 go_enter Tryz.func60,Tryz.ntmps60
 go_wp2_with (go_at_call 61;refine SE.mono ?_;rintro e w9 ⟨rfl,hb9⟩)
 go_ret
 exact ⟨rfl,hb9⟩
theorem more_rt (w:World) (B x:Nat) (p:PlantV) (h:PlantAt w B p) (hS:PlantS p) (hB:B≤w.heap.size) (k0:w.heap[x]?=some (.cells #[p.ss.v,p.ts.v,p.ws.v,p.rs.v] 26 (0,0))) (k:Nat) (y:RtV) (hk:p.rts[k]?=some y) :
 Calls Tryz.prog 65 #[.int .i64 k,.pointer (some ⟨x,0,none⟩)] w (zax w (rtE1 p.secs.length p.sws y)):=by
 have hm:=List.mem_of_getElem? hk
 have SE:=routeErr_any w B p.ss.A p.ts.A p.ws.A p.rs.A p.ss.n p.ts.n p.ws.n p.rs.n p.ss.c p.ts.c p.ws.c p.rs.c p.rts p.sws h.rts.1 h.rts.2 h.sws.1 h.sws.2 hB (by rw [← h.secs.1];exact hS.secs.1) (by rw [← h.sws.1];exact hS.sws.1) k y hk (h.rt y hm).1 (h.rt y hm).2 (h.cap.2.2.2.2 y hm) (hS.rts.2 y hm).2.1 (hS.rts.2 y hm).2.2
 obtain ⟨V,hV⟩:∃ V,rtE1 p.secs.length p.sws y=V:=⟨_,rfl⟩
 rw [← h.secs.1,hV] at SE
 rw [hV]
 have c0:=(cell_of_row w _ 0 _ _ _ k0).trans (by rfl:_=some (.slice p.ss.A p.ss.n p.ss.c))
 have c1:=(cell_of_row w _ 1 _ _ _ k0).trans (by rfl:_=some (.slice p.ts.A p.ts.n p.ts.c))
 have c2:=(cell_of_row w _ 2 _ _ _ k0).trans (by rfl:_=some (.slice p.ws.A p.ws.n p.ws.c))
 have c3:=(cell_of_row w _ 3 _ _ _ k0).trans (by rfl:_=some (.slice p.rs.A p.rs.n p.rs.c))
 unfold zax at SE
 rw [h.secs.1] at SE
 clear h hS k0 hk hV hB hm
 go_enter Tryz.func65,Tryz.ntmps65
 go_wp2_with (go_at_call 66;refine SE.mono ?_;rintro e w9 ⟨rfl,hb9⟩)
 go_ret
 exact ⟨rfl,hb9⟩
theorem list_secs (w:World) (B x:Nat) (p:PlantV) (h:PlantAt w B p) (hS:PlantS p) (hB:B≤w.heap.size) (k0:w.heap[x]?=some (.cells #[p.ss.v,p.ts.v,p.ws.v,p.rs.v] 26 (0,0))) :
 Calls Tryz.prog 53 #[.pointer (some ⟨x,0,none⟩)] w (zcg w (za4 nmE [] p.secs)):=by
 have hx:x<w.heap.size:=(Array.getElem?_eq_some_iff.1 k0).1
 have hb0:=hB1 w (.cells #[.int .i64 0,.int .i64 0] 80)
 have k1:=hA1 w (.cells #[.int .i64 0,.int .i64 0] 80)
 have k2:=blk hb0 k0
 have H:=Lib.hid (h.keep hb0)
 have HB:=Lib.hid hb0
 have hs0:=hb0.size
 clear h hb0 k0
 go_enter Tryz.func53,Tryz.ntmps53
 go_upto_region 1 with (fail)
 generalize w.alloc (.cells #[.int .i64 0,.int .i64 0] 80)=w0 at *
 generalize hbw:w.heap.size=bw at *
 have HBW:=Lib.hid hbw
 clear hbw
 have c0:=(cell_of_row w0 _ 0 _ _ _ k2).trans (by rfl:_=some (.slice p.ss.A p.ss.n p.ss.c))
 obtain ⟨V,hV⟩:∃ V,za4 nmE [] p.secs=V:=⟨_,rfl⟩
 have HV:Hid (za4 nmE [] p.secs=V):=hV
 have NT:=zii w0 B 1 p.ss.A p.ss.n p.ss.c p.secs H.out.secs.1 H.out.secs.2 (by omega) (by rw [← H.out.secs.1];exact hS.secs.1) hS.secs.2
 rw [nd_texts,hV] at NT
 clear hV
 go_wp2_with (go_at_call 54;refine NT.mono ?_;rintro e w9 ⟨ma,mb,rfl,hb9⟩;replace k1:=blk hb9 k1;obtain ⟨r0,r1,q0,q1⟩:=zbr k1)
 refine bodyPost_ret (v:=.tuple #[.agg #[.int .i64 ma,.int .i64 mb],.int .i64 V]) (by simp [results,Tryz.results53,go_sem,r0,r1]) rfl ⟨ma,mb,?_,?_⟩
 · rw [HV.out]
 · rw [HBW.out]
   exact (HB.out.trans (hb9.mono hs0)).trans (zal _ _ (Nat.le_refl _))
theorem list_trains (w:World) (B x:Nat) (p:PlantV) (h:PlantAt w B p) (hS:PlantS p) (hB:B≤w.heap.size) (k0:w.heap[x]?=some (.cells #[p.ss.v,p.ts.v,p.ws.v,p.rs.v] 26 (0,0))) :
 Calls Tryz.prog 56 #[.pointer (some ⟨x,0,none⟩)] w (zcg w (za4 nmE [] p.trains)):=by
 have hx:x<w.heap.size:=(Array.getElem?_eq_some_iff.1 k0).1
 have hb0:=hB1 w (.cells #[.int .i64 0,.int .i64 0] 80)
 have k1:=hA1 w (.cells #[.int .i64 0,.int .i64 0] 80)
 have k2:=blk hb0 k0
 have H:=Lib.hid (h.keep hb0)
 have HB:=Lib.hid hb0
 have hs0:=hb0.size
 clear h hb0 k0
 go_enter Tryz.func56,Tryz.ntmps56
 go_upto_region 1 with (fail)
 generalize w.alloc (.cells #[.int .i64 0,.int .i64 0] 80)=w0 at *
 generalize hbw:w.heap.size=bw at *
 have HBW:=Lib.hid hbw
 clear hbw
 have c1:=(cell_of_row w0 _ 1 _ _ _ k2).trans (by rfl:_=some (.slice p.ts.A p.ts.n p.ts.c))
 obtain ⟨V,hV⟩:∃ V,za4 nmE [] p.trains=V:=⟨_,rfl⟩
 have HV:Hid (za4 nmE [] p.trains=V):=hV
 have NT:=zii w0 B 2 p.ts.A p.ts.n p.ts.c p.trains H.out.trains.1 H.out.trains.2 (by omega) (by rw [← H.out.trains.1];exact hS.trains.1) hS.trains.2
 rw [nd_texts,hV] at NT
 clear hV
 go_wp2_with (go_at_call 54;refine NT.mono ?_;rintro e w9 ⟨ma,mb,rfl,hb9⟩;replace k1:=blk hb9 k1;obtain ⟨r0,r1,q0,q1⟩:=zbr k1)
 refine bodyPost_ret (v:=.tuple #[.agg #[.int .i64 ma,.int .i64 mb],.int .i64 V]) (by simp [results,Tryz.results56,go_sem,r0,r1]) rfl ⟨ma,mb,?_,?_⟩
 · rw [HV.out]
 · rw [HBW.out]
   exact (HB.out.trans (hb9.mono hs0)).trans (zal _ _ (Nat.le_refl _))
theorem list_sws (w:World) (B x:Nat) (p:PlantV) (h:PlantAt w B p) (hS:PlantS p) (hB:B≤w.heap.size) (k0:w.heap[x]?=some (.cells #[p.ss.v,p.ts.v,p.ws.v,p.rs.v] 26 (0,0))) :
 Calls Tryz.prog 57 #[.pointer (some ⟨x,0,none⟩)] w (zcg w (za4 (swE p.secs.length) [] p.sws)):=by
 have hx:x<w.heap.size:=(Array.getElem?_eq_some_iff.1 k0).1
 have hb0:=hB1 w (.cells #[.int .i64 0,.int .i64 0] 80)
 have k1:=hA1 w (.cells #[.int .i64 0,.int .i64 0] 80)
 have k2:=blk hb0 k0
 have H:=Lib.hid (h.keep hb0)
 have HB:=Lib.hid hb0
 have hs0:=hb0.size
 clear h hb0 k0
 go_enter Tryz.func57,Tryz.ntmps57
 go_upto_region 1 with (fail)
 generalize w.alloc (.cells #[.int .i64 0,.int .i64 0] 80)=w0 at *
 generalize hbw:w.heap.size=bw at *
 have HBW:=Lib.hid hbw
 clear hbw
 have c2:=(cell_of_row w0 _ 2 _ _ _ k2).trans (by rfl:_=some (.slice p.ws.A p.ws.n p.ws.c))
 obtain ⟨V,hV⟩:∃ V,za4 (swE p.secs.length) [] p.sws=V:=⟨_,rfl⟩
 have HV:Hid (za4 (swE p.secs.length) [] p.sws=V):=hV
 have NT:=zjg w0 B 3 p.ws.A p.ws.n p.ws.c p.sws (swM p.secs.length) H.out.sws.1 H.out.sws.2 (by omega) (by rw [← H.out.sws.1];exact hS.sws.1) hS.sws.2 (.pointer (some ⟨x,0,none⟩)) (fun W hb k y hk=>more_sw W B x p (H.out.keep hb) hS (Nat.le_trans (by omega) hb.size) (blk hb k2) k y hk)
 rw [nd_switches,hV] at NT
 clear hV
 go_wp2_with (go_at_call 59;refine NT.mono ?_;rintro e w9 ⟨ma,mb,rfl,hb9⟩;replace k1:=blk hb9 k1;obtain ⟨r0,r1,q0,q1⟩:=zbr k1)
 refine bodyPost_ret (v:=.tuple #[.agg #[.int .i64 ma,.int .i64 mb],.int .i64 V]) (by simp [results,Tryz.results57,go_sem,r0,r1]) rfl ⟨ma,mb,?_,?_⟩
 · rw [HV.out]
 · rw [HBW.out]
   exact (HB.out.trans (hb9.mono hs0)).trans (zal _ _ (Nat.le_refl _))
theorem list_rts (w:World) (B x:Nat) (p:PlantV) (h:PlantAt w B p) (hS:PlantS p) (hB:B≤w.heap.size) (k0:w.heap[x]?=some (.cells #[p.ss.v,p.ts.v,p.ws.v,p.rs.v] 26 (0,0))) :
 Calls Tryz.prog 62 #[.pointer (some ⟨x,0,none⟩)] w (zcg w (za4 (rtE p.secs.length p.sws) [] p.rts)):=by
 have hx:x<w.heap.size:=(Array.getElem?_eq_some_iff.1 k0).1
 have hb0:=hB1 w (.cells #[.int .i64 0,.int .i64 0] 80)
 have k1:=hA1 w (.cells #[.int .i64 0,.int .i64 0] 80)
 have k2:=blk hb0 k0
 have H:=Lib.hid (h.keep hb0)
 have HB:=Lib.hid hb0
 have hs0:=hb0.size
 clear h hb0 k0
 go_enter Tryz.func62,Tryz.ntmps62
 go_upto_region 1 with (fail)
 generalize w.alloc (.cells #[.int .i64 0,.int .i64 0] 80)=w0 at *
 generalize hbw:w.heap.size=bw at *
 have HBW:=Lib.hid hbw
 clear hbw
 have c3:=(cell_of_row w0 _ 3 _ _ _ k2).trans (by rfl:_=some (.slice p.rs.A p.rs.n p.rs.c))
 obtain ⟨V,hV⟩:∃ V,za4 (rtE p.secs.length p.sws) [] p.rts=V:=⟨_,rfl⟩
 have HV:Hid (za4 (rtE p.secs.length p.sws) [] p.rts=V):=hV
 have NT:=named_routes w0 B 4 p.rs.A p.rs.n p.rs.c p.rts (fun _ r=>rtE1 p.secs.length p.sws r) H.out.rts.1 H.out.rts.2 (by omega) (by rw [← H.out.rts.1];exact hS.rts.1) (fun r hr=>(hS.rts.2 r hr).1) (.pointer (some ⟨x,0,none⟩)) (fun W hb k y hk=>more_rt W B x p (H.out.keep hb) hS (Nat.le_trans (by omega) hb.size) (blk hb k2) k y hk)
 rw [nd_routes,hV] at NT
 clear hV
 go_wp2_with (go_at_call 64;refine NT.mono ?_;rintro e w9 ⟨ma,mb,rfl,hb9⟩;replace k1:=blk hb9 k1;obtain ⟨r0,r1,q0,q1⟩:=zbr k1)
 refine bodyPost_ret (v:=.tuple #[.agg #[.int .i64 ma,.int .i64 mb],.int .i64 V]) (by simp [results,Tryz.results62,go_sem,r0,r1]) rfl ⟨ma,mb,?_,?_⟩
 · rw [HV.out]
 · rw [HBW.out]
   exact (HB.out.trans (hb9.mono hs0)).trans (zal _ _ (Nat.le_refl _))
end Go.Proofs.YtfdmeojcopkaoaaGreatDoor
