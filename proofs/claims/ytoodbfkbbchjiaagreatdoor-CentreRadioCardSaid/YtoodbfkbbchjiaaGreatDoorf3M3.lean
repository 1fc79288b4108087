import Derived.Test.YtoodbfkbbchjiaaGreatDoorf3M2
set_option maxRecDepth 100000
set_option maxHeartbeats 16000000
namespace Go.Proofs.YtoodbfkbbchjiaaGreatDoor
open Go.RowKit Go.Maps Go.WideMaps
theorem zj7 (w:World) (B:Nat) (L:Int) (A:Option Addr) (n c:Nat) (l:List (Sw)) (mE:List (Sw)→(Sw)→Int) (hl:l.length=n) (hr:Rd w B A (zbl l)) (hB:B≤w.heap.size) (hn:n≤1000) (hz:∀ x∈l,((fun x:Sw=>x.1) x).size≤1000) (pp:Value) (MORE:∀ (W:World),Below w.heap.size w W→∀ (k:Nat) (x:Sw),l[k]?=some x→Calls Tryz.prog 123 #[.int .i64 k,pp] W (zay W (mE (l.take k) x))) :
 Calls Tryz.prog 122 #[.int .i64 L,.slice A n c,.func (.func 121) #[] #[],.func (.func 123) #[] #[pp]] w (zce w (za2 (ndE (fun x:Sw=>x.1) mE) [] l)):=by
 have hmm:=@run_makeMap Tryz.prog
 have hnn:=fun W=>zh0 123 #[pp] W
 have k1:=hA1 w (.cells #[.int .i64 0,.int .i64 0] 180)
 have hb0:=hB1 w (.cells #[.int .i64 0,.int .i64 0] 180)
 have HSZ:Hid (w.heap.size+1=(w.alloc (.cells #[.int .i64 0,.int .i64 0] 180)).heap.size):=by simp [Hid]
 have hm0:((w.alloc (.cells #[.int .i64 0,.int .i64 0] 180)).alloc (.map #[] 0)).ownsMap (H:=Unit) Tryz.prog 9 (plainElem Tryz.prog 4) (w.heap.size+1) 0 (zck []):=by
  have:=World.ownsMap_made (H:=Unit) (w.alloc (.cells #[.int .i64 0,.int .i64 0] 180)) Tryz.prog 9 (plainElem Tryz.prog 4)
  simpa [zck,setOf] using this
 have hb9:Below (w.alloc (.cells #[.int .i64 0,.int .i64 0] 180)).heap.size (w.alloc (.cells #[.int .i64 0,.int .i64 0] 180)) ((w.alloc (.cells #[.int .i64 0,.int .i64 0] 180)).alloc (.map #[] 0)):=(Below.refl _ _).alloc (Nat.le_refl _) _
 have HB9:=Lib.hid hb9
 have HR:=Lib.hid (hr.below (hb0.mono hB))
 have HB:=Lib.hid hb0
 have HM:=Lib.hid hm0
 have HL:=Lib.hid hl
 have HZ:=Lib.hid hz
 obtain ⟨V,hV⟩:∃ V,za2 (ndE (fun x:Sw=>x.1) mE) [] l=V:=⟨_,rfl⟩
 rw [hV]
 have HV:=Lib.hid hV
 clear hb0 hr hl hV hm0 hz hb9
 go_enter Tryz.func122,Tryz.ntmps122
 go_wp2
 clear hmm
 generalize (w.alloc (.cells #[.int .i64 0,.int .i64 0] 180))=w0 at *
 generalize hbw:w.heap.size=bw at *
 have HBW:=Lib.hid hbw
 clear hbw
 have hs:bw+1≤w0.heap.size:=Nat.le_of_eq HSZ.out
 have hs9:w0.heap.size≤bw+1:=Nat.le_of_eq HSZ.out.symm
 go_loopw [18] (fun u wr=>NdRel w0 (ndE (fun x:Sw=>x.1) mE) l (fun x:Sw=>x.1) n V (bw+1) u wr) (fun u _=>n - (intOf u).toNat)
 case atStart=>exact ⟨0,Nat.zero_le _,rfl,HV.out,HM.out,HB9.out⟩
 case round =>
  clear HV HM HB9
  obtain ⟨k,hk,rfl,hgo,hmap,hb⟩:=hrel
  have HGO:=Lib.hid hgo
  have HBK:=Lib.hid hb
  have HMAP:=Lib.hid hmap
  have hr:=HR.out.below (hb.mono (by omega))
  have hsk:=hb.size
  replace k1:=blk hb k1
  clear hgo hb hmap
  by_cases hlt:k<n
  · have hkl:k<l.length:=by rw [HL.out];exact hlt
    obtain ⟨ev,hev⟩:∃ ev,l[k]?=some ev:=⟨_,List.getElem?_eq_getElem hkl⟩
    obtain ⟨bb,off,rfl,hbB,z0,z1⟩:=Rd.sw hr hev
    have HSV:=Lib.hid hev
    have hz9:=HZ.out ev (List.mem_of_getElem? hev)
    obtain ⟨s,i⟩:=ev
    simp only at z0 z1 hz9
    have ka:=hA1 wr (.cells #[.string s,.int .i64 i] 76)
    have hba:=hB1 wr (.cells #[.string s,.int .i64 i] 76)
    have HBA:=Lib.hid (HBK.out.trans (hba.mono hsk))
    have hsa:=Nat.le_trans hsk hba.size
    have hmapa:=zbp HMAP.out hba
    replace k1:=blk hba k1
    clear hba hkl hev HBK HMAP
    go_upto_region 5 with (fail)
    clear z0 z1
    generalize wr.alloc (.cells #[.string s,.int .i64 i] 76)=wa at *
    generalize wr.heap.size=xb at *
    obtain ⟨c0,c1⟩:_∧_:=zaz ka
    go_upto_region 6 with (go_at_call 121;refine (swName_val s i _).mono ?_;rintro e wn ⟨rfl,hbn⟩)
    replace k1:=blk hbn k1
    replace hmapa:=zbp hmapa hbn
    have HBN:=Lib.hid (HBA.out.trans (hbn.mono hsa))
    have hsn:=Nat.le_trans hsa hbn.size
    clear hbn HBA hsa ka c0 c1
    obtain ⟨bn,hbn⟩:∃ b,za3 s=b:=⟨_,rfl⟩
    obtain ⟨bt,hbt⟩:∃ b,zcu ((l.take k).map (fun x:Sw=>x.1)) s=b:=⟨_,rfl⟩
    have NM:=fun W=>zhl s bn hbn (by omega) W
    have xl:=fun y:Xt wn=>zi9 (zbp hmapa y.2) s hz9
    rw [hbt] at xl
    obtain ⟨en,hen⟩:∃ er,zam [zag bn 4,zag (!bt) 5]=er:=⟨_,rfl⟩
    have HEN:Hid (nmE ((l.take k).map (fun x:Sw=>x.1)) s=en):=by rw [Hid,nmE,hbn,hbt,hen]
    have HEF:=Lib.hid hen
    have HMP:=Lib.hid hmapa
    clear hbn hbt hen hmapa
    refine zax [] [0,1,2,3,4,5,6,7] 8 [9,10] (fun w'=>∃ y:Xt wn,w'=y.1) (by as_aux_lemma=>kernel_rfl) (by as_aux_lemma=>kernel_rfl) ⟨⟨wn.drew,(Below.refl _ _).drew⟩,rfl⟩ ?_
    simp only [zad,zac,zaa,zX1,zX2,zX3]
    refine wpQuiet_nil ?_
    show wpQuiet _ _ _ _ _ _
    repeat (go_big_quiet_step (first | (go_at_call 190;exact Xt.calls (NM _)) | (go_at_call 115;exact Xt.calls_same (zb1 _ _ _))))
    refine wpQuiet_nil ?_
    intro wb hx
    have hb3:=Xt.below hx
    clear hx NM xl
    go_upto_region 7 with (go_at_call 114;refine (zdo _ _ _).mono ?_;rintro e w' ⟨he,rfl⟩;rw [HEF.out] at he;subst he)
    refine zab ?_
    have HB5:∀ o,Below wn.heap.size wn (wb.alloc o):=fun o=>hb3.alloc hb3.size o
    generalize hw5:wb.alloc _=w5
    have hb5:Below wn.heap.size wn w5:=by rw [← hw5];exact HB5 _
    replace k1:=blk hb5 k1
    have HM5:=Lib.hid (zbp HMP.out hb5)
    have HB6:=Lib.hid (HBN.out.trans (hb5.mono hsn))
    have hs6:=Nat.le_trans hsn hb5.size
    clear HB5 hb5 hw5 hb3 HBN HEF HMP
    by_cases h0:en=0
    · have h0':(en == 0)=true:=by simp [h0]
      obtain ⟨em,hem⟩:∃ em,mE (l.take k) ⟨s,i⟩=em:=⟨_,rfl⟩
      have HER:Hid ((ndE (fun x:Sw=>x.1) mE) (l.take k) ⟨s,i⟩=em):=by
       rw [Hid,ndE,if_pos (HEN.out.trans h0)]
       exact hem
      have MR:=MORE w5 (HB.out.trans (HB6.out.mono (by omega))) k _ HSV.out
      rw [hem] at MR
      subst h0
      clear h0' hem
      go_upto_region 9 with (go_at_call 123;refine MR.mono ?_;rintro e w7 ⟨rfl,hb7⟩)
      replace k1:=blk hb7 k1
      have HM7:=Lib.hid (zbp HM5.out hb7)
      have HB7:=Lib.hid (HB6.out.trans (hb7.mono hs6))
      have hs7:=Nat.le_trans hs6 hb7.size
      clear hb7 HB6 HM5 MR hs6
      by_cases h1:em=0
      · have h1':(em != 0)=false:=by simp [h1]
        have HN:=Lib.hid (zc1 HSV.out HGO.out (HER.out.trans h1))
        have HST:=Lib.hid (zlj HSV.out (fun x:Sw=>x.1))
        have hmap:=HM7.out
        clear h1
        go_wp2_with (at_mapUpdate;refine stp ?_)
        unfold Stp
        refine wpList_mapUpdate_own _ rfl _ _ _ 277 rfl 9 4 (string_keyed Tryz.underlying9) Tryz.underlying277 (plainElem Tryz.prog 4) (bw+1) k _ rfl hmap (by unfold maxLen;omega) _ _ _ rfl rfl (keyOf_string_mk Tryz.underlying9 (s:=s) (by unfold maxLen;omega)) _ [] (plainElem_bool Tryz.underlying4 true) ?_
        intro w8 hmap8 hgrow8
        have HM8:Hid (w8.ownsMap (H:=Unit) Tryz.prog 9 (plainElem Tryz.prog 4) (bw+1) (k+1) (zck ((l.take (k+1)).map (fun x:Sw=>x.1)))):=by
         rw [Hid,HST.out]
         exact hmap8
        have HB8:=Lib.hid (HB7.out.grown hgrow8 (by omega) (fun j hj=>by rw [← Option.some.inj hj];omega))
        clear hmap hmap8 hgrow8
        go_wp2
        go_roundw
        case rel=>exact ⟨k+1,by omega,by go_num,HN.out,HM8.out,HB8.out⟩
        case measure=>simp [intOf];omega
      · have h1':(em != 0)=true:=by simp [h1]
        have HN:Hid (V=em):=by rw [Hid,← HER.out];exact (zb3 HSV.out HGO.out (by rw [HER.out];exact h1)).symm
        obtain ⟨r2,r3,q2,q3⟩:=zbu k1
        clear h1
        go_wp2
        refine bodyPost_ret (v:=.tuple #[.agg #[.int .i64 L,.int .i64 k],.int .i64 em]) (by simp [results,Tryz.results122,go_sem,r2,r3]) rfl ⟨L,k,?_,?_⟩
        · rw [HN.out]
        · rw [HBW.out]
          exact (HB.out.trans (HB7.out.mono (by omega))).trans (zal _ _ (Nat.le_refl _))
    · have h0':(en == 0)=false:=by simp [h0]
      have h0'':(en != 0)=true:=by simp [h0]
      have HER:Hid ((ndE (fun x:Sw=>x.1) mE) (l.take k) ⟨s,i⟩=en):=by
       rw [Hid,ndE,if_neg (by rw [HEN.out];exact h0)]
       exact HEN.out
      have HN:Hid (V=en):=by rw [Hid,← HER.out];exact (zb3 HSV.out HGO.out (by rw [HER.out];exact h0)).symm
      obtain ⟨r2,r3,q2,q3⟩:=zbu k1
      clear h0
      go_wp2
      refine bodyPost_ret (v:=.tuple #[.agg #[.int .i64 L,.int .i64 k],.int .i64 en]) (by simp [results,Tryz.results122,go_sem,r2,r3]) rfl ⟨L,k,?_,?_⟩
      · rw [HN.out]
      · rw [HBW.out]
        exact (HB.out.trans (HB6.out.mono (by omega))).trans (zal _ _ (Nat.le_refl _))
  · have HN1:Hid (V=0):=zb9 (by rw [HL.out];omega) HGO.out
    obtain ⟨r2,r3,q2,q3⟩:=zbu k1
    go_wp2
    refine bodyPost_ret (v:=.tuple #[.agg #[.int .i64 0,.int .i64 0],.int .i64 0]) (by simp [results,Tryz.results122,go_sem,r2,r3]) rfl ⟨0,0,?_,?_⟩
    · rw [HN1.out]
    · rw [HBW.out]
      exact (HB.out.trans (HBK.out.mono (by omega))).trans (zal _ _ (Nat.le_refl _))
theorem named_routes (w:World) (B:Nat) (L:Int) (A:Option Addr) (n c:Nat) (l:List (RtV)) (mE:List (RtV)→(RtV)→Int) (hl:l.length=n) (hr:Rd w B A (zd1 l)) (hB:B≤w.heap.size) (hn:n≤1000) (hz:∀ x∈l,((fun x:RtV=>x.nm) x).size≤1000) (pp:Value) (MORE:∀ (W:World),Below w.heap.size w W→∀ (k:Nat) (x:RtV),l[k]?=some x→Calls Tryz.prog 128 #[.int .i64 k,pp] W (zay W (mE (l.take k) x))) :
 Calls Tryz.prog 127 #[.int .i64 L,.slice A n c,.func (.func 126) #[] #[],.func (.func 128) #[] #[pp]] w (zce w (za2 (ndE (fun x:RtV=>x.nm) mE) [] l)):=by
 have hmm:=@run_makeMap Tryz.prog
 have hnn:=fun W=>zh0 128 #[pp] W
 have k1:=hA1 w (.cells #[.int .i64 0,.int .i64 0] 180)
 have hb0:=hB1 w (.cells #[.int .i64 0,.int .i64 0] 180)
 have HSZ:Hid (w.heap.size+1=(w.alloc (.cells #[.int .i64 0,.int .i64 0] 180)).heap.size):=by simp [Hid]
 have hm0:((w.alloc (.cells #[.int .i64 0,.int .i64 0] 180)).alloc (.map #[] 0)).ownsMap (H:=Unit) Tryz.prog 9 (plainElem Tryz.prog 4) (w.heap.size+1) 0 (zck []):=by
  have:=World.ownsMap_made (H:=Unit) (w.alloc (.cells #[.int .i64 0,.int .i64 0] 180)) Tryz.prog 9 (plainElem Tryz.prog 4)
  simpa [zck,setOf] using this
 have hb9:Below (w.alloc (.cells #[.int .i64 0,.int .i64 0] 180)).heap.size (w.alloc (.cells #[.int .i64 0,.int .i64 0] 180)) ((w.alloc (.cells #[.int .i64 0,.int .i64 0] 180)).alloc (.map #[] 0)):=(Below.refl _ _).alloc (Nat.le_refl _) _
 have HB9:=Lib.hid hb9
 have HR:=Lib.hid (hr.below (hb0.mono hB))
 have HB:=Lib.hid hb0
 have HM:=Lib.hid hm0
 have HL:=Lib.hid hl
 have HZ:=Lib.hid hz
 obtain ⟨V,hV⟩:∃ V,za2 (ndE (fun x:RtV=>x.nm) mE) [] l=V:=⟨_,rfl⟩
 rw [hV]
 have HV:=Lib.hid hV
 clear hb0 hr hl hV hm0 hz hb9
 go_enter Tryz.func127,Tryz.ntmps127
 go_wp2
 clear hmm
 generalize (w.alloc (.cells #[.int .i64 0,.int .i64 0] 180))=w0 at *
 generalize hbw:w.heap.size=bw at *
 have HBW:=Lib.hid hbw
 clear hbw
 have hs:bw+1≤w0.heap.size:=Nat.le_of_eq HSZ.out
 have hs9:w0.heap.size≤bw+1:=Nat.le_of_eq HSZ.out.symm
 go_loopw [18] (fun u wr=>NdRel w0 (ndE (fun x:RtV=>x.nm) mE) l (fun x:RtV=>x.nm) n V (bw+1) u wr) (fun u _=>n - (intOf u).toNat)
 case atStart=>exact ⟨0,Nat.zero_le _,rfl,HV.out,HM.out,HB9.out⟩
 case round =>
  clear HV HM HB9
  obtain ⟨k,hk,rfl,hgo,hmap,hb⟩:=hrel
  have HGO:=Lib.hid hgo
  have HBK:=Lib.hid hb
  have HMAP:=Lib.hid hmap
  have hr:=HR.out.below (hb.mono (by omega))
  have hsk:=hb.size
  replace k1:=blk hb k1
  clear hgo hb hmap
  by_cases hlt:k<n
  · have hkl:k<l.length:=by rw [HL.out];exact hlt
    obtain ⟨ev,hev⟩:∃ ev,l[k]?=some ev:=⟨_,List.getElem?_eq_getElem hkl⟩
    obtain ⟨bb,off,rfl,hbB,z0,z1,z2⟩:=Rd.rt hr hev
    have HSV:=Lib.hid hev
    have hz9:=HZ.out ev (List.mem_of_getElem? hev)
    obtain ⟨s,⟨As,ns,cs⟩,secs,⟨Ad,nd,cd⟩,needs⟩:=ev
    simp only at z0 z1 z2 hz9
    have ka:=hA1 wr (.cells #[.string s,.slice As ns cs,.slice Ad nd cd] 78)
    have hba:=hB1 wr (.cells #[.string s,.slice As ns cs,.slice Ad nd cd] 78)
    have HBA:=Lib.hid (HBK.out.trans (hba.mono hsk))
    have hsa:=Nat.le_trans hsk hba.size
    have hmapa:=zbp HMAP.out hba
    replace k1:=blk hba k1
    clear hba hkl hev HBK HMAP
    go_upto_region 5 with (fail)
    clear z0 z1 z2
    generalize wr.alloc (.cells #[.string s,.slice As ns cs,.slice Ad nd cd] 78)=wa at *
    generalize wr.heap.size=xb at *
    obtain ⟨c0,c1,c2⟩:_∧_∧_:=zba ka
    go_upto_region 6 with (go_at_call 126;refine (rtName_val s _ _ _).mono ?_;rintro e wn ⟨rfl,hbn⟩)
    replace k1:=blk hbn k1
    replace hmapa:=zbp hmapa hbn
    have HBN:=Lib.hid (HBA.out.trans (hbn.mono hsa))
    have hsn:=Nat.le_trans hsa hbn.size
    clear hbn HBA hsa ka c0 c1 c2
    obtain ⟨bn,hbn⟩:∃ b,za3 s=b:=⟨_,rfl⟩
    obtain ⟨bt,hbt⟩:∃ b,zcu ((l.take k).map (fun x:RtV=>x.nm)) s=b:=⟨_,rfl⟩
    have NM:=fun W=>zhl s bn hbn (by omega) W
    have xl:=fun y:Xt wn=>zi9 (zbp hmapa y.2) s hz9
    rw [hbt] at xl
    obtain ⟨en,hen⟩:∃ er,zam [zag bn 4,zag (!bt) 5]=er:=⟨_,rfl⟩
    have HEN:Hid (nmE ((l.take k).map (fun x:RtV=>x.nm)) s=en):=by rw [Hid,nmE,hbn,hbt,hen]
    have HEF:=Lib.hid hen
    have HMP:=Lib.hid hmapa
    clear hbn hbt hen hmapa
    refine zax [] [0,1,2,3,4,5,6,7] 8 [9,10] (fun w'=>∃ y:Xt wn,w'=y.1) (by as_aux_lemma=>kernel_rfl) (by as_aux_lemma=>kernel_rfl) ⟨⟨wn.drew,(Below.refl _ _).drew⟩,rfl⟩ ?_
    simp only [zad,zac,zaa,zX1,zX2,zX3]
    refine wpQuiet_nil ?_
    show wpQuiet _ _ _ _ _ _
    repeat (go_big_quiet_step (first | (go_at_call 190;exact Xt.calls (NM _)) | (go_at_call 115;exact Xt.calls_same (zb1 _ _ _))))
    refine wpQuiet_nil ?_
    intro wb hx
    have hb3:=Xt.below hx
    clear hx NM xl
    go_upto_region 7 with (go_at_call 114;refine (zdo _ _ _).mono ?_;rintro e w' ⟨he,rfl⟩;rw [HEF.out] at he;subst he)
    refine zab ?_
    have HB5:∀ o,Below wn.heap.size wn (wb.alloc o):=fun o=>hb3.alloc hb3.size o
    generalize hw5:wb.alloc _=w5
    have hb5:Below wn.heap.size wn w5:=by rw [← hw5];exact HB5 _
    replace k1:=blk hb5 k1
    have HM5:=Lib.hid (zbp HMP.out hb5)
    have HB6:=Lib.hid (HBN.out.trans (hb5.mono hsn))
    have hs6:=Nat.le_trans hsn hb5.size
    clear HB5 hb5 hw5 hb3 HBN HEF HMP
    by_cases h0:en=0
    · have h0':(en == 0)=true:=by simp [h0]
      obtain ⟨em,hem⟩:∃ em,mE (l.take k) ⟨s,⟨As,ns,cs⟩,secs,⟨Ad,nd,cd⟩,needs⟩=em:=⟨_,rfl⟩
      have HER:Hid ((ndE (fun x:RtV=>x.nm) mE) (l.take k) ⟨s,⟨As,ns,cs⟩,secs,⟨Ad,nd,cd⟩,needs⟩=em):=by
       rw [Hid,ndE,if_pos (HEN.out.trans h0)]
       exact hem
      have MR:=MORE w5 (HB.out.trans (HB6.out.mono (by omega))) k _ HSV.out
      rw [hem] at MR
      subst h0
      clear h0' hem
      go_upto_region 9 with (go_at_call 128;refine MR.mono ?_;rintro e w7 ⟨rfl,hb7⟩)
      replace k1:=blk hb7 k1
      have HM7:=Lib.hid (zbp HM5.out hb7)
      have HB7:=Lib.hid (HB6.out.trans (hb7.mono hs6))
      have hs7:=Nat.le_trans hs6 hb7.size
      clear hb7 HB6 HM5 MR hs6
      by_cases h1:em=0
      · have h1':(em != 0)=false:=by simp [h1]
        have HN:=Lib.hid (zc1 HSV.out HGO.out (HER.out.trans h1))
        have HST:=Lib.hid (zlj HSV.out (fun x:RtV=>x.nm))
        have hmap:=HM7.out
        clear h1
        go_wp2_with (at_mapUpdate;refine stp ?_)
        unfold Stp
        refine wpList_mapUpdate_own _ rfl _ _ _ 277 rfl 9 4 (string_keyed Tryz.underlying9) Tryz.underlying277 (plainElem Tryz.prog 4) (bw+1) k _ rfl hmap (by unfold maxLen;omega) _ _ _ rfl rfl (keyOf_string_mk Tryz.underlying9 (s:=s) (by unfold maxLen;omega)) _ [] (plainElem_bool Tryz.underlying4 true) ?_
        intro w8 hmap8 hgrow8
        have HM8:Hid (w8.ownsMap (H:=Unit) Tryz.prog 9 (plainElem Tryz.prog 4) (bw+1) (k+1) (zck ((l.take (k+1)).map (fun x:RtV=>x.nm)))):=by
         rw [Hid,HST.out]
         exact hmap8
        have HB8:=Lib.hid (HB7.out.grown hgrow8 (by omega) (fun j hj=>by rw [← Option.some.inj hj];omega))
        clear hmap hmap8 hgrow8
        go_wp2
        go_roundw
        case rel=>exact ⟨k+1,by omega,by go_num,HN.out,HM8.out,HB8.out⟩
        case measure=>simp [intOf];omega
      · have h1':(em != 0)=true:=by simp [h1]
        have HN:Hid (V=em):=by rw [Hid,← HER.out];exact (zb3 HSV.out HGO.out (by rw [HER.out];exact h1)).symm
        obtain ⟨r2,r3,q2,q3⟩:=zbu k1
        clear h1
        go_wp2
        refine bodyPost_ret (v:=.tuple #[.agg #[.int .i64 L,.int .i64 k],.int .i64 em]) (by simp [results,Tryz.results127,go_sem,r2,r3]) rfl ⟨L,k,?_,?_⟩
        · rw [HN.out]
        · rw [HBW.out]
          exact (HB.out.trans (HB7.out.mono (by omega))).trans (zal _ _ (Nat.le_refl _))
    · have h0':(en == 0)=false:=by simp [h0]
      have h0'':(en != 0)=true:=by simp [h0]
      have HER:Hid ((ndE (fun x:RtV=>x.nm) mE) (l.take k) ⟨s,⟨As,ns,cs⟩,secs,⟨Ad,nd,cd⟩,needs⟩=en):=by
       rw [Hid,ndE,if_neg (by rw [HEN.out];exact h0)]
       exact HEN.out
      have HN:Hid (V=en):=by rw [Hid,← HER.out];exact (zb3 HSV.out HGO.out (by rw [HER.out];exact h0)).symm
      obtain ⟨r2,r3,q2,q3⟩:=zbu k1
      clear h0
      go_wp2
      refine bodyPost_ret (v:=.tuple #[.agg #[.int .i64 L,.int .i64 k],.int .i64 en]) (by simp [results,Tryz.results127,go_sem,r2,r3]) rfl ⟨L,k,?_,?_⟩
      · rw [HN.out]
      · rw [HBW.out]
        exact (HB.out.trans (HB6.out.mono (by omega))).trans (zal _ _ (Nat.le_refl _))
  · have HN1:Hid (V=0):=zb9 (by rw [HL.out];omega) HGO.out
    obtain ⟨r2,r3,q2,q3⟩:=zbu k1
    go_wp2
    refine bodyPost_ret (v:=.tuple #[.agg #[.int .i64 0,.int .i64 0],.int .i64 0]) (by simp [results,Tryz.results127,go_sem,r2,r3]) rfl ⟨0,0,?_,?_⟩
    · rw [HN1.out]
    · rw [HBW.out]
      exact (HB.out.trans (HBK.out.mono (by omega))).trans (zal _ _ (Nat.le_refl _))
end Go.Proofs.YtoodbfkbbchjiaaGreatDoor
