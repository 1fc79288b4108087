import Derived.Test.YtoodbfkbbchjiaaGreatDoorf3A4
import Derived.Test.YtoodbfkbbchjiaaGreatDoorf3X4
import Derived.Test.YtoodbfkbbchjiaaGreatDoorf3F3
import Derived.Test.YtoodbfkbbchjiaaGreatDoorf3Y1
set_option maxRecDepth 100000
set_option maxHeartbeats 16000000
namespace Go.Proofs.YtoodbfkbbchjiaaGreatDoor
open Go.RowKit
theorem bkName_any (s:ByteArray) (hs9:s.size≤1000000000) (w:World):Calls Tryz.prog 144 #[.string s] w fun e w'=>e=.returned (.bool (za3 s))∧Below w.heap.size w w':=by
 obtain ⟨tot,htot⟩:∃ t,zbm 0 s.data.toList=t:=⟨_,rfl⟩
 have HVF:Hid (tot=false→za3 s=false):=fun h=>by
  rw [za3,htot,h,Bool.and_false]
 have HV:Hid (za3 s=(decide (1≤s.size) && decide (s.size≤12) && tot)):=by rw [Hid,za3,htot]
 have HTT:=Lib.hid htot
 clear htot
 have kc:=Lib.run_convert_string_bytes (P:=Tryz.prog) w 9 149 5 s Tryz.underlying9 Tryz.underlying149 Tryz.underlying5
 go_enter Tryz.func144,Tryz.ntmps144
 go_wp2
 clear kc
 go_loop [3,4,5,9] (fun _ _ _ i=>∃ k:Nat,k≤s.size∧i=.int .i64 k∧zbm k (s.data.toList.drop k)=tot) (fun _ _ _ i=>s.size - (intOf i).toNat)
 case atStart=>exact ⟨0,Nat.zero_le _,rfl,by rw [List.drop_zero];exact HTT.out⟩
 case round =>
  obtain ⟨k,hk,rfl,he⟩:=hrel
  have HE:=Lib.hid he
  clear he
  by_cases hlt:k<s.size
  · have hkl:k<s.data.toList.length:=by simpa using hlt
    have HD:=Lib.hid (dropB hkl)
    have hcb:(s.data.toList.getD k 0).toNat≤255:=by have:=UInt8.toNat_lt (s.data.toList.getD k 0);omega
    have d0:=Lib.bytesWorld_cell w 5 s k hlt
    have HG:Hid ((okN k (s.data.toList.getD k 0).toNat && zbm (k+1) (s.data.toList.drop (k+1)))=tot):=by
     have:=HE.out
     rw [HD.out,zbm] at this
     exact this
    generalize (s.data.toList.getD k 0).toNat=c at *
    have hlti:(k:Int)<(s.size:Int):=by omega
    clear HE hkl
    have hcs:(c<45)∨(c=45)∨(45<c∧c<48)∨(48≤c∧c≤57)∨(57<c∧c<65)∨(65≤c∧c≤90)∨(90<c∧c<97)∨(97≤c∧c≤122)∨(122<c):=by omega
    rcases hcs with hcc | hcc | hcc | hcc | hcc | hcc | hcc | hcc | hcc <;> by_cases hk0:k=0
    all_goals
     first | have q0:(97:Int)≤(c:Int):=by omega | have q0:¬ (97:Int)≤(c:Int):=by omega
     first | have q1:(c:Int)≤122:=by omega | have q1:¬ (c:Int)≤122:=by omega
     first | have q2:(65:Int)≤(c:Int):=by omega | have q2:¬ (65:Int)≤(c:Int):=by omega
     first | have q3:(c:Int)≤90:=by omega | have q3:¬ (c:Int)≤90:=by omega
     first | have q5:(c:Int)<48:=by omega | have q5:¬ (c:Int)<48:=by omega
     first | have q6:(57:Int)<(c:Int):=by omega | have q6:¬ (57:Int)<(c:Int):=by omega
     first | (have q4:((c:Int) != 45)=false:=by rw [hcc];rfl) | have q4:((c:Int) != 45)=true:=by exact bne_iff_ne.2 (by omega)
     first | have e0:((k:Int) == 0)=false:=beq_eq_false_iff_ne.2 (by omega) | (have e0:((k:Int) == 0)=true:=by rw [hk0];rfl)
     by_cases hok:okN k c=true
     · have HN:Hid (zbm (k+1) (s.data.toList.drop (k+1))=tot):=by
        have:=HG.out
        rw [hok,Bool.true_and] at this
        exact this
       rw [okN] at hok
       simp at hok
       first
        | (exfalso;omega)
        | (clear hok hcc hk0
           go_wp2
           go_round
           case rel=>exact ⟨k+1,by omega,by go_num,HN.out⟩
           case measure=>simp [intOf];omega)
     · have HF:Hid (tot=false):=by
        have:=HG.out
        rw [Bool.eq_false_iff.2 hok,Bool.false_and] at this
        exact this.symm
       rw [okN] at hok
       simp at hok
       first
        | (exfalso;omega)
        | (clear hok hcc hk0
           go_wp2
           go_ret
           exact ⟨by rw [HVF.out HF.out];rfl,Lib.bytesWorld_below _ _ _⟩)
  · obtain rfl:k=s.size:=by omega
    have HT:Hid (tot=true):=by
     have:=HE.out
     rw [List.drop_eq_nil_iff.2 (by simp),zbm] at this
     exact this.symm
    clear HE
    by_cases h0:s.size=0
    · obtain rfl:s=⟨#[]⟩:=by
       cases s with
       | mk d =>
        have:d.size=0:=h0
        rw [Array.eq_empty_of_size_eq_zero this]
      go_wp2
      go_ret
      exact ⟨by rw [HV.out];rfl,Lib.bytesWorld_below _ _ _⟩
    · have hne0:¬ s.toList=[]:=fun h=>h0 (by
       rw [ByteArray.toList_eq] at h
       have:=congrArg List.length h
       simpa using this)
      have hne1:s.toList.isEmpty=false:=by
       rw [Bool.eq_false_iff]
       exact fun h=>hne0 (List.isEmpty_iff.1 h)
      by_cases h12:s.size≤12
      · have h12i:(s.size:Int)≤12:=by omega
        have HV2:Hid (za3 s=true):=by rw [Hid,HV.out,HT.out,decide_eq_true (show 1≤s.size by omega),decide_eq_true h12];rfl
        go_wp2
        go_ret
        exact ⟨by rw [HV2.out];rfl,Lib.bytesWorld_below _ _ _⟩
      · have h12i:¬ (s.size:Int)≤12:=by omega
        have HV2:Hid (za3 s=false):=by rw [Hid,HV.out,decide_eq_false h12,Bool.and_false,Bool.false_and]
        go_wp2
        go_ret
        exact ⟨by rw [HV2.out];rfl,Lib.bytesWorld_below _ _ _⟩
theorem bkName_val (s:ByteArray) (b:Bool) (hb:za3 s=b) (hs9:s.size≤1000000000) (w:World):Calls Tryz.prog 144 #[.string s] w fun e w'=>e=.returned (.bool b)∧Below w.heap.size w w':=by
 rw [← hb]
 exact bkName_any s hs9 w
theorem firstE_three (a b c d:Int):zam [a,b,c,d]=if zam [a,b,c]=0 then d else zam [a,b,c]:=by
 by_cases h:a=0 <;> by_cases g:b=0 <;> by_cases f:c=0 <;> simp [zam,h,g,f]
 intro h;rw [h]
theorem isSquare_val (n:Int) (b:Bool) (h:zaj n 0 20000000000=b) (w:World) :
 Calls Tryz.prog 146 #[.int .i64 n] w fun e w'=>e=.returned (.bool b)∧w=w':=by
 have WI:=fun W=>zc2 n 0 20000000000 b h W
 go_enter Tryz.func146,Tryz.ntmps146
 go_wp2_with (go_at_call 145;refine (WI _).mono ?_;rintro e w' ⟨rfl,rfl⟩)
 go_ret
 exact ⟨rfl,rfl⟩
theorem bkSystem_any (w:World) (s:Sy):Calls Tryz.prog 80 #[syV s] w (zay w (zj4 s)):=by
 obtain ⟨a,b,c⟩:=s
 unfold syV
 simp only
 obtain ⟨c0,c1,c2⟩:_∧_∧_:=zba (W:=(w.alloc (.cells #[.int .i64 a,.int .i64 b,.int .i64 c] 39))) (by rw [zae,if_pos rfl])
 have hb0:=hB1 w (.cells #[.int .i64 a,.int .i64 b,.int .i64 c] 39)
 have HB:=Lib.hid hb0
 have hs0:=hb0.size
 obtain ⟨q1,hq1⟩:∃ q,zaj a 1 3000=q:=⟨_,rfl⟩
 obtain ⟨q2,hq2⟩:∃ q,zaj b 0 500=q:=⟨_,rfl⟩
 obtain ⟨q3,hq3⟩:∃ q,zaj c 0 2000=q:=⟨_,rfl⟩
 have D1:=fun W=>zc2 a 1 3000 q1 hq1 W
 have D2:=fun W=>zc2 b 0 500 q2 hq2 W
 have D3:=fun W=>zc2 c 0 2000 q3 hq3 W
 obtain ⟨E,hE⟩:∃ E,zj4 ⟨a,b,c⟩=E:=⟨_,rfl⟩
 rw [hE]
 have HE:Hid (zam [zag (q1 && q2 && q3) 2,zag (decide (b≤a)) 9]=E):=by rw [Hid,← hE,← hq1,← hq2,← hq3];rfl
 clear hb0 hq1 hq2 hq3 hE
 cases q1 <;> cases q2
 all_goals
  have HE2:zam _=E:=HE.out
  simp only [Bool.true_and,Bool.false_and] at HE2
  have HE3:=Lib.hid HE2
  clear HE HE2
  go_enter Tryz.func80,Tryz.ntmps80
  go_upto_region 2 with (first | (go_at_call_of 145 (Value.int .i64 a);refine (D1 _).mono ?_;rintro e w' ⟨rfl,rfl⟩) | (go_at_call_of 145 (Value.int .i64 b);refine (D2 _).mono ?_;rintro e w' ⟨rfl,rfl⟩) | (go_at_call_of 145 (Value.int .i64 c);refine (D3 _).mono ?_;rintro e w' ⟨rfl,rfl⟩))
  generalize (w.alloc (.cells #[.int .i64 a,.int .i64 b,.int .i64 c] 39))=w0 at *
  have x0:=fun y:Xt w0=>y.cell c0
  have x1:=fun y:Xt w0=>y.cell c1
  refine zax [] [0,1,2,3,4,5,6,7] 8 [9,10] (fun w'=>∃ y:Xt w0,w'=y.1) (by as_aux_lemma=>kernel_rfl) (by as_aux_lemma=>kernel_rfl) ⟨⟨w0.drew,(Below.refl _ _).drew⟩,rfl⟩ ?_
  simp only [zad,zac,zaa,zX1,zX2,zX3]
  refine wpQuiet_nil ?_
  show wpQuiet _ _ _ _ _ _
  repeat (go_big_quiet_step (first | (go_at_call 143;exact Xt.calls_same (zib _ _ _))))
  refine wpQuiet_nil ?_
  intro w1 hx
  have hb1:=Xt.below hx
  go_wp2_with (go_at_call 142;refine (bkFirst2 _ _ _).mono ?_;rintro e w' ⟨he,rfl⟩;rw [HE3.out] at he;subst he)
  refine zab ?_
  go_wp2
  go_ret
  exact ⟨rfl,(HB.out.trans (hb1.mono hs0)).alloc (Nat.le_trans hs0 hb1.size) _⟩
theorem bkTrack_any (w:World) (B:Nat) (nm:ByteArray) (s:SlV) (l:List Pc) (h:zcs w B s l.length (zcj l)) (hB:B≤w.heap.size) (hn:l.length≤1000) (hs9:nm.size≤1000) :
 Calls Tryz.prog 79 #[zea nm s.A s.n s.c] w fun e w'=>∃ i:Int,e=.returned (.tuple #[.int .i64 i,.int .i64 (zeb nm l)])∧Below w.heap.size w w':=by
 obtain ⟨A,n,c⟩:=s
 obtain ⟨hl,hr⟩:=h
 simp only at hl hr
 unfold zea
 rw [hl] at hn
 have HL:=Lib.hid hl
 obtain ⟨c0,c1⟩:_∧_:=zaz (W:=(w.alloc (.cells #[.string nm,.slice A n c] 37))) (by rw [zae,if_pos rfl])
 have hb0:=hB1 w (.cells #[.string nm,.slice A n c] 37)
 have hr0:=hr.below (hb0.mono hB)
 have HR:=Lib.hid hr0
 have HB:=Lib.hid hb0
 have hs0:=hb0.size
 obtain ⟨q1,hq1⟩:∃ q,za3 nm=q:=⟨_,rfl⟩
 have NM:=fun W=>bkName_val nm q1 hq1 (by omega) W
 obtain ⟨E1,hE1⟩:∃ E,zam [zag q1 4,zag (decide (0<n)) 10,zag (decide ((n:Int)≤12)) 8]=E:=⟨_,rfl⟩
 have HE3:=Lib.hid hE1
 obtain ⟨V,hV⟩:∃ V,zeb nm l=V:=⟨_,rfl⟩
 rw [hV]
 have HV:Hid (V=if E1=0 then za2 (fun _ p=>pcE p) [] l else E1):=by
  rw [Hid,← hV,← hE1,← hq1,zeb]
  simp only [HL.out,Int.natCast_pos]
  exact firstE_three _ _ _ _
 clear hl hr hb0 hr0 hq1 hE1 hV
 go_enter Tryz.func79,Tryz.ntmps79
 go_upto_region 1 with (fail)
 generalize (w.alloc (.cells #[.string nm,.slice A n c] 37))=w0 at *
 have x0:=fun y:Xt w0=>y.cell c0
 have x1:=fun y:Xt w0=>y.cell c1
 refine zax [] [0,1,2,3,4,5,6,7,8,9,10,11,12,13] 14 [15,16] (fun w'=>∃ y:Xt w0,w'=y.1) (by as_aux_lemma=>kernel_rfl) (by as_aux_lemma=>kernel_rfl) ⟨⟨w0.drew,(Below.refl _ _).drew⟩,rfl⟩ ?_
 simp only [zad,zac,zaa,zX1,zX2,zX3]
 refine wpQuiet_nil ?_
 show wpQuiet _ _ _ _ _ _
 repeat (go_big_quiet_step (first | (go_at_call 144;exact Xt.calls (NM _)) | (go_at_call 143;exact Xt.calls_same (zib _ _ _))))
 refine wpQuiet_nil ?_
 intro w1 hx
 have hb1:=Xt.below hx
 replace c1:=zat hb1 c1
 have HR1:=Lib.hid (HR.out.below (hb1.mono (by omega)))
 have HB1:=Lib.hid (HB.out.trans (hb1.mono hs0))
 have hs1:=Nat.le_trans hs0 hb1.size
 generalize hbw:w.heap.size=bw at *
 have HBW:=Lib.hid hbw
 clear hbw hx x0 x1 c0 HR HB hs0 hb1 NM
 go_upto_region 2 with (go_at_call 142;refine (bkFirst3 _ _ _ _).mono ?_;rintro e w' ⟨he,rfl⟩;rw [HE3.out] at he;subst he)
 refine zab ?_
 have HB2:∀ o,Below bw w (w1.alloc o):=fun o=>HB1.out.alloc (by omega) o
 have C3:∀ o,(w1.alloc o).cell? ⟨bw,1,none⟩=some (.slice A n c):=fun o=>zb6 o c1
 have HR2:∀ o,Rd (w1.alloc o) B A (zcj l):=fun o=>HR1.out.below (((Below.refl _ _).alloc (Nat.le_refl _) o).mono (by omega))
 have HS2:∀ o,bw≤(w1.alloc o).heap.size:=fun o=>by simp;omega
 clear c1
 generalize hw2:w1.alloc _=w2
 have hb2:Below bw w w2:=by rw [← hw2];exact HB2 _
 have c1:w2.cell? ⟨bw,1,none⟩=some (.slice A n c):=by rw [← hw2];exact C3 _
 have hr2:Rd w2 B A (zcj l):=by rw [← hw2];exact HR2 _
 have hs2:bw≤w2.heap.size:=by rw [← hw2];exact HS2 _
 have HB3:=Lib.hid hb2
 have HR3:=Lib.hid hr2
 clear HB2 C3 HR2 HS2 hb2 hr2 hw2 HB1 HR1 hs1 HE3
 by_cases hE:E1=0
 · have hE':(E1 != 0)=false:=by simp [hE]
   obtain ⟨V2,hV2⟩:∃ V,za2 (fun _ p=>pcE p) [] l=V:=⟨_,rfl⟩
   have HV1:Hid (V=V2):=by rw [Hid,HV.out,if_pos hE];exact hV2
   have HV2:=Lib.hid hV2
   clear hE hV2 HV
   go_wp2
   go_loopw [29] (fun u wr=>zkd w2 (fun _ p=>pcE p) l n V2 u wr) (fun u _=>n - (intOf u).toNat)
   case atStart=>exact ⟨0,Nat.zero_le _,rfl,HV2.out,Below.refl _ _⟩
   case round =>
    obtain ⟨k,hk,rfl,hgo,hb⟩:=hrel
    have HGO:=Lib.hid hgo
    have HBK:=Lib.hid hb
    have hr:=HR3.out.below (hb.mono (by omega))
    have hsk:=hb.size
    clear hgo hb c1
    by_cases hlt:k<n
    · have hkl:k<l.length:=by rw [HL.out];exact hlt
      obtain ⟨ev,hev⟩:∃ ev,l[k]?=some ev:=⟨_,List.getElem?_eq_getElem hkl⟩
      obtain ⟨bb,off,rfl,hbB,z0,z1,z2,z3⟩:=Rd.pc hr hev
      have HSV:=Lib.hid hev
      obtain ⟨pl,pg,pm,pv⟩:=ev
      simp only at z0 z1 z2 z3
      obtain ⟨d0,d1,d2,d3⟩:_∧_∧_∧_:=zbo (W:=wr.alloc (.cells #[.int .i64 pl,.int .i64 pg,.int .i64 pm,.bool pv] 120)) (by rw [zae,if_pos rfl])
      have hba:=hB1 wr (.cells #[.int .i64 pl,.int .i64 pg,.int .i64 pm,.bool pv] 120)
      have HBA:=Lib.hid (HBK.out.trans (hba.mono hsk))
      obtain ⟨b1,hb1⟩:∃ b,zaj pl 1 10000000=b:=⟨_,rfl⟩
      obtain ⟨b2,hb2⟩:∃ b,zaj pg (-100) 100=b:=⟨_,rfl⟩
      obtain ⟨b3,hb3⟩:∃ b,zaj pm 0 20000000000=b:=⟨_,rfl⟩
      have W1:=fun W=>zc2 pl 1 10000000 b1 hb1 W
      have W2:=fun W=>zc2 pg (-100) 100 b2 hb2 W
      have W3:=fun W=>isSquare_val pm b3 hb3 W
      have HER:Hid (pcE ⟨pl,pg,pm,pv⟩=zag (b1 && b2 && b3) 2):=by rw [Hid,pcE,← hb1,← hb2,← hb3]
      clear hba hev hkl hr HBK hb1 hb2 hb3
      cases b1 <;> cases b2 <;> cases b3
      all_goals
       have HER2:pcE _=zag _ _:=HER.out
       simp only [Bool.true_and,Bool.false_and,zag,cond_true,cond_false] at HER2
       have HER3:=Lib.hid HER2
       clear HER HER2
       go_upto_region 7 with (fail)
       clear z0 z1 z2 z3
       generalize wr.alloc (.cells #[.int .i64 pl,.int .i64 pg,.int .i64 pm,.bool pv] 120)=wa at *
       first
        | (have HN:=Lib.hid (zc1 HSV.out HGO.out HER3.out)
           go_wp2_with (first | (go_at_call_of 145 (Value.int .i64 pl);refine (W1 _).mono ?_;rintro e w' ⟨rfl,rfl⟩) | (go_at_call_of 145 (Value.int .i64 pg);refine (W2 _).mono ?_;rintro e w' ⟨rfl,rfl⟩) | (go_at_call 146;refine (W3 _).mono ?_;rintro e w' ⟨rfl,rfl⟩))
           go_roundw
           case rel=>exact ⟨k+1,by omega,by go_num,HN.out,HBA.out⟩
           case measure=>simp [intOf];omega)
        | (have HN:Hid (V2=2):=by
            have h9:=zb3 (f:=fun _ p=>pcE p) HSV.out HGO.out (by rw [HER3.out];decide)
            rw [Hid,← h9]
            exact HER3.out
           go_wp2_with (first | (go_at_call_of 145 (Value.int .i64 pl);refine (W1 _).mono ?_;rintro e w' ⟨rfl,rfl⟩) | (go_at_call_of 145 (Value.int .i64 pg);refine (W2 _).mono ?_;rintro e w' ⟨rfl,rfl⟩) | (go_at_call 146;refine (W3 _).mono ?_;rintro e w' ⟨rfl,rfl⟩))
           go_ret2
           exact ⟨k,by rw [HV1.out,HN.out];rfl,by rw [HBW.out];exact HB3.out.trans (HBA.out.mono (by omega))⟩)
    · have HN:Hid (V2=0):=zb9 (by rw [HL.out];omega) HGO.out
      go_wp2
      go_ret2
      exact ⟨0,by rw [HV1.out,HN.out];rfl,by rw [HBW.out];exact HB3.out.trans (HBK.out.mono (by omega))⟩
 · have hE':(E1 != 0)=true:=by simp [hE]
   have HV1:Hid (V=E1):=by rw [Hid,HV.out,if_neg hE]
   clear hE
   go_wp2
   go_ret2
   exact ⟨0,by rw [HV1.out];rfl,by rw [HBW.out];exact HB3.out⟩
theorem zdl {W:World} {r t:Nat} {a0 a1 a2 a3 a4 a5 a6 a7 a8:Value} (h:W.heap[r]?=some (.cells #[a0,a1,a2,a3,a4,a5,a6,a7,a8] t (0,0))) :
 W.cell? ⟨r,0,none⟩=some a0∧W.cell? ⟨r,1,none⟩=some a1∧W.cell? ⟨r,2,none⟩=some a2∧W.cell? ⟨r,3,none⟩=some a3∧W.cell? ⟨r,4,none⟩=some a4∧W.cell? ⟨r,5,none⟩=some a5∧W.cell? ⟨r,6,none⟩=some a6∧W.cell? ⟨r,7,none⟩=some a7∧W.cell? ⟨r,8,none⟩=some a8:=by
 refine ⟨?_,?_,?_,?_,?_,?_,?_,?_,?_⟩ <;> rw [cell_of_row _ _ _ _ _ _ h] <;> rfl
theorem windows_val (v:VanV) (hl:v.vanes.length=v.vs.n) (hn:v.vs.n≤1000) (h0:0≤v.window) (h1:v.window≤12) (w:World):Calls Tryz.prog 363 #[.agg (za8 v).toArray] w (zay w (winN v)):=by
 obtain ⟨⟨A,n,c⟩,l,wi,tqo,pe,fi,mo,sl,er,ro⟩:=v
 show Calls Tryz.prog 363 #[.agg #[.slice A n c,.int .i64 wi,.int .i64 tqo,.int .i64 pe,.int .i64 fi,.int .i64 mo,.int .i64 sl,.int .i64 er,.bool ro]] w _
 simp only at hl hn h0 h1
 have HV:Hid (winN ⟨⟨A,n,c⟩,l,wi,tqo,pe,fi,mo,sl,er,ro⟩=if ro=true then (n:Int) else (n:Int) - wi+1):=by rw [Hid,winN];simp only [hl]
 have k0:=hA1 w (.cells #[.slice A n c,.int .i64 wi,.int .i64 tqo,.int .i64 pe,.int .i64 fi,.int .i64 mo,.int .i64 sl,.int .i64 er,.bool ro] 432)
 have hb0:=hB1 w (.cells #[.slice A n c,.int .i64 wi,.int .i64 tqo,.int .i64 pe,.int .i64 fi,.int .i64 mo,.int .i64 sl,.int .i64 er,.bool ro] 432)
 have HB:=Lib.hid hb0
 clear hb0 hl
 go_enter Tryz.func363,Tryz.ntmps363
 go_upto_region 1 with (fail)
 generalize w.alloc (.cells #[.slice A n c,.int .i64 wi,.int .i64 tqo,.int .i64 pe,.int .i64 fi,.int .i64 mo,.int .i64 sl,.int .i64 er,.bool ro] 432)=w0 at *
 generalize hbw:w.heap.size=bw at *
 have HBW:=Lib.hid hbw
 clear hbw
 obtain ⟨c0,c1,c2,c3,c4,c5,c6,c7,c8⟩:_∧_∧_∧_∧_∧_∧_∧_∧_:=zdl k0
 clear k0 c2 c3 c4 c5 c6 c7
 cases ro with
 | true =>
  go_wp2
  go_ret
  exact ⟨by rw [HV.out];rfl,by rw [HBW.out];exact HB.out⟩
 | false =>
  go_wp2
  go_ret
  refine ⟨?_,by rw [HBW.out];exact HB.out⟩
  rw [HV.out]
  go_num
theorem places_val (v:VanV) (x y p q:Int) (hp:x * v.tooth=p) (hq:y * v.tooth=q) (h0:0≤p) (h1:p≤1000000) (h2:0≤q) (h3:q≤1000000) (hf0:0≤v.first) (hf1:v.first≤999000000) (ht0:0≤v.tooth) (ht1:v.tooth≤1000) (w:World) :
 Calls Tryz.prog 314 #[.agg (za8 v).toArray,.int .i64 x,.int .i64 y] w fun e w'=>e=.returned (.agg #[.int .i64 (v.first+p),.int .i64 (v.first+q+v.tooth - 1)])∧Below w.heap.size w w':=by
 obtain ⟨⟨A,n,c⟩,l,wi,tqo,pe,fi,mo,sl,er,ro⟩:=v
 show Calls Tryz.prog 314 #[.agg #[.slice A n c,.int .i64 wi,.int .i64 tqo,.int .i64 pe,.int .i64 fi,.int .i64 mo,.int .i64 sl,.int .i64 er,.bool ro],.int .i64 x,.int .i64 y] w _
 simp only at hp hq hf0 hf1 ht0 ht1 ⊢
 have hb0:=hB2 w (.cells #[.slice A n c,.int .i64 wi,.int .i64 tqo,.int .i64 pe,.int .i64 fi,.int .i64 mo,.int .i64 sl,.int .i64 er,.bool ro] 432) (.cells #[.int .i64 0,.int .i64 0] 165)
 have k0:=hA2a w (.cells #[.slice A n c,.int .i64 wi,.int .i64 tqo,.int .i64 pe,.int .i64 fi,.int .i64 mo,.int .i64 sl,.int .i64 er,.bool ro] 432) (.cells #[.int .i64 0,.int .i64 0] 165)
 have k1:=hA2b w (.cells #[.slice A n c,.int .i64 wi,.int .i64 tqo,.int .i64 pe,.int .i64 fi,.int .i64 mo,.int .i64 sl,.int .i64 er,.bool ro] 432) (.cells #[.int .i64 0,.int .i64 0] 165)
 have HB:=Lib.hid hb0
 clear hb0
 go_enter Tryz.func314,Tryz.ntmps314
 go_upto_region 1 with (fail)
 generalize (w.alloc (.cells #[.slice A n c,.int .i64 wi,.int .i64 tqo,.int .i64 pe,.int .i64 fi,.int .i64 mo,.int .i64 sl,.int .i64 er,.bool ro] 432)).alloc (.cells #[.int .i64 0,.int .i64 0] 165)=w0 at *
 generalize hbw:w.heap.size=bw at *
 have HBW:=Lib.hid hbw
 clear hbw
 obtain ⟨c0,c1,c2,c3,c4,c5,c6,c7,c8⟩:_∧_∧_∧_∧_∧_∧_∧_∧_:=zdl k0
 clear k0 c0 c1 c3 c5 c6 c7 c8
 go_wp2_with (with_reducible refine zas 165 ?_)
 unfold Stp
 refine wpList_store_row rfl 165 _ _ rfl (bw+1) #[.int .i64 (fi+p),.int .i64 (fi+q+tqo - 1)] rfl rfl 165 _ k1 (by kernel_rfl) rfl (by kernel_rfl) ?_
 have kr:=setRow_heap w0 (bw+1) _ #[.int .i64 (fi+p),.int .i64 (fi+q+tqo - 1)] 165 (0,0) k1
 have hbr:Below bw w (w0.setRow (bw+1) #[.int .i64 (fi+p),.int .i64 (fi+q+tqo - 1)]):=below_setRow HB.out (by omega) _
 generalize w0.setRow (bw+1) #[.int .i64 (fi+p),.int .i64 (fi+q+tqo - 1)]=w2 at *
 go_wp2
 refine bodyPost_ret (v:=.agg #[.int .i64 (fi+p),.int .i64 (fi+q+tqo - 1)]) (results_cell_row rfl _ w2 (bw+1) 165 _ (0,0) _ rfl kr Tryz.underlying165 rfl (by kernel_rfl)) rfl ⟨rfl,by rw [HBW.out];exact hbr⟩
theorem zch (s:List Int):(zai (zdz s)).toArray.size=12:=by simp [zai,zdz]
theorem zfl (l:List Int):(zai l).toArray.all (·.oneCell')=true:=Array.all_eq_true_iff_forall_mem.2 (fun v hv=>zdi l v (by simpa using hv))
theorem seenL_is (s:List Int) (h:s.length≤12):splice (List.replicate 12 (Value.int .i64 0)) 0 (zai s)=zai (zdz s):=by
 unfold splice zdz
 rw [List.take_zero,List.nil_append,zc0,Nat.zero_add]
 apply List.ext_getElem
 · simp [zai];omega
 · intro j h1 h2
   have hj:j<12:=by simpa [zai] using h2
   by_cases e:j<s.length
   · rw [List.getElem_append_left (by simpa [zai] using e)]
     simp [zai,List.getD_eq_getElem?_getD,e]
   · rw [List.getElem_append_right (by simpa [zai] using Nat.le_of_not_lt e)]
     have h9:∀ k (hk:k<(List.replicate 12 (Value.int .i64 0)).length),(List.replicate 12 (Value.int .i64 0))[k]=Value.int .i64 0:=fun k hk=>by rw [List.getElem_replicate]
     rw [List.getElem_drop,h9]
     simp [zai,List.getD_eq_getElem?_getD,List.getElem?_eq_none (Nat.le_of_not_lt e)]
theorem seen_any (v:VanV) (A2:Option Addr) (m c2 B:Nat) (s:List Int) (hs:s.length=m) (hm:m≤12) (w:World) (hr:Rd w B A2 (zai s)) (hB:B≤w.heap.size):Calls Tryz.prog 362 #[.agg (za8 v).toArray,.slice A2 m c2] w fun e w'=>e=.returned (.agg (zai (zdz s)).toArray)∧Below w.heap.size w w':=by
 obtain ⟨⟨A,n,c⟩,l,wi,tqo,pe,fi,mo,sl,er,ro⟩:=v
 show Calls Tryz.prog 362 #[.agg #[.slice A n c,.int .i64 wi,.int .i64 tqo,.int .i64 pe,.int .i64 fi,.int .i64 mo,.int .i64 sl,.int .i64 er,.bool ro],.slice A2 m c2] w _
 have hb0:Below w.heap.size w (((w.alloc (.cells #[.slice A n c,.int .i64 wi,.int .i64 tqo,.int .i64 pe,.int .i64 fi,.int .i64 mo,.int .i64 sl,.int .i64 er,.bool ro] 432)).alloc (.cells #[.int .i64 0,.int .i64 0,.int .i64 0,.int .i64 0,.int .i64 0,.int .i64 0,.int .i64 0,.int .i64 0,.int .i64 0,.int .i64 0,.int .i64 0,.int .i64 0] 468)).alloc (.cells #[.int .i64 0,.int .i64 0,.int .i64 0,.int .i64 0,.int .i64 0,.int .i64 0,.int .i64 0,.int .i64 0,.int .i64 0,.int .i64 0,.int .i64 0,.int .i64 0] 468)):=(((Below.refl _ _).alloc (Nat.le_refl _) _).alloc (by simp) _).alloc (by simp;omega) _
 have k1:(((w.alloc (.cells #[.slice A n c,.int .i64 wi,.int .i64 tqo,.int .i64 pe,.int .i64 fi,.int .i64 mo,.int .i64 sl,.int .i64 er,.bool ro] 432)).alloc (.cells #[.int .i64 0,.int .i64 0,.int .i64 0,.int .i64 0,.int .i64 0,.int .i64 0,.int .i64 0,.int .i64 0,.int .i64 0,.int .i64 0,.int .i64 0,.int .i64 0] 468)).alloc (.cells #[.int .i64 0,.int .i64 0,.int .i64 0,.int .i64 0,.int .i64 0,.int .i64 0,.int .i64 0,.int .i64 0,.int .i64 0,.int .i64 0,.int .i64 0,.int .i64 0] 468)).heap[w.heap.size+1]?=some (.cells #[.int .i64 0,.int .i64 0,.int .i64 0,.int .i64 0,.int .i64 0,.int .i64 0,.int .i64 0,.int .i64 0,.int .i64 0,.int .i64 0,.int .i64 0,.int .i64 0] 468 (0,0)):=by rw [zae,if_neg (by simp),zae,if_pos (by simp)]
 have k2:(((w.alloc (.cells #[.slice A n c,.int .i64 wi,.int .i64 tqo,.int .i64 pe,.int .i64 fi,.int .i64 mo,.int .i64 sl,.int .i64 er,.bool ro] 432)).alloc (.cells #[.int .i64 0,.int .i64 0,.int .i64 0,.int .i64 0,.int .i64 0,.int .i64 0,.int .i64 0,.int .i64 0,.int .i64 0,.int .i64 0,.int .i64 0,.int .i64 0] 468)).alloc (.cells #[.int .i64 0,.int .i64 0,.int .i64 0,.int .i64 0,.int .i64 0,.int .i64 0,.int .i64 0,.int .i64 0,.int .i64 0,.int .i64 0,.int .i64 0,.int .i64 0] 468)).heap[w.heap.size+2]?=some (.cells (List.replicate 12 (.int .i64 0)).toArray 468 (0,0)):=by rw [zae,if_pos (by simp)];rfl
 have hr0:=hr.below (hb0.mono hB)
 have HB:=Lib.hid hb0
 have HS:=Lib.hid hs
 clear hb0 hr hs
 go_enter Tryz.func362,Tryz.ntmps362
 go_upto_region 2 with (fail)
 generalize ((w.alloc (.cells #[.slice A n c,.int .i64 wi,.int .i64 tqo,.int .i64 pe,.int .i64 fi,.int .i64 mo,.int .i64 sl,.int .i64 er,.bool ro] 432)).alloc (.cells #[.int .i64 0,.int .i64 0,.int .i64 0,.int .i64 0,.int .i64 0,.int .i64 0,.int .i64 0,.int .i64 0,.int .i64 0,.int .i64 0,.int .i64 0,.int .i64 0] 468)).alloc (.cells #[.int .i64 0,.int .i64 0,.int .i64 0,.int .i64 0,.int .i64 0,.int .i64 0,.int .i64 0,.int .i64 0,.int .i64 0,.int .i64 0,.int .i64 0,.int .i64 0] 468)=w0 at *
 generalize hbw:w.heap.size=bw at *
 have HBW:=Lib.hid hbw
 clear hbw
 go_wp2_with (with_reducible refine stp_copy ?_)
 unfold Stp
 have hs3:(Tryz.prog.info? 3).map (·.size)=some 1:=by kernel_rfl
 refine wpList_copy_splice rfl (.tmp 6) (.tmp 7) 32 32 rfl 3 Tryz.underlying32 hs3 (some ⟨bw+1+1,0,none⟩) A2 12 12 m c2 ?d1 ?d2 (bw+1+1) 0 (List.replicate 12 (.int .i64 0)) 468 k2 (zai s) ?p1 ?p2 ?p3 (zdi s) (bw+2) w0 (Below.refl _ _) (by omega) ?_
 case d1=>rfl
 case d2=>rfl
 case p1=>rw [zc0,HS.out];exact (Nat.min_eq_left hm).symm
 case p2 =>
  intro hpos
  refine ⟨rfl,?_⟩
  obtain ⟨sb,so,rfl,_,_⟩:=hr0.at_ (k:=0) (u:=(zai s)[0]) (List.getElem?_eq_getElem hpos)
  refine ⟨_,rfl,fun j u hj=>?_⟩
  obtain ⟨sb',so',he,_,hc⟩:=hr0 j u hj
  cases he
  by_cases e0:j=0
  · subst e0;simpa [Addr.add] using hc
  · simpa [Addr.add,e0] using hc
 case p3=>rw [zc0,HS.out,List.length_replicate];omega
 intro w1 h2 hb1
 have e2:(splice (List.replicate 12 (Value.int .i64 0)) 0 (zai s)).toArray=(zai (zdz s)).toArray:=by rw [seenL_is s (by rw [HS.out];exact hm)]
 have h3:=h2.out
 rw [e2] at h3
 have k1r:=(hb1.block (bw+1) (by omega)).trans k1
 have HB1:=Lib.hid (HB.out.trans (hb1.mono (by omega)))
 clear h2 hb1 e2 k1 k2 hr0
 go_wp2_with (with_reducible refine zaw 468 ?_)
 unfold Stp
 refine wpList_load_row rfl 468 _ rfl (bw+1+1) rfl 468 _ (0,0) _ h3 Tryz.underlying468 rfl (by rw [zch];kernel_rfl) ?_
 go_wp2_with (with_reducible refine zas 468 ?_)
 unfold Stp
 refine wpList_store_row rfl 468 _ _ rfl (bw+1) (zai (zdz s)).toArray rfl rfl 468 _ k1r (by rw [zch];kernel_rfl) (by rw [zch];rfl) (zfl _) ?_
 have kr:=setRow_heap w1 (bw+1) _ (zai (zdz s)).toArray 468 (0,0) k1r
 have hbr:Below bw w (w1.setRow (bw+1) (zai (zdz s)).toArray):=below_setRow HB1.out (by omega) _
 generalize w1.setRow (bw+1) (zai (zdz s)).toArray=w2 at *
 go_wp2
 refine bodyPost_ret (v:=.agg (zai (zdz s)).toArray) (results_cell_row rfl _ w2 (bw+1) 468 _ (0,0) _ rfl kr Tryz.underlying468 rfl (by rw [zch];kernel_rfl)) rfl ⟨rfl,by rw [HBW.out];exact hbr⟩
def zla (l:List Int) (i k:Nat):List Int:=(List.range 12).map fun j=>if j<k then l.getD ((i+j) % l.length) 0 else 0
theorem winK_len (l:List Int) (i k:Nat):(zla l i k).length=12:=by simp [zla]
theorem winK_zero (l:List Int) (i:Nat):zla l i 0=List.replicate 12 0:=by simp [zla,List.range,List.range.loop,List.replicate]
theorem winK_succ (l:List Int) (i k:Nat) (_:k<12):((zai (zla l i k)).toArray.setIfInBounds k (.int .i64 (l.getD ((i+k) % l.length) 0)))=(zai (zla l i (k+1))).toArray:=by
 apply Array.ext
 · simp [zai,zla]
 · intro j h1 h2
   have hj:j<12:=by simpa [zai,zla] using h2
   rw [Array.getElem_setIfInBounds (by simpa [zai,zla] using hj)]
   simp only [zai,zla,List.getElem_toArray,List.getElem_map,List.getElem_range]
   by_cases e:k=j
   · subst e
     simp
   · rw [if_neg e]
     have:(j<k+1)=(j<k):=by apply propext;omega
     simp [this]
theorem winL_is (v:VanV) (i m:Nat) (h:v.window=m):winL v i=zla v.vanes i m:=by
 unfold winL zla
 rw [h]
 congr 1
 funext k
 simp
theorem winK_at (l:List Int) (i k:Nat) (hk:k<12):(zai (zla l i k)).toArray[k]?=some (.int .i64 0):=by simp [zai,zla,hk]
def AtRel (w0:World) (bw:Nat) (l:List Int) (i m:Nat) (u10:Value) (wr:World):Prop:=∃ k:Nat,k≤m∧u10=.int .i64 k∧wr.heap[bw+2]?=some (.cells (zai (zla l i k)).toArray 468 (0,0))∧Below (bw+2) w0 wr
theorem at_any (v:VanV) (B i m:Nat) (hm:v.window=m) (hm12:m≤12) (hi:i≤1000) (hl0:0<v.vanes.length) (hl1:v.vanes.length≤1000) (w:World) (h:zcs w B v.vs v.vanes.length (zai v.vanes)) (hB:B≤w.heap.size):Calls Tryz.prog 364 #[.agg (za8 v).toArray,.int .i64 (i:Int)] w fun e w'=>e=.returned (.agg (zai (winL v i)).toArray)∧Below w.heap.size w w':=by
 rw [winL_is v i m hm]
 obtain ⟨⟨A,n,c⟩,l,wi,tqo,pe,fi,mo,sl,er,ro⟩:=v
 show Calls Tryz.prog 364 #[.agg #[.slice A n c,.int .i64 wi,.int .i64 tqo,.int .i64 pe,.int .i64 fi,.int .i64 mo,.int .i64 sl,.int .i64 er,.bool ro],.int .i64 (i:Int)] w _
 simp only at hm hl0 hl1 h ⊢
 subst hm
 obtain ⟨hln,hr⟩:=h
 simp only at hln hr
 subst hln
 have hb0:Below w.heap.size w (((w.alloc (.cells #[.slice A l.length c,.int .i64 m,.int .i64 tqo,.int .i64 pe,.int .i64 fi,.int .i64 mo,.int .i64 sl,.int .i64 er,.bool ro] 432)).alloc (.cells #[.int .i64 0,.int .i64 0,.int .i64 0,.int .i64 0,.int .i64 0,.int .i64 0,.int .i64 0,.int .i64 0,.int .i64 0,.int .i64 0,.int .i64 0,.int .i64 0] 468)).alloc (.cells #[.int .i64 0,.int .i64 0,.int .i64 0,.int .i64 0,.int .i64 0,.int .i64 0,.int .i64 0,.int .i64 0,.int .i64 0,.int .i64 0,.int .i64 0,.int .i64 0] 468)):=(((Below.refl _ _).alloc (Nat.le_refl _) _).alloc (by simp) _).alloc (by simp;omega) _
 have k0:(((w.alloc (.cells #[.slice A l.length c,.int .i64 m,.int .i64 tqo,.int .i64 pe,.int .i64 fi,.int .i64 mo,.int .i64 sl,.int .i64 er,.bool ro] 432)).alloc (.cells #[.int .i64 0,.int .i64 0,.int .i64 0,.int .i64 0,.int .i64 0,.int .i64 0,.int .i64 0,.int .i64 0,.int .i64 0,.int .i64 0,.int .i64 0,.int .i64 0] 468)).alloc (.cells #[.int .i64 0,.int .i64 0,.int .i64 0,.int .i64 0,.int .i64 0,.int .i64 0,.int .i64 0,.int .i64 0,.int .i64 0,.int .i64 0,.int .i64 0,.int .i64 0] 468)).heap[w.heap.size]?=some (.cells #[.slice A l.length c,.int .i64 m,.int .i64 tqo,.int .i64 pe,.int .i64 fi,.int .i64 mo,.int .i64 sl,.int .i64 er,.bool ro] 432 (0,0)):=by rw [zae,if_neg (by simp;omega),zae,if_neg (by simp),zae,if_pos rfl]
 have k1:(((w.alloc (.cells #[.slice A l.length c,.int .i64 m,.int .i64 tqo,.int .i64 pe,.int .i64 fi,.int .i64 mo,.int .i64 sl,.int .i64 er,.bool ro] 432)).alloc (.cells #[.int .i64 0,.int .i64 0,.int .i64 0,.int .i64 0,.int .i64 0,.int .i64 0,.int .i64 0,.int .i64 0,.int .i64 0,.int .i64 0,.int .i64 0,.int .i64 0] 468)).alloc (.cells #[.int .i64 0,.int .i64 0,.int .i64 0,.int .i64 0,.int .i64 0,.int .i64 0,.int .i64 0,.int .i64 0,.int .i64 0,.int .i64 0,.int .i64 0,.int .i64 0] 468)).heap[w.heap.size+1]?=some (.cells #[.int .i64 0,.int .i64 0,.int .i64 0,.int .i64 0,.int .i64 0,.int .i64 0,.int .i64 0,.int .i64 0,.int .i64 0,.int .i64 0,.int .i64 0,.int .i64 0] 468 (0,0)):=by rw [zae,if_neg (by simp),zae,if_pos (by simp)]
 have k2:(((w.alloc (.cells #[.slice A l.length c,.int .i64 m,.int .i64 tqo,.int .i64 pe,.int .i64 fi,.int .i64 mo,.int .i64 sl,.int .i64 er,.bool ro] 432)).alloc (.cells #[.int .i64 0,.int .i64 0,.int .i64 0,.int .i64 0,.int .i64 0,.int .i64 0,.int .i64 0,.int .i64 0,.int .i64 0,.int .i64 0,.int .i64 0,.int .i64 0] 468)).alloc (.cells #[.int .i64 0,.int .i64 0,.int .i64 0,.int .i64 0,.int .i64 0,.int .i64 0,.int .i64 0,.int .i64 0,.int .i64 0,.int .i64 0,.int .i64 0,.int .i64 0] 468)).heap[w.heap.size+2]?=some (.cells (zai (zla l i 0)).toArray 468 (0,0)):=by rw [zae,if_pos (by simp),winK_zero];rfl
 have hs0:w.heap.size+3≤(((w.alloc (.cells #[.slice A l.length c,.int .i64 m,.int .i64 tqo,.int .i64 pe,.int .i64 fi,.int .i64 mo,.int .i64 sl,.int .i64 er,.bool ro] 432)).alloc (.cells #[.int .i64 0,.int .i64 0,.int .i64 0,.int .i64 0,.int .i64 0,.int .i64 0,.int .i64 0,.int .i64 0,.int .i64 0,.int .i64 0,.int .i64 0,.int .i64 0] 468)).alloc (.cells #[.int .i64 0,.int .i64 0,.int .i64 0,.int .i64 0,.int .i64 0,.int .i64 0,.int .i64 0,.int .i64 0,.int .i64 0,.int .i64 0,.int .i64 0,.int .i64 0] 468)).heap.size:=by simp
 have hr0:=hr.below (hb0.mono hB)
 have HB:=Lib.hid hb0
 clear hb0 hr
 go_enter Tryz.func364,Tryz.ntmps364
 go_upto_region 2 with (fail)
 generalize ((w.alloc (.cells #[.slice A l.length c,.int .i64 m,.int .i64 tqo,.int .i64 pe,.int .i64 fi,.int .i64 mo,.int .i64 sl,.int .i64 er,.bool ro] 432)).alloc (.cells #[.int .i64 0,.int .i64 0,.int .i64 0,.int .i64 0,.int .i64 0,.int .i64 0,.int .i64 0,.int .i64 0,.int .i64 0,.int .i64 0,.int .i64 0,.int .i64 0] 468)).alloc (.cells #[.int .i64 0,.int .i64 0,.int .i64 0,.int .i64 0,.int .i64 0,.int .i64 0,.int .i64 0,.int .i64 0,.int .i64 0,.int .i64 0,.int .i64 0,.int .i64 0] 468)=w0 at *
 generalize hbw:w.heap.size=bw at *
 have HBW:=Lib.hid hbw
 clear hbw
 obtain ⟨c0,c1,_,_,_,_,_,_,_⟩:_∧_∧_∧_∧_∧_∧_∧_∧_:=zdl k0
 go_wp2
 go_loopw [10] (fun u10 wr=>AtRel w0 bw l i m u10 wr) (fun u10 _=>m - (intOf u10).toNat)
 case atStart=>exact ⟨0,Nat.zero_le _,rfl,k2,Below.refl _ _⟩
 case round =>
  obtain ⟨k,hk,rfl,h2,hb⟩:=hrel
  have HBR:=Lib.hid hb
  have hsr:=Nat.le_trans hs0 hb.size
  have kr:=(hb.block (bw+1) (by omega)).trans k1
  by_cases hlt:k<m
  · have hmod:(i+k) % l.length<l.length:=Nat.mod_lt _ hl0
    obtain ⟨vb,vo,rfl,hvb,z0⟩:=(hr0.below (hb.mono (by omega))).at_ (k:=(i+k) % l.length) (u:=.int .i64 (l.getD ((i+k) % l.length) 0)) (by simp only [zai,List.getElem?_map,List.getElem?_eq_getElem hmod,Option.map_some,List.getD_eq_getElem?_getD,Option.getD_some])
    obtain ⟨r,hr⟩:∃ r,(i+k) % l.length=r:=⟨_,rfl⟩
    rw [hr] at hmod z0
    have y0:=keptB hb (show bw<bw+2 by omega) c0
    have HN:=Lib.hid (winK_succ l i k (by omega))
    rw [hr] at HN
    generalize l.getD r 0=x at *
    have hmd:((i:Int)+(k:Int)).tmod (l.length:Int)=(r:Int):=by rw [← hr,← Int.natCast_add];exact (Int.ofNat_tmod _ _).symm
    clear hr
    generalize hln:l.length=n at *
    have HLN:=Lib.hid hln
    clear hln c0 c1 k0 k1 k2 hr0
    go_upto_region 5 with (fail)
    have x0:=fun y:Xt wr=>y.cell y0
    have x1:=fun y:Xt wr=>y.cell z0
    refine zak [15] (fun w'=>∃ y:Xt wr,w'=y.1) (by kernel_rfl) ⟨⟨wr.drew,(Below.refl _ _).drew⟩,rfl⟩ ?_
    refine zao [0,1,2,3,4,5,6,7,8,9,10,11,12,13,14] 1 rfl (by kernel_rfl) ?_
    simp only [zad,zac,zaa,zX1,zX2,zX3]
    repeat (go_big_quiet_step (fail))
    refine wpQuiet_nil ?_
    have hbd:Below wr.heap.size wr wr.drew:=(Below.refl _ _).drew
    show wpE _ _ _ _ _ _ _ _ _ wr.drew
    generalize wr.drew=we at *
    clear x0 x1
    have h2e:=(hbd.block _ (lt_of_block h2)).trans h2
    have y2:=frozen_of_row we (bw+2) k _ _ h2e
    have y3:=(cell_of_row we (bw+2) k _ _ _ h2e).trans (winK_at l i k (by omega))
    have HK9:=Lib.hid ((zdy h2e k (.int .i64 x)).trans (by rw [HN.out]))
    have HB9:=Lib.hid ((HBR.out.trans (hbd.mono (by omega))).setCell (p:=⟨bw+2,k,none⟩) (Nat.le_refl _) (.int .i64 x))
    clear h2 h2e y0 z0 hmd hbd kr hb
    refine zau rfl (by kernel_rfl) ?_
    simp only [zad,zac,zaa,zX1,zX2,zX3]
    go_wp2
    refine zab ?_
    go_wp2
    go_roundw
    case rel=>exact ⟨k+1,hlt,by go_num,HK9.out,HB9.out⟩
    case measure=>simp [intOf];omega
  · obtain rfl:k=m:=by omega
    clear c0 c1 k0 k1 k2 hr0 hb
    have HL:=Lib.hid (winK_len l i k)
    have hsz:(zai (zla l i k)).toArray.size=12:=by simp [zai,HL.out]
    have hca:=zfl (zla l i k)
    generalize hcae:(zai (zla l i k)).toArray=ca at *
    have HCA:=Lib.hid hcae
    clear hcae
    go_wp2_with (with_reducible refine zaw 468 ?_)
    unfold Stp
    refine wpList_load_row rfl 468 _ rfl (bw+1+1) rfl 468 _ (0,0) _ h2 Tryz.underlying468 rfl (by rw [hsz];kernel_rfl) ?_
    go_wp2_with (with_reducible refine zas 468 ?_)
    unfold Stp
    refine wpList_store_row rfl 468 _ _ rfl (bw+1) ca rfl rfl 468 _ kr (by rw [hsz];kernel_rfl) (by rw [hsz];rfl) hca ?_
    have k9:=setRow_heap wr (bw+1) _ ca 468 (0,0) kr
    have hbr:Below bw w (wr.setRow (bw+1) ca):=below_setRow (HB.out.trans (HBR.out.mono (by omega))) (by omega) _
    generalize wr.setRow (bw+1) ca=w2 at *
    go_wp2
    refine bodyPost_ret (v:=.agg ca) (results_cell_row rfl _ w2 (bw+1) 468 _ (0,0) _ rfl k9 Tryz.underlying468 rfl (by rw [hsz];kernel_rfl)) rfl ⟨by rw [HCA.out],by rw [HBW.out];exact hbr⟩
theorem loOpen_any (w:World) (B:Nat) (v:VanV) (h:zcs w B v.vs v.vanes.length (zai v.vanes)) (hB:B≤w.heap.size) (hn:v.vanes.length≤1000) :
 Calls Tryz.prog 359 #[.agg (za8 v).toArray] w fun e w'=>e=.returned (.tuple #[.agg (za8 v).toArray,.int .i64 (zj2 v)])∧Below w.heap.size w w':=by
 have hb0:∀ a b,Below w.heap.size w ((w.alloc a).alloc b):=fun a b=>((Below.refl _ _).alloc (Nat.le_refl _) _).alloc (by simp) _
 have CT:=fun a b=>zja ((w.alloc a).alloc b) B v (h.below ((hb0 a b).mono hB)) (Nat.le_trans hB (hb0 a b).size) hn
 obtain ⟨⟨A,n,c⟩,l,wi,tqo,pe,fi,mo,sl,er,ro⟩:=v
 show Calls Tryz.prog 359 #[.agg #[.slice A n c,.int .i64 wi,.int .i64 tqo,.int .i64 pe,.int .i64 fi,.int .i64 mo,.int .i64 sl,.int .i64 er,.bool ro]] w _
 generalize zj2 ⟨⟨A,n,c⟩,l,wi,tqo,pe,fi,mo,sl,er,ro⟩=E at *
 change ∀ a b,Calls Tryz.prog 78 #[.agg #[.slice A n c,.int .i64 wi,.int .i64 tqo,.int .i64 pe,.int .i64 fi,.int .i64 mo,.int .i64 sl,.int .i64 er,.bool ro]] _ _ at CT
 have k0:=hA2a w (.cells #[.slice A n c,.int .i64 wi,.int .i64 tqo,.int .i64 pe,.int .i64 fi,.int .i64 mo,.int .i64 sl,.int .i64 er,.bool ro] 34) (.cells #[.slice none 0 0,.int .i64 0,.int .i64 0,.int .i64 0,.int .i64 0,.int .i64 0,.int .i64 0,.int .i64 0,.bool false] 432)
 have k1:=hA2b w (.cells #[.slice A n c,.int .i64 wi,.int .i64 tqo,.int .i64 pe,.int .i64 fi,.int .i64 mo,.int .i64 sl,.int .i64 er,.bool ro] 34) (.cells #[.slice none 0 0,.int .i64 0,.int .i64 0,.int .i64 0,.int .i64 0,.int .i64 0,.int .i64 0,.int .i64 0,.bool false] 432)
 have HB:=Lib.hid (hb0 (.cells #[.slice A n c,.int .i64 wi,.int .i64 tqo,.int .i64 pe,.int .i64 fi,.int .i64 mo,.int .i64 sl,.int .i64 er,.bool ro] 34) (.cells #[.slice none 0 0,.int .i64 0,.int .i64 0,.int .i64 0,.int .i64 0,.int .i64 0,.int .i64 0,.int .i64 0,.bool false] 432))
 replace CT:=CT (.cells #[.slice A n c,.int .i64 wi,.int .i64 tqo,.int .i64 pe,.int .i64 fi,.int .i64 mo,.int .i64 sl,.int .i64 er,.bool ro] 34) (.cells #[.slice none 0 0,.int .i64 0,.int .i64 0,.int .i64 0,.int .i64 0,.int .i64 0,.int .i64 0,.int .i64 0,.bool false] 432)
 have hs0:=hS2 w (.cells #[.slice A n c,.int .i64 wi,.int .i64 tqo,.int .i64 pe,.int .i64 fi,.int .i64 mo,.int .i64 sl,.int .i64 er,.bool ro] 34) (.cells #[.slice none 0 0,.int .i64 0,.int .i64 0,.int .i64 0,.int .i64 0,.int .i64 0,.int .i64 0,.int .i64 0,.bool false] 432)
 clear hb0 h hB hn
 show Calls Tryz.prog 359 #[.agg #[.slice A n c,.int .i64 wi,.int .i64 tqo,.int .i64 pe,.int .i64 fi,.int .i64 mo,.int .i64 sl,.int .i64 er,.bool ro]] w fun e w'=>e=.returned (.tuple #[.agg #[.slice A n c,.int .i64 wi,.int .i64 tqo,.int .i64 pe,.int .i64 fi,.int .i64 mo,.int .i64 sl,.int .i64 er,.bool ro],.int .i64 E])∧Below w.heap.size w w'
 go_enter Tryz.func359,Tryz.ntmps359
 go_upto_region 1 with (fail)
 generalize (w.alloc (.cells #[.slice A n c,.int .i64 wi,.int .i64 tqo,.int .i64 pe,.int .i64 fi,.int .i64 mo,.int .i64 sl,.int .i64 er,.bool ro] 34)).alloc (.cells #[.slice none 0 0,.int .i64 0,.int .i64 0,.int .i64 0,.int .i64 0,.int .i64 0,.int .i64 0,.int .i64 0,.bool false] 432)=w0 at *
 generalize hbw:w.heap.size=bw at *
 have HBW:=Lib.hid hbw
 clear hbw
 go_wp2_with (with_reducible refine zaw 34 ?_)
 unfold Stp
 refine wpList_load_row rfl 34 _ rfl bw rfl 34 _ (0,0) _ k0 Tryz.underlying34 rfl (by kernel_rfl) ?_
 go_wp2_with (first | (go_at_call 78;refine CT.mono ?_;rintro e w1 ⟨i,rfl,hb1⟩) | (with_reducible refine zaw 34 ?_))
 unfold Stp
 refine wpList_load_row rfl 34 _ rfl bw rfl 34 _ (0,0) _ (blk hb1 k0) Tryz.underlying34 rfl (by kernel_rfl) ?_
 go_wp2_with (with_reducible refine zas 432 ?_)
 unfold Stp
 refine wpList_store_row rfl 432 _ _ rfl (bw+1) #[.slice A n c,.int .i64 wi,.int .i64 tqo,.int .i64 pe,.int .i64 fi,.int .i64 mo,.int .i64 sl,.int .i64 er,.bool ro] rfl rfl 432 _ (blk hb1 k1) (by kernel_rfl) rfl (by kernel_rfl) ?_
 have kr:=setRow_heap w1 (bw+1) _ #[.slice A n c,.int .i64 wi,.int .i64 tqo,.int .i64 pe,.int .i64 fi,.int .i64 mo,.int .i64 sl,.int .i64 er,.bool ro] 432 (0,0) (blk hb1 k1)
 have hbr:Below bw w (w1.setRow (bw+1) #[.slice A n c,.int .i64 wi,.int .i64 tqo,.int .i64 pe,.int .i64 fi,.int .i64 mo,.int .i64 sl,.int .i64 er,.bool ro]):=below_setRow (HB.out.trans (hb1.mono (by omega))) (by omega) _
 generalize w1.setRow (bw+1) #[.slice A n c,.int .i64 wi,.int .i64 tqo,.int .i64 pe,.int .i64 fi,.int .i64 mo,.int .i64 sl,.int .i64 er,.bool ro]=w2 at *
 go_wp2
 obtain ⟨c0,c1,c2,c3,c4,c5,c6,c7,c8⟩:_∧_∧_∧_∧_∧_∧_∧_∧_:=zdl kr
 refine bodyPost_ret (v:=.tuple #[.agg #[.slice A n c,.int .i64 wi,.int .i64 tqo,.int .i64 pe,.int .i64 fi,.int .i64 mo,.int .i64 sl,.int .i64 er,.bool ro],.int .i64 E]) (by simp [results,Tryz.results359,go_sem,c0,c1,c2,c3,c4,c5,c6,c7,c8]) rfl ⟨rfl,by rw [HBW.out];exact hbr⟩
end Go.Proofs.YtoodbfkbbchjiaaGreatDoor
