import Derived.Test.YtfdmeojcopkaoaaGreatDoorf3A4
import Derived.Test.YtfdmeojcopkaoaaGreatDoorf3X4
import Derived.Test.YtfdmeojcopkaoaaGreatDoorf3F3
import Derived.Test.YtfdmeojcopkaoaaGreatDoorf3M5
import Derived.Test.YtfdmeojcopkaoaaGreatDoorf3S3
set_option maxRecDepth 100000
set_option maxHeartbeats 16000000
namespace Go.Proofs.YtfdmeojcopkaoaaGreatDoor
open Go.RowKit
theorem bkName_any (s:ByteArray) (hs9:s.size≤1000000000) (w:World):Calls Tryz.prog 81 #[.string s] w fun e w'=>e=.returned (.bool (zba s))∧Below w.heap.size w w':=by
 obtain ⟨tot,htot⟩:∃ t,zbm 0 s.data.toList=t:=⟨_,rfl⟩
 have HVF:Hid (tot=false→zba s=false):=fun h=>by
  rw [zba,htot,h,Bool.and_false]
 have HV:Hid (zba s=(decide (1≤s.size) && decide (s.size≤12) && tot)):=by rw [Hid,zba,htot]
 have HTT:=Lib.hid htot
 clear htot
 have kc:=Lib.run_convert_string_bytes (P:=Tryz.prog) w 9 172 5 s Tryz.underlying9 Tryz.underlying172 Tryz.underlying5
 go_enter Tryz.func81,Tryz.ntmps81
 go_wp2
 clear kc
 go_loop [3,4,5,9] (fun _ _ _ i=>∃ k:Nat,k≤s.size∧i=.int .i64 k∧zbm k (s.data.toList.drop k)=tot) (fun _ _ _ i=>s.size - (intOf i).toNat)
 case atStart=>exact ⟨0,Nat.zero_le _,rfl,by rw [List.drop_zero];exact HTT.out⟩
 case round =>
  obtain ⟨k,hk,rfl,he⟩:=hrel
  have HE:=Lib.hid he
  clear he
  by_cases hlt:k<s.size
  · have hkl:k<s.data.toList.length:=by simpa using hlt
    have HD:=Lib.hid (dropB hkl)
    have hcb:(s.data.toList.getD k 0).toNat≤255:=by have:=UInt8.toNat_lt (s.data.toList.getD k 0);omega
    have d0:=Lib.bytesWorld_cell w 5 s k hlt
    have HG:Hid ((okN k (s.data.toList.getD k 0).toNat && zbm (k+1) (s.data.toList.drop (k+1)))=tot):=by
     have:=HE.out
     rw [HD.out,zbm] at this
     exact this
    generalize (s.data.toList.getD k 0).toNat=c at *
    have hlti:(k:Int)<(s.size:Int):=by omega
    clear HE hkl
    have hcs:(c<45)∨(c=45)∨(45<c∧c<48)∨(48≤c∧c≤57)∨(57<c∧c<65)∨(65≤c∧c≤90)∨(90<c∧c<97)∨(97≤c∧c≤122)∨(122<c):=by omega
    rcases hcs with hcc | hcc | hcc | hcc | hcc | hcc | hcc | hcc | hcc <;> by_cases hk0:k=0
    all_goals
     first | have q0:(97:Int)≤(c:Int):=by omega | have q0:¬ (97:Int)≤(c:Int):=by omega
     first | have q1:(c:Int)≤122:=by omega | have q1:¬ (c:Int)≤122:=by omega
     first | have q2:(65:Int)≤(c:Int):=by omega | have q2:¬ (65:Int)≤(c:Int):=by omega
     first | have q3:(c:Int)≤90:=by omega | have q3:¬ (c:Int)≤90:=by omega
     first | have q5:(c:Int)<48:=by omega | have q5:¬ (c:Int)<48:=by omega
     first | have q6:(57:Int)<(c:Int):=by omega | have q6:¬ (57:Int)<(c:Int):=by omega
     first | (have q4:((c:Int) != 45)=false:=by rw [hcc];rfl) | have q4:((c:Int) != 45)=true:=by exact bne_iff_ne.2 (by omega)
     first | have e0:((k:Int) == 0)=false:=beq_eq_false_iff_ne.2 (by omega) | (have e0:((k:Int) == 0)=true:=by rw [hk0];rfl)
     by_cases hok:okN k c=true
     · have HN:Hid (zbm (k+1) (s.data.toList.drop (k+1))=tot):=by
        have:=HG.out
        rw [hok,Bool.true_and] at this
        exact this
       rw [okN] at hok
       simp at hok
       first
        | (exfalso;omega)
        | (clear hok hcc hk0
           go_wp2
           go_round
           case rel=>exact ⟨k+1,by omega,by go_num,HN.out⟩
           case measure=>simp [intOf];omega)
     · have HF:Hid (tot=false):=by
        have:=HG.out
        rw [Bool.eq_false_iff.2 hok,Bool.false_and] at this
        exact this.symm
       rw [okN] at hok
       simp at hok
       first
        | (exfalso;omega)
        | (clear hok hcc hk0
           go_wp2
           go_ret
           exact ⟨by rw [HVF.out HF.out];rfl,Lib.bytesWorld_below _ _ _⟩)
  · obtain rfl:k=s.size:=by omega
    have HT:Hid (tot=true):=by
     have:=HE.out
     rw [List.drop_eq_nil_iff.2 (by simp),zbm] at this
     exact this.symm
    clear HE
    by_cases h0:s.size=0
    · obtain rfl:s=⟨#[]⟩:=by
       cases s with
       | mk d =>
        have:d.size=0:=h0
        rw [Array.eq_empty_of_size_eq_zero this]
      go_wp2
      go_ret
      exact ⟨by rw [HV.out];rfl,Lib.bytesWorld_below _ _ _⟩
    · have hne0:¬ s.toList=[]:=fun h=>h0 (by
       rw [ByteArray.toList_eq] at h
       have:=congrArg List.length h
       simpa using this)
      have hne1:s.toList.isEmpty=false:=by
       rw [Bool.eq_false_iff]
       exact fun h=>hne0 (List.isEmpty_iff.1 h)
      by_cases h12:s.size≤12
      · have h12i:(s.size:Int)≤12:=by omega
        have HV2:Hid (zba s=true):=by rw [Hid,HV.out,HT.out,decide_eq_true (show 1≤s.size by omega),decide_eq_true h12];rfl
        go_wp2
        go_ret
        exact ⟨by rw [HV2.out];rfl,Lib.bytesWorld_below _ _ _⟩
      · have h12i:¬ (s.size:Int)≤12:=by omega
        have HV2:Hid (zba s=false):=by rw [Hid,HV.out,decide_eq_false h12,Bool.and_false,Bool.false_and]
        go_wp2
        go_ret
        exact ⟨by rw [HV2.out];rfl,Lib.bytesWorld_below _ _ _⟩
theorem bkName_val (s:ByteArray) (b:Bool) (hb:zba s=b) (hs9:s.size≤1000000000) (w:World):Calls Tryz.prog 81 #[.string s] w fun e w'=>e=.returned (.bool b)∧Below w.heap.size w w':=by
 rw [← hb]
 exact bkName_any s hs9 w
end Go.Proofs.YtfdmeojcopkaoaaGreatDoor
namespace Go.Proofs.YtfdmeojcopkaoaaGreatDoor
open Go.RowKit
theorem firstE_three (a b c d:Int):zam [a,b,c,d]=if zam [a,b,c]=0 then d else zam [a,b,c]:=by
 by_cases h:a=0 <;> by_cases g:b=0 <;> by_cases f:c=0 <;> simp [zam,h,g,f]
 intro h;rw [h]
theorem isSquare_val (n:Int) (b:Bool) (h:zai n 0 20000000000=b) (w:World) :
 Calls Tryz.prog 83 #[.int .i64 n] w fun e w'=>e=.returned (.bool b)∧w=w':=by
 have WI:=fun W=>zc1 n 0 20000000000 b h W
 go_enter Tryz.func83,Tryz.ntmps83
 go_wp2_with (go_at_call 82;refine (WI _).mono ?_;rintro e w' ⟨rfl,rfl⟩)
 go_ret
 exact ⟨rfl,rfl⟩
theorem bkSystem_any (w:World) (s:Sy):Calls Tryz.prog 20 #[syV s] w (zax w (zjc s)):=by
 obtain ⟨a,b,c⟩:=s
 unfold syV
 simp only
 obtain ⟨c0,c1,c2⟩:_∧_∧_:=zbc (W:=(w.alloc (.cells #[.int .i64 a,.int .i64 b,.int .i64 c] 39))) (by rw [zae,if_pos rfl])
 have hb0:=hB1 w (.cells #[.int .i64 a,.int .i64 b,.int .i64 c] 39)
 have HB:=Lib.hid hb0
 have hs0:=hb0.size
 obtain ⟨q1,hq1⟩:∃ q,zai a 1 3000=q:=⟨_,rfl⟩
 obtain ⟨q2,hq2⟩:∃ q,zai b 0 500=q:=⟨_,rfl⟩
 obtain ⟨q3,hq3⟩:∃ q,zai c 0 2000=q:=⟨_,rfl⟩
 have D1:=fun W=>zc1 a 1 3000 q1 hq1 W
 have D2:=fun W=>zc1 b 0 500 q2 hq2 W
 have D3:=fun W=>zc1 c 0 2000 q3 hq3 W
 obtain ⟨E,hE⟩:∃ E,zjc ⟨a,b,c⟩=E:=⟨_,rfl⟩
 rw [hE]
 have HE:Hid (zam [zaf (q1 && q2 && q3) 2,zaf (decide (b≤a)) 9]=E):=by rw [Hid,← hE,← hq1,← hq2,← hq3];rfl
 clear hb0 hq1 hq2 hq3 hE
 cases q1 <;> cases q2
 all_goals
  have HE2:zam _=E:=HE.out
  simp only [Bool.true_and,Bool.false_and] at HE2
  have HE3:=Lib.hid HE2
  clear HE HE2
  go_enter Tryz.func20,Tryz.ntmps20
  go_upto_region 2 with (first | (go_at_call_of 82 (Value.int .i64 a);refine (D1 _).mono ?_;rintro e w' ⟨rfl,rfl⟩) | (go_at_call_of 82 (Value.int .i64 b);refine (D2 _).mono ?_;rintro e w' ⟨rfl,rfl⟩) | (go_at_call_of 82 (Value.int .i64 c);refine (D3 _).mono ?_;rintro e w' ⟨rfl,rfl⟩))
  generalize (w.alloc (.cells #[.int .i64 a,.int .i64 b,.int .i64 c] 39))=w0 at *
  have x0:=fun y:Xt w0=>y.cell c0
  have x1:=fun y:Xt w0=>y.cell c1
  refine zaw [] [0,1,2,3,4,5,6,7] 8 [9,10] (fun w'=>∃ y:Xt w0,w'=y.1) (by as_aux_lemma=>kernel_rfl) (by as_aux_lemma=>kernel_rfl) ⟨⟨w0.drew,(Below.refl _ _).drew⟩,rfl⟩ ?_
  simp only [zad,zac,zaa,zX1,zX2,zX3]
  refine wpQuiet_nil ?_
  show wpQuiet _ _ _ _ _ _
  repeat (go_big_quiet_step (first | (go_at_call 80;exact Xt.calls_same (zhp _ _ _))))
  refine wpQuiet_nil ?_
  intro w1 hx
  have hb1:=Xt.below hx
  go_wp2_with (go_at_call 79;refine (bkFirst2 _ _ _).mono ?_;rintro e w' ⟨he,rfl⟩;rw [HE3.out] at he;subst he)
  refine zab ?_
  go_wp2
  go_ret
  exact ⟨rfl,(HB.out.trans (hb1.mono hs0)).alloc (Nat.le_trans hs0 hb1.size) _⟩
theorem bkTrack_any (w:World) (B:Nat) (nm:ByteArray) (s:SlV) (l:List Pc) (h:zcs w B s l.length (zck l)) (hB:B≤w.heap.size) (hn:l.length≤1000) (hs9:nm.size≤1000) :
 Calls Tryz.prog 19 #[zd3 nm s.A s.n s.c] w fun e w'=>∃ i:Int,e=.returned (.tuple #[.int .i64 i,.int .i64 (zd4 nm l)])∧Below w.heap.size w w':=by
 obtain ⟨A,n,c⟩:=s
 obtain ⟨hl,hr⟩:=h
 simp only at hl hr
 unfold zd3
 rw [hl] at hn
 have HL:=Lib.hid hl
 obtain ⟨c0,c1⟩:_∧_:=zay (W:=(w.alloc (.cells #[.string nm,.slice A n c] 37))) (by rw [zae,if_pos rfl])
 have hb0:=hB1 w (.cells #[.string nm,.slice A n c] 37)
 have hr0:=hr.below (hb0.mono hB)
 have HR:=Lib.hid hr0
 have HB:=Lib.hid hb0
 have hs0:=hb0.size
 obtain ⟨q1,hq1⟩:∃ q,zba nm=q:=⟨_,rfl⟩
 have NM:=fun W=>bkName_val nm q1 hq1 (by omega) W
 obtain ⟨E1,hE1⟩:∃ E,zam [zaf q1 4,zaf (decide (0<n)) 10,zaf (decide ((n:Int)≤12)) 8]=E:=⟨_,rfl⟩
 have HE3:=Lib.hid hE1
 obtain ⟨V,hV⟩:∃ V,zd4 nm l=V:=⟨_,rfl⟩
 rw [hV]
 have HV:Hid (V=if E1=0 then za4 (fun _ p=>pcE p) [] l else E1):=by
  rw [Hid,← hV,← hE1,← hq1,zd4]
  simp only [HL.out,Int.natCast_pos]
  exact firstE_three _ _ _ _
 clear hl hr hb0 hr0 hq1 hE1 hV
 go_enter Tryz.func19,Tryz.ntmps19
 go_upto_region 1 with (fail)
 generalize (w.alloc (.cells #[.string nm,.slice A n c] 37))=w0 at *
 have x0:=fun y:Xt w0=>y.cell c0
 have x1:=fun y:Xt w0=>y.cell c1
 refine zaw [] [0,1,2,3,4,5,6,7,8,9,10,11,12,13] 14 [15,16] (fun w'=>∃ y:Xt w0,w'=y.1) (by as_aux_lemma=>kernel_rfl) (by as_aux_lemma=>kernel_rfl) ⟨⟨w0.drew,(Below.refl _ _).drew⟩,rfl⟩ ?_
 simp only [zad,zac,zaa,zX1,zX2,zX3]
 refine wpQuiet_nil ?_
 show wpQuiet _ _ _ _ _ _
 repeat (go_big_quiet_step (first | (go_at_call 81;exact Xt.calls (NM _)) | (go_at_call 80;exact Xt.calls_same (zhp _ _ _))))
 refine wpQuiet_nil ?_
 intro w1 hx
 have hb1:=Xt.below hx
 replace c1:=zas hb1 c1
 have HR1:=Lib.hid (HR.out.below (hb1.mono (by omega)))
 have HB1:=Lib.hid (HB.out.trans (hb1.mono hs0))
 have hs1:=Nat.le_trans hs0 hb1.size
 generalize hbw:w.heap.size=bw at *
 have HBW:=Lib.hid hbw
 clear hbw hx x0 x1 c0 HR HB hs0 hb1 NM
 go_upto_region 2 with (go_at_call 79;refine (bkFirst3 _ _ _ _).mono ?_;rintro e w' ⟨he,rfl⟩;rw [HE3.out] at he;subst he)
 refine zab ?_
 have HB2:∀ o,Below bw w (w1.alloc o):=fun o=>HB1.out.alloc (by omega) o
 have C3:∀ o,(w1.alloc o).cell? ⟨bw,1,none⟩=some (.slice A n c):=fun o=>zb8 o c1
 have HR2:∀ o,Rd (w1.alloc o) B A (zck l):=fun o=>HR1.out.below (((Below.refl _ _).alloc (Nat.le_refl _) o).mono (by omega))
 have HS2:∀ o,bw≤(w1.alloc o).heap.size:=fun o=>by simp;omega
 clear c1
 generalize hw2:w1.alloc _=w2
 have hb2:Below bw w w2:=by rw [← hw2];exact HB2 _
 have c1:w2.cell? ⟨bw,1,none⟩=some (.slice A n c):=by rw [← hw2];exact C3 _
 have hr2:Rd w2 B A (zck l):=by rw [← hw2];exact HR2 _
 have hs2:bw≤w2.heap.size:=by rw [← hw2];exact HS2 _
 have HB3:=Lib.hid hb2
 have HR3:=Lib.hid hr2
 clear HB2 C3 HR2 HS2 hb2 hr2 hw2 HB1 HR1 hs1 HE3
 by_cases hE:E1=0
 · have hE':(E1 != 0)=false:=by simp [hE]
   obtain ⟨V2,hV2⟩:∃ V,za4 (fun _ p=>pcE p) [] l=V:=⟨_,rfl⟩
   have HV1:Hid (V=V2):=by rw [Hid,HV.out,if_pos hE];exact hV2
   have HV2:=Lib.hid hV2
   clear hE hV2 HV
   go_wp2
   go_loopw [29] (fun u wr=>zjm w2 (fun _ p=>pcE p) l n V2 u wr) (fun u _=>n - (intOf u).toNat)
   case atStart=>exact ⟨0,Nat.zero_le _,rfl,HV2.out,Below.refl _ _⟩
   case round =>
    obtain ⟨k,hk,rfl,hgo,hb⟩:=hrel
    have HGO:=Lib.hid hgo
    have HBK:=Lib.hid hb
    have hr:=HR3.out.below (hb.mono (by omega))
    have hsk:=hb.size
    clear hgo hb c1
    by_cases hlt:k<n
    · have hkl:k<l.length:=by rw [HL.out];exact hlt
      obtain ⟨ev,hev⟩:∃ ev,l[k]?=some ev:=⟨_,List.getElem?_eq_getElem hkl⟩
      obtain ⟨bb,off,rfl,hbB,z0,z1,z2,z3⟩:=Rd.pc hr hev
      have HSV:=Lib.hid hev
      obtain ⟨pl,pg,pm,pv⟩:=ev
      simp only at z0 z1 z2 z3
      obtain ⟨d0,d1,d2,d3⟩:_∧_∧_∧_:=za9 (W:=wr.alloc (.cells #[.int .i64 pl,.int .i64 pg,.int .i64 pm,.bool pv] 124)) (by rw [zae,if_pos rfl])
      have hba:=hB1 wr (.cells #[.int .i64 pl,.int .i64 pg,.int .i64 pm,.bool pv] 124)
      have HBA:=Lib.hid (HBK.out.trans (hba.mono hsk))
      obtain ⟨b1,hb1⟩:∃ b,zai pl 1 10000000=b:=⟨_,rfl⟩
      obtain ⟨b2,hb2⟩:∃ b,zai pg (-100) 100=b:=⟨_,rfl⟩
      obtain ⟨b3,hb3⟩:∃ b,zai pm 0 20000000000=b:=⟨_,rfl⟩
      have W1:=fun W=>zc1 pl 1 10000000 b1 hb1 W
      have W2:=fun W=>zc1 pg (-100) 100 b2 hb2 W
      have W3:=fun W=>isSquare_val pm b3 hb3 W
      have HER:Hid (pcE ⟨pl,pg,pm,pv⟩=zaf (b1 && b2 && b3) 2):=by rw [Hid,pcE,← hb1,← hb2,← hb3]
      clear hba hev hkl hr HBK hb1 hb2 hb3
      cases b1 <;> cases b2 <;> cases b3
      all_goals
       have HER2:pcE _=zaf _ _:=HER.out
       simp only [Bool.true_and,Bool.false_and,zaf,cond_true,cond_false] at HER2
       have HER3:=Lib.hid HER2
       clear HER HER2
       go_upto_region 7 with (fail)
       clear z0 z1 z2 z3
       generalize wr.alloc (.cells #[.int .i64 pl,.int .i64 pg,.int .i64 pm,.bool pv] 124)=wa at *
       first
        | (have HN:=Lib.hid (zc0 HSV.out HGO.out HER3.out)
           go_wp2_with (first | (go_at_call_of 82 (Value.int .i64 pl);refine (W1 _).mono ?_;rintro e w' ⟨rfl,rfl⟩) | (go_at_call_of 82 (Value.int .i64 pg);refine (W2 _).mono ?_;rintro e w' ⟨rfl,rfl⟩) | (go_at_call 83;refine (W3 _).mono ?_;rintro e w' ⟨rfl,rfl⟩))
           go_roundw
           case rel=>exact ⟨k+1,by omega,by go_num,HN.out,HBA.out⟩
           case measure=>simp [intOf];omega)
        | (have HN:Hid (V2=2):=by
            have h9:=zb4 (f:=fun _ p=>pcE p) HSV.out HGO.out (by rw [HER3.out];decide)
            rw [Hid,← h9]
            exact HER3.out
           go_wp2_with (first | (go_at_call_of 82 (Value.int .i64 pl);refine (W1 _).mono ?_;rintro e w' ⟨rfl,rfl⟩) | (go_at_call_of 82 (Value.int .i64 pg);refine (W2 _).mono ?_;rintro e w' ⟨rfl,rfl⟩) | (go_at_call 83;refine (W3 _).mono ?_;rintro e w' ⟨rfl,rfl⟩))
           go_ret2
           exact ⟨k,by rw [HV1.out,HN.out];rfl,by rw [HBW.out];exact HB3.out.trans (HBA.out.mono (by omega))⟩)
    · have HN:Hid (V2=0):=zcc (by rw [HL.out];omega) HGO.out
      go_wp2
      go_ret2
      exact ⟨0,by rw [HV1.out,HN.out];rfl,by rw [HBW.out];exact HB3.out.trans (HBK.out.mono (by omega))⟩
 · have hE':(E1 != 0)=true:=by simp [hE]
   have HV1:Hid (V=E1):=by rw [Hid,HV.out,if_neg hE]
   clear hE
   go_wp2
   go_ret2
   exact ⟨0,by rw [HV1.out];rfl,by rw [HBW.out];exact HB3.out⟩
end Go.Proofs.YtfdmeojcopkaoaaGreatDoor
namespace Go.Proofs.YtfdmeojcopkaoaaGreatDoor
open Go.RowKit
theorem zko (w:World) (s:Sy):Calls Tryz.prog 40 #[syV s] w (zax w (zjc s)):=by
 obtain ⟨a,b,c⟩:=s
 unfold syV
 simp only
 obtain ⟨c0,c1,c2⟩:_∧_∧_:=zbc (W:=(w.alloc (.cells #[.int .i64 a,.int .i64 b,.int .i64 c] 39))) (by rw [zae,if_pos rfl])
 have hb0:=hB1 w (.cells #[.int .i64 a,.int .i64 b,.int .i64 c] 39)
 have HB:=Lib.hid hb0
 obtain ⟨q1,hq1⟩:∃ q,zai a 1 3000=q:=⟨_,rfl⟩
 obtain ⟨q2,hq2⟩:∃ q,zai b 0 500=q:=⟨_,rfl⟩
 obtain ⟨q3,hq3⟩:∃ q,zai c 0 2000=q:=⟨_,rfl⟩
 have D1:=fun W=>za2 a 1 3000 q1 hq1 W
 have D2:=fun W=>za2 b 0 500 q2 hq2 W
 have D3:=fun W=>za2 c 0 2000 q3 hq3 W
 have HE:Hid (zjc ⟨a,b,c⟩=zam [zaf (q1 && q2 && q3) 2,zaf (decide (b≤a)) 9]):=by rw [Hid,← hq1,← hq2,← hq3];rfl
 clear hb0 hq1 hq2 hq3
 by_cases hd:a<b
 · have hd2:¬ b≤a:=by omega
   have HD:Hid (decide (b≤a)=false):=by simp [Hid,hd2]
   clear hd2
   cases q1 <;> cases q2 <;> cases q3
   all_goals
    go_enter Tryz.func40,Tryz.ntmps40
    go_upto_region 1 with (fail)
    generalize (w.alloc (.cells #[.int .i64 a,.int .i64 b,.int .i64 c] 39))=w0 at *
    go_wp2_with (first | (go_at_call_of 96 (Value.int .i64 a);refine (D1 _).mono ?_;rintro e w' ⟨rfl,rfl⟩) | (go_at_call_of 96 (Value.int .i64 b);refine (D2 _).mono ?_;rintro e w' ⟨rfl,rfl⟩) | (go_at_call_of 96 (Value.int .i64 c);refine (D3 _).mono ?_;rintro e w' ⟨rfl,rfl⟩))
    go_ret
    exact ⟨by rw [HE.out,HD.out];rfl,HB.out⟩
 · have hd2:b≤a:=by omega
   have HD:Hid (decide (b≤a)=true):=by simp [Hid,hd2]
   clear hd2
   cases q1 <;> cases q2 <;> cases q3
   all_goals
    go_enter Tryz.func40,Tryz.ntmps40
    go_upto_region 1 with (fail)
    generalize (w.alloc (.cells #[.int .i64 a,.int .i64 b,.int .i64 c] 39))=w0 at *
    go_wp2_with (first | (go_at_call_of 96 (Value.int .i64 a);refine (D1 _).mono ?_;rintro e w' ⟨rfl,rfl⟩) | (go_at_call_of 96 (Value.int .i64 b);refine (D2 _).mono ?_;rintro e w' ⟨rfl,rfl⟩) | (go_at_call_of 96 (Value.int .i64 c);refine (D3 _).mono ?_;rintro e w' ⟨rfl,rfl⟩))
    go_ret
    exact ⟨by rw [HE.out,HD.out];rfl,HB.out⟩
theorem refTrack_any (w:World) (B:Nat) (nm:ByteArray) (s:SlV) (l:List Pc) (h:zcs w B s l.length (zck l)) (hB:B≤w.heap.size) (hn:l.length≤1000) (hs9:nm.size≤1000) :
 Calls Tryz.prog 95 #[zd3 nm s.A s.n s.c] w fun e w'=>∃ i:Int,e=.returned (.tuple #[.int .i64 i,.int .i64 (zd4 nm l)])∧Below w.heap.size w w':=by
 obtain ⟨A,n,c⟩:=s
 obtain ⟨hl,hr⟩:=h
 simp only at hl hr
 unfold zd3
 rw [hl] at hn
 have HL:=Lib.hid hl
 obtain ⟨c0,c1⟩:_∧_:=zay (W:=(w.alloc (.cells #[.string nm,.slice A n c] 37))) (by rw [zae,if_pos rfl])
 have hb0:=hB1 w (.cells #[.string nm,.slice A n c] 37)
 have HR:=Lib.hid (hr.below (hb0.mono hB))
 have HB:=Lib.hid hb0
 have hs0:=hb0.size
 obtain ⟨q1,hq1⟩:∃ q,zba nm=q:=⟨_,rfl⟩
 have NM:=fun W=>zbt nm q1 hq1 (by omega) W
 obtain ⟨V,hV⟩:∃ V,zd4 nm l=V:=⟨_,rfl⟩
 obtain ⟨V2,hV2⟩:∃ V,za4 (fun _ p=>pcE p) [] l=V:=⟨_,rfl⟩
 rw [hV]
 have HV:Hid (V=zam [zaf q1 4,zaf (decide (0<(n:Int))) 10,zaf (decide ((n:Int)≤12)) 8,V2]):=by
  rw [Hid,← hV,← hq1,← hV2,zd4]
  simp only [HL.out]
 have HV2:=Lib.hid hV2
 clear hl hr hb0 hq1 hV hV2
 go_enter Tryz.func95,Tryz.ntmps95
 go_upto_region 1 with (fail)
 generalize (w.alloc (.cells #[.string nm,.slice A n c] 37))=w0 at *
 generalize hbw:w.heap.size=bw at *
 have HBW:=Lib.hid hbw
 clear hbw
 cases q1 with
 | false =>
  have HN:Hid (V=4):=by rw [Hid,HV.out];rfl
  go_wp2_with (go_at_call 98;refine (NM _).mono ?_;rintro e w' ⟨rfl,rfl⟩)
  go_ret2
  exact ⟨0,by rw [HN.out];rfl,by rw [HBW.out];exact HB.out⟩
 | true =>
  by_cases h0:n=0
  · have HN:Hid (V=10):=by rw [Hid,HV.out,h0];rfl
    subst h0
    go_wp2_with (go_at_call 98;refine (NM _).mono ?_;rintro e w' ⟨rfl,rfl⟩)
    go_ret2
    exact ⟨0,by rw [HN.out];rfl,by rw [HBW.out];exact HB.out⟩
  have g0:((n:Int) == 0)=false:=beq_eq_false_iff_ne.2 (by omega)
  have g0':0<(n:Int):=by omega
  by_cases h12:(12:Int)<(n:Int)
  · have HN:Hid (V=8):=by
     have g:¬ (n:Int)≤12:=by omega
     rw [Hid,HV.out]
     simp only [g0',g,decide_true,decide_false]
     rfl
    clear g0'
    go_wp2_with (go_at_call 98;refine (NM _).mono ?_;rintro e w' ⟨rfl,rfl⟩)
    go_ret2
    exact ⟨0,by rw [HN.out];rfl,by rw [HBW.out];exact HB.out⟩
  have HN:Hid (V=V2):=by
   have g:(n:Int)≤12:=by omega
   rw [Hid,HV.out]
   simp only [g0',g,decide_true]
   by_cases hz:V2=0
   · rw [hz];rfl
   · simp [zam,zaf,hz]
  clear g0' HV
  go_wp2_with (go_at_call 98;refine (NM _).mono ?_;rintro e w' ⟨rfl,rfl⟩)
  go_loopw [4] (fun u wr=>zjm w0 (fun _ p=>pcE p) l n V2 u wr) (fun u _=>n - (intOf u).toNat)
  case atStart=>exact ⟨0,Nat.zero_le _,rfl,HV2.out,Below.refl _ _⟩
  case round =>
   obtain ⟨k,hk,rfl,hgo,hb⟩:=hrel
   have HGO:=Lib.hid hgo
   have HBK:=Lib.hid hb
   have hr:=HR.out.below (hb.mono (by omega))
   have hsk:=hb.size
   replace c1:=zas hb c1
   clear hgo hb c0
   by_cases hlt:k<n
   · have hkl:k<l.length:=by rw [HL.out];exact hlt
     obtain ⟨ev,hev⟩:∃ ev,l[k]?=some ev:=⟨_,List.getElem?_eq_getElem hkl⟩
     obtain ⟨bb,off,rfl,hbB,z0,z1,z2,z3⟩:=Rd.pc hr hev
     have HSV:=Lib.hid hev
     obtain ⟨pl,pg,pm,pv⟩:=ev
     simp only at z0 z1 z2 z3
     obtain ⟨d0,d1,d2,d3⟩:_∧_∧_∧_:=za9 (W:=wr.alloc (.cells #[.int .i64 pl,.int .i64 pg,.int .i64 pm,.bool pv] 124)) (by rw [zae,if_pos rfl])
     have hba:=hB1 wr (.cells #[.int .i64 pl,.int .i64 pg,.int .i64 pm,.bool pv] 124)
     have HBA:=Lib.hid (HBK.out.trans (hba.mono hsk))
     obtain ⟨b1,hb1⟩:∃ b,zai pl 1 10000000=b:=⟨_,rfl⟩
     obtain ⟨b2,hb2⟩:∃ b,zai pg (-100) 100=b:=⟨_,rfl⟩
     obtain ⟨b3,hb3⟩:∃ b,zai pm 0 20000000000=b:=⟨_,rfl⟩
     have W1:=fun W=>za2 pl 1 10000000 b1 hb1 W
     have W2:=fun W=>za2 pg (-100) 100 b2 hb2 W
     have W3:=fun W=>za2 pm 0 20000000000 b3 hb3 W
     have HER:Hid (pcE ⟨pl,pg,pm,pv⟩=zaf (b1 && b2 && b3) 2):=by rw [Hid,pcE,← hb1,← hb2,← hb3]
     have c1a:=zas hba c1
     clear hba hev hkl hr HBK hb1 hb2 hb3
     cases b1 <;> cases b2 <;> cases b3
     all_goals
      have HER2:pcE _=zaf _ _:=HER.out
      simp only [Bool.true_and,Bool.false_and,zaf,cond_true,cond_false] at HER2
      have HER3:=Lib.hid HER2
      clear HER HER2
      go_upto_region 11 with (fail)
      clear z0 z1 z2 z3 c1
      generalize wr.alloc (.cells #[.int .i64 pl,.int .i64 pg,.int .i64 pm,.bool pv] 124)=wa at *
      first
       | (have HN2:=Lib.hid (zc0 HSV.out HGO.out HER3.out)
          go_wp2_with (first | (go_at_call_of 96 (Value.int .i64 pl);refine (W1 _).mono ?_;rintro e w' ⟨rfl,rfl⟩) | (go_at_call_of 96 (Value.int .i64 pg);refine (W2 _).mono ?_;rintro e w' ⟨rfl,rfl⟩) | (go_at_call_of 96 (Value.int .i64 pm);refine (W3 _).mono ?_;rintro e w' ⟨rfl,rfl⟩))
          go_roundw
          case rel=>exact ⟨k+1,by omega,by go_num,HN2.out,HBA.out⟩
          case measure=>simp [intOf];omega)
       | (have HN2:Hid (V2=2):=by
           have h9:=zb4 (f:=fun _ p=>pcE p) HSV.out HGO.out (by rw [HER3.out];decide)
           rw [Hid,← h9]
           exact HER3.out
          go_wp2_with (first | (go_at_call_of 96 (Value.int .i64 pl);refine (W1 _).mono ?_;rintro e w' ⟨rfl,rfl⟩) | (go_at_call_of 96 (Value.int .i64 pg);refine (W2 _).mono ?_;rintro e w' ⟨rfl,rfl⟩) | (go_at_call_of 96 (Value.int .i64 pm);refine (W3 _).mono ?_;rintro e w' ⟨rfl,rfl⟩))
          go_ret2
          exact ⟨k,by rw [HN.out,HN2.out];rfl,by rw [HBW.out];exact HB.out.trans (HBA.out.mono (by omega))⟩)
   · have HN2:Hid (V2=0):=zcc (by rw [HL.out];omega) HGO.out
     go_wp2
     go_ret2
     exact ⟨0,by rw [HN.out,HN2.out];rfl,by rw [HBW.out];exact HB.out.trans (HBK.out.mono (by omega))⟩
theorem zh8 (w:World) (B:Nat) (nm:ByteArray) (s:SlV) (l:List Pc) (h:zcs w B s l.length (zck l)) (hB:B≤w.heap.size) (hn:l.length≤1000) (hs9:nm.size≤1000) :
 Calls Tryz.prog 39 #[zd3 nm s.A s.n s.c] w (zax w (zd4 nm l)):=by
 have hb0:=hB1 w (.cells #[.string nm,.slice s.A s.n s.c] 37)
 obtain ⟨c0,c1⟩:_∧_:=zay (W:=w.alloc (.cells #[.string nm,.slice s.A s.n s.c] 37)) (by rw [zae,if_pos rfl])
 have RT:=refTrack_any (w.alloc (.cells #[.string nm,.slice s.A s.n s.c] 37)) B nm s l (h.keep hb0) (Nat.le_trans hB hb0.size) hn hs9
 have HB:=Lib.hid hb0
 have hs0:=hb0.size
 generalize zd4 nm l=V at *
 unfold zd3 at RT ⊢
 clear h hb0
 go_enter Tryz.func39,Tryz.ntmps39
 go_upto_region 1 with (fail)
 generalize w.alloc (.cells #[.string nm,.slice s.A s.n s.c] 37)=w0 at *
 go_wp2_with (go_at_call 95;refine RT.mono ?_;rintro e w9 ⟨i,rfl,hb9⟩)
 go_ret
 exact ⟨rfl,HB.out.trans (hb9.mono hs0)⟩
end Go.Proofs.YtfdmeojcopkaoaaGreatDoor
namespace Go.Proofs.YtfdmeojcopkaoaaGreatDoor
open Go.RowKit
theorem netCopy_any (w:World) (B:Nat) (p:NetV) (h:FeedAt w B p) (hS:FeedS p) (hB:B≤w.heap.size) :
 Calls Tryz.prog 31 #[.agg (zc6 p).toArray] w (NetPost w p):=by
 obtain ⟨⟨As,ns,cs⟩,sts,⟨Af,nf,cf⟩,fss,⟨At,nt,ct⟩,tns⟩:=p
 show Calls Tryz.prog 31 #[.agg #[.slice As ns cs,.slice Af nf cf,.slice At nt ct]] w _
 have hl1:sts.length=ns:=h.sts.1
 have hl2:fss.length=nf:=h.fss.1
 have hl3:tns.length=nt:=h.tns.1
 have hn1:ns≤1000:=by rw [← hl1];exact hS.sts.1
 have hn2:nf≤1000:=by rw [← hl2];exact hS.fss
 have hn3:nt≤1000:=by rw [← hl3];exact hS.tns.1
 have k0:((w.alloc (.cells #[.slice As ns cs,.slice Af nf cf,.slice At nt ct] 31)).alloc (.cells #[.slice none 0 0,.slice none 0 0,.slice none 0 0] 31)).heap[w.heap.size]?=some (.cells #[.slice As ns cs,.slice Af nf cf,.slice At nt ct] 31 (0,0)):=by
  rw [zae,if_neg (by simp),zae,if_pos rfl]
 have k1:((w.alloc (.cells #[.slice As ns cs,.slice Af nf cf,.slice At nt ct] 31)).alloc (.cells #[.slice none 0 0,.slice none 0 0,.slice none 0 0] 31)).heap[w.heap.size+1]?=some (.cells #[.slice none 0 0,.slice none 0 0,.slice none 0 0] 31 (0,0)):=by
  rw [zae,if_pos (by simp)]
 have hb0:=hB2 w (.cells #[.slice As ns cs,.slice Af nf cf,.slice At nt ct] 31) (.cells #[.slice none 0 0,.slice none 0 0,.slice none 0 0] 31)
 have hs:=hS2 w (.cells #[.slice As ns cs,.slice Af nf cf,.slice At nt ct] 31) (.cells #[.slice none 0 0,.slice none 0 0,.slice none 0 0] 31)
 have HH:=Lib.hid ((h.keep hb0).mono hB)
 have HS:=Lib.hid hS
 have HB:=Lib.hid hb0
 have HL1:=Lib.hid hl1
 have HL2:=Lib.hid hl2
 have HL3:=Lib.hid hl3
 clear hb0 h hS hl1 hl2 hl3
 go_enter Tryz.func31,Tryz.ntmps31
 go_upto_region 1 with (fail)
 generalize ((w.alloc (.cells #[.slice As ns cs,.slice Af nf cf,.slice At nt ct] 31)).alloc (.cells #[.slice none 0 0,.slice none 0 0,.slice none 0 0] 31))=w0 at *
 generalize hbw:w.heap.size=bw at *
 have HBW:=Lib.hid hbw
 clear hbw
 obtain ⟨d0,d1,d2⟩:_∧_∧_:=zbc k0
 have x0:=fun y:Xt w0=>y.cell d0
 have x1:=fun y:Xt w0=>y.cell d1
 refine zaj [10] (fun w'=>∃ y:Xt w0,w'=y.1) (by kernel_rfl) ⟨⟨w0.drew,(Below.refl _ _).drew⟩,rfl⟩ ?_
 refine zdv [1,2,5,6] 7 rfl (by kernel_rfl) ?_
 simp only [zad,zac,zaa,zX1,zX2,zX3]
 repeat (go_big_quiet_step (fail))
 refine wpQuiet_nil ?_
 have hbd:Below w0.heap.size w0 w0.drew:=(Below.refl _ _).drew
 show wpE _ _ _ _ _ _ _ _ _ w0.drew
 generalize w0.drew=wd at *
 clear x0 x1
 refine zdr (g:=1) [0,3,4,7,8,9] (NetI bw As Af At ns cs nf cf nt ct sts fss w0) rfl (by kernel_rfl) ?_ ?_ ?_
 · exact ⟨undef,undef,undef,undef,undef,undef,rfl,hbd,fun h=>absurd (show false=true from h) (by decide),fun h=>absurd (show false=true from h) (by decide),fun h=>absurd (show false=true from h) (by decide),fun h=>absurd (show false=true from h) (by decide),fun h=>absurd (show false=true from h) (by decide),fun h=>absurd (show false=true from h) (by decide)⟩
 · intro a w8 hS8 hI
   obtain ⟨e3,e6,e9,e10,e13,e14,rfl,hb8,_,hF9,_,hF13,hF14,hB3⟩:=hI
   obtain ⟨A1,c1,rfl,hc1,hf1⟩:=hF9 (by kernel_rfl)
   obtain ⟨A2,c2,rfl,hc2,hf2⟩:=hF13 (by kernel_rfl)
   obtain ⟨_,_,rfl⟩:=hF14 (by kernel_rfl)
   obtain ⟨b3,rfl,hx3,hk3⟩:=hB3 (by kernel_rfl)
   refine zau rfl (by kernel_rfl) ?_
   simp only [zad,zac,zaa,zX1,zX2,zX3]
   unfold netFr
   refine wpList_store_row rfl 31 _ _ rfl b3 #[.slice A1 ns c1,.slice A2 nf c2,.slice none 0 0] rfl rfl 31 _ hk3 (by kernel_rfl) rfl (by kernel_rfl) ?_
   go_wp2
   refine zab ?_
   have hkr:=setRow_heap w8 b3 _ #[.slice A1 ns c1,.slice A2 nf c2,.slice none 0 0] 31 (0,0) hk3
   have hb2:Below w0.heap.size w0 (w8.setRow b3 #[.slice A1 ns c1,.slice A2 nf c2,.slice none 0 0]):=below_setRow hb8 hx3 _
   have ho1:=zar hf1 #[.slice A1 ns c1,.slice A2 nf c2,.slice none 0 0] (zca hf1 hk3 (by decide))
   have ho2:=zar hf2 #[.slice A1 ns c1,.slice A2 nf c2,.slice none 0 0] (zca hf2 hk3 (by decide))
   generalize w8.setRow b3 #[.slice A1 ns c1,.slice A2 nf c2,.slice none 0 0]=w2 at *
   have HB2:=Lib.hid hb2
   have HKR:=Lib.hid hkr
   have HO12:=Lib.hid (And.intro ho1 ho2)
   have HX3:=Lib.hid hx3
   have k1z:=(hb2.block (bw+1) (by omega)).trans k1
   clear hb8 hf1 hf2 hk3 hS8 hbd hkr hb2 ho1 ho2 d0 d1 d2
   go_wp2
   go_loopw [4] (fun u wr=>CpnRel w0.heap.size b3 w0 ⟨⟨As,ns,cs⟩,sts,⟨Af,nf,cf⟩,fss,⟨At,nt,ct⟩,tns⟩ A1 A2 c1 c2 u wr) (fun u _=>nt - (intOf u).toNat)
   case atStart=>exact ⟨0,none,0,[],Nat.zero_le _,rfl,HB2.out,HKR.out,⟨HO12.out.1,HO12.out.2,fun t ht=>absurd ht (by simp)⟩,⟨rfl,.inl ⟨rfl,rfl⟩⟩,rfl⟩
   case round =>
    obtain ⟨k,A3,c3,q,hk,rfl,hb,hk3,hO,ho3,hkey⟩:=hrel
    simp only at hk hk3 hkey
    have HKEY:=Lib.hid hkey
    have HBK:=Lib.hid hb
    have HF:=HH.out.belowC (hb.mono (by omega))
    have hsk:=hb.size
    have k0r:=(hb.block bw (by omega)).trans k0
    have k1r:=(hb.block (bw+1) (by omega)).trans k1
    have hb3:=lt_of_block hk3
    obtain ⟨d0,d1,d2⟩:_∧_∧_:=zbc k0r
    clear hkey hb HB2 HKR HO12
    by_cases hlt:k<nt
    · have hkl:k<tns.length:=by rw [HL3.out];exact hlt
      obtain ⟨x,hev⟩:∃ ev,tns[k]?=some ev:=⟨_,List.getElem?_eq_getElem hkl⟩
      have hxm:=List.mem_of_getElem? hev
      obtain ⟨hz9,hz8⟩:=(HS.out.tns.2 _ hxm)
      obtain ⟨bb,off,rfl,hbB,z0,z1,z2,z3⟩:=Rd.tn HF.tns.2 hev
      obtain ⟨hxl,hxr⟩:=HF.tn x hxm
      have hba:=hB1 wr (.cells #[.string x.nm,.int .i64 x.e1,.int .i64 x.e2,.slice x.s.A x.s.n x.s.c] 75)
      have k4:=hA1 wr (.cells #[.string x.nm,.int .i64 x.e1,.int .i64 x.e2,.slice x.s.A x.s.n x.s.c] 75)
      have hxr0:=hxr.below (hba.mono (by omega))
      have hOa:=hO.keep hba
      have ho3a:=zag ho3 hba
      have hk3a:=blk hba hk3
      have hney:=own_hi ho3 (Nat.le_refl wr.heap.size)
      have HBA:=Lib.hid (HBK.out.trans (hba.mono hsk))
      have hsa:=Nat.le_trans hsk hba.size
      have HEV:=Lib.hid hev
      have HXL:=Lib.hid hxl
      have hxn:x.s.n≤1000:=by rw [← hxl];exact hz8
      obtain ⟨i1,hi1,hy0,hy1,hy2⟩:=info_parts info75s
      obtain ⟨i2,hj1,hv0,hv1,hv2⟩:=info_parts info122s
      have hya:wr.heap.size<(wr.alloc (.cells #[.string x.nm,.int .i64 x.e1,.int .i64 x.e2,.slice x.s.A x.s.n x.s.c] 75)).heap.size:=by simp
      clear hkl hev hba HF HBK hxl hz8 hz9 hxm hxr hO ho3 k0r
      go_upto_region 6 with (fail)
      clear z0 z1 z2 z3 d0 d1 d2 hk3
      generalize wr.alloc (.cells #[.string x.nm,.int .i64 x.e1,.int .i64 x.e2,.slice x.s.A x.s.n x.s.c] 75)=wa at *
      generalize wr.heap.size=y at *
      obtain ⟨y0,y1,y2,y3⟩:_∧_∧_∧_:=za9 k4
      have hbz:=hB1 wa (.cells #[] 122)
      go_wp2_with (at_builtin;refine stp ?_)
      unfold Stp
      refine zbb _ rfl _ _ 73 rfl w0.heap.size 122 i2 _ 2 16 Tryz.underlying73 hj1 hv0 hv1 hv2 rfl (by omega) wa.heap.size rfl (by rw [zae,if_pos rfl]) hsa bw x.s.A x.s.n x.s.c (zc2 x.steps) rfl (by rw [spCells_len,HXL.out]) (hxr0.below (hbz.mono (by omega))) (zd8 spVals_one _) (by simp only [maxLen];omega) (by omega) (by simp;omega) ?_
      intro g cap w1 hown hgrow _
      have hb1:Below wa.heap.size wa w1:=hbz.grown hgrow (by simp) (fun k hk=>by rw [← Option.some.inj hk];exact Nat.le_refl _)
      have hOb:=hOa.keep hb1
      have ho3b:=zag ho3a hb1
      have hk3b:=blk hb1 hk3a
      have k4b:=blk hb1 k4
      have HB1:=Lib.hid (HBA.out.trans (hb1.mono hsa))
      have hs1:=Nat.le_trans hsa hb1.size
      obtain ⟨p0,p1,p2,p3⟩:_∧_∧_∧_:=za9 k4b
      have f3:=frozen_of_row w1 y 3 _ _ k4b
      have hneg:=zca hown k4b (by decide)
      clear hbz hgrow hOa ho3a hk3a hb1 y0 y1 y2 y3 HBA k4 hxr0 hv0 hv1 hv2 hj1
      go_upto_region 7 with (fail)
      have k4c:(w1.setCell ⟨y,3,none⟩ (.slice (some ⟨g,0,none⟩) x.s.n cap)).heap[y]?=some (.cells #[.string x.nm,.int .i64 x.e1,.int .i64 x.e2,.slice (some ⟨g,0,none⟩) x.s.n cap] 75 (0,0)):=zdw k4b 3 _
      have hOc:=hOb.other (w':=w1.setCell ⟨y,3,none⟩ (.slice (some ⟨g,0,none⟩) x.s.n cap)) (fun k t cur ht hk=>zdm hk (zcb hk k4b (by omega)) _ _ |>.trans hk.symm)
      have ho3c:=zbx (i:=3) (u:=.slice (some ⟨g,0,none⟩) x.s.n cap) ho3b hney
      have hownc:=zbx (i:=3) (u:=.slice (some ⟨g,0,none⟩) x.s.n cap) hown hneg
      have hk3c:=zdm hk3b (zcb hk3b k4b (by decide)) 3 (.slice (some ⟨g,0,none⟩) x.s.n cap)
      have HB3:=Lib.hid (HB1.out.setCell (p:=⟨y,3,none⟩) (show w0.heap.size≤y by omega) (.slice (some ⟨g,0,none⟩) x.s.n cap))
      have hs3:w0.heap.size≤(w1.setCell ⟨y,3,none⟩ (.slice (some ⟨g,0,none⟩) x.s.n cap)).heap.size:=by simp;omega
      clear p0 p1 p2 p3 f3 hOb ho3b hk3b k4b HB1 hown hneg hs1
      generalize w1.setCell ⟨y,3,none⟩ (.slice (some ⟨g,0,none⟩) x.s.n cap)=w2 at *
      obtain ⟨y0,y1,y2,y3⟩:_∧_∧_∧_:=za9 k4c
      obtain ⟨b0,b1,b2⟩:_∧_∧_:=zbc hk3c
      have hbz:=hB1 w2 (.cells #[.string x.nm,.int .i64 x.e1,.int .i64 x.e2,.slice (some ⟨g,0,none⟩) x.s.n cap] 75)
      go_wp2_with (at_builtin;refine stp ?_)
      unfold Stp
      refine wpList_append_lies _ rfl _ _ 29 rfl w0.heap.size 75 i1 _ 4 56 Tryz.underlying29 hi1 hy0 hy1 hy2 rfl (by omega) (.slice A3 k c3) k _ rfl (ho3c.alloc _) ⟨w2.heap.size,0,none⟩ 1 1 [.string x.nm,.int .i64 x.e1,.int .i64 x.e2,.slice (some ⟨g,0,none⟩) x.s.n cap] rfl rfl (zen (f:=(0,0)) (t:=75) (by rw [zae,if_pos rfl])) (by simp [Value.oneCell']) (by omega) (by simp only [maxLen];omega) (by omega) (by simp;omega) _ rfl ?_
      intro gg cap2 w6 hown6 hgrow6 _ _
      have ho3d:=zag ho3c hbz
      have hk3d:=blk hbz hk3c
      have hk3e:w6.heap[b3]?=some (.cells #[.slice A1 ns c1,.slice A2 nf c2,.slice A3 k c3] 31 (0,0)):=(hgrow6.block b3 (lt_of_block hk3d) (fun he=>zca ho3d hk3d (by decide) b3 he.symm rfl)).trans hk3d
      have hOd:=(hOc.keep hbz).other (w':=w6) (fun k' t cur ht hk'=>hgrow6.block k' (lt_of_block hk') (fun he=>zca ho3d hk' (by omega) k' he.symm rfl))
      have hownd:=zbj (w':=w6) (zag hownc hbz) (fun k' cur hk'=>hgrow6.block k' (lt_of_block hk') (fun he=>zca ho3d hk' (by decide) k' he.symm rfl))
      have HB6:=Lib.hid ((HB3.out.trans (hbz.mono hs3)).grown hgrow6 (by simp;omega) (fun j hj=>(zbf ho3d hj).1))
      obtain ⟨b0',b1',b2'⟩:_∧_∧_:=zbc hk3e
      have f2:=frozen_of_row w6 b3 2 _ _ hk3e
      clear b0 b1 b2 y0 y1 y2 y3 hOc ho3c hownc hk3c hbz k4c hgrow6 ho3d hk3d HB3 hy0 hy1 hy2 hi1
      go_wp2
      have hk3f:(w6.setCell ⟨b3,2,none⟩ (.slice (some ⟨gg,0,none⟩) (k+1) cap2)).heap[b3]?=some (.cells #[.slice A1 ns c1,.slice A2 nf c2,.slice (some ⟨gg,0,none⟩) (k+1) cap2] 31 (0,0)):=zdw hk3e 2 _
      have HK3:=Lib.hid hk3f
      have HOf:=Lib.hid (hOd.other (w':=w6.setCell ⟨b3,2,none⟩ (.slice (some ⟨gg,0,none⟩) (k+1) cap2)) (fun k t cur ht hk=>zdm hk (zcb hk hk3e (by omega)) _ _ |>.trans hk.symm))
      have HOw:=Lib.hid (zbx (i:=2) (u:=.slice (some ⟨gg,0,none⟩) (k+1) cap2) hownd (zca hownd hk3e (by decide)))
      have HO6:=Lib.hid (zbx (i:=2) (u:=.slice (some ⟨gg,0,none⟩) (k+1) cap2) hown6 (zca hown6 hk3e (by decide)))
      have HB7:=Lib.hid (HB6.out.setCell (p:=⟨b3,2,none⟩) HX3.out (.slice (some ⟨gg,0,none⟩) (k+1) cap2))
      clear hk3f hOd hownd hown6 hk3e b0' b1' b2' f2 HB6
      go_roundw
      case rel =>
       refine ⟨k+1,some ⟨gg,0,none⟩,cap2,q++[⟨x.nm,x.e1,x.e2,⟨some ⟨g,0,none⟩,x.s.n,cap⟩,x.steps⟩],hlt,by go_num,HB7.out,HK3.out,⟨HOf.out.sts,HOf.out.fss,fun t ht=>?_⟩,?_,?_⟩
       · rcases List.mem_append.1 ht with h | h
         · exact HOf.out.tn t h
         · rw [List.mem_singleton] at h
           subst h
           exact ⟨HXL.out,HOw.out⟩
       · have e:zej (q++[⟨x.nm,x.e1,x.e2,⟨some ⟨g,0,none⟩,x.s.n,cap⟩,x.steps⟩])=zej q++[.string x.nm,.int .i64 x.e1,.int .i64 x.e2,.slice (some ⟨g,0,none⟩) x.s.n cap]:=by simp [zej,zjr,SlV.v]
         rw [e]
         exact HO6.out
       · rw [List.take_add_one,HEV.out,List.map_append,List.map_append,HKEY.out]
         rfl
      case measure=>simp [intOf];omega
    · have hke:nt=k:=by omega
      have hT:tns.take k=tns:=List.take_of_length_le (by rw [HL3.out];omega)
      have HKE:=HKEY.out
      rw [hT] at HKE
      have HKF:=Lib.hid HKE
      have hlq:q.length=nt:=by
       have h9:=congrArg List.length HKE
       rw [List.length_map,List.length_map,HL3.out] at h9
       exact h9
      have HLQ:=Lib.hid hlq
      have HO:=Lib.hid hO
      have HO3:=Lib.hid ho3
      have HKK:=Lib.hid hke
      clear hT HKE hlq hO ho3 hke
      go_wp2_with (with_reducible refine zaz 31 ?_)
      unfold Stp
      refine wpList_load_row rfl 31 _ rfl b3 rfl 31 _ (0,0) _ hk3 Tryz.underlying31 rfl (by kernel_rfl) ?_
      go_wp2_with (with_reducible refine zat 31 ?_)
      unfold Stp
      refine wpList_store_row rfl 31 _ _ rfl (bw+1) _ rfl rfl 31 _ k1r (by kernel_rfl) rfl (by kernel_rfl) ?_
      go_wp2
      have hFO:FeedOw wr w0.heap.size ⟨⟨A1,ns,c1⟩,sts,⟨A2,nf,c2⟩,fss,⟨A3,k,c3⟩,q⟩:=⟨HO.out.sts,HO.out.fss,HO3.out,HO.out.tn,HL1.out,HL2.out,by rw [← HKK.out];exact HLQ.out⟩
      refine bodyPost_ret (v:=.agg #[.slice A1 ns c1,.slice A2 nf c2,.slice A3 k c3]) (results_cell_row rfl _ _ (bw+1) 31 _ (0,0) _ rfl (setRow_heap wr (bw+1) _ _ 31 (0,0) k1r) Tryz.underlying31 rfl (by kernel_rfl)) rfl ⟨⟨⟨A1,ns,c1⟩,sts,⟨A2,nf,c2⟩,fss,⟨A3,k,c3⟩,q⟩,rfl,rfl,HKF.out,rfl,?_,?_⟩
      · rw [HBW.out]
        exact (hFO.setRow _ (by omega)).base (by omega)
      · rw [HBW.out]
        exact below_setRow (HB.out.trans (HBK.out.mono (by omega))) (by omega) _
 · intro i hi L a w8 hL hd hS8 hI
   obtain ⟨e3,e6,e9,e10,e13,e14,rfl,hb8,hE6,hF9,hE10,hF13,hF14,hB3⟩:=hI
   simp only [List.mem_cons,List.not_mem_nil,or_false] at hi
   rcases hi with rfl | rfl | rfl | rfl | rfl | rfl
   · 
     unfold zap
     simp only [zad,zac,zaa,zX1,zX2]
     unfold netFr
     go_wp2
     have hbn:=hB1 w8 (.cells #[] 72)
     have hbx:=hb8.trans (hbn.mono hb8.size)
     exact zab ⟨⟨⟨_,hbx⟩,rfl⟩,⟨e3,_,e9,e10,e13,e14,rfl,hbx,fun _=>⟨w8.heap.size,rfl,hb8.size,fun _=>by rw [zae,if_pos rfl]⟩,fun h=>(hF9 h).keep hbn,fun h=>(hE10 h).keep hbn,fun h=>(hF13 h).keep hbn,fun h=>hF14 h,fun h=>(hB3 h).keep hbn⟩⟩
   · 
     obtain ⟨g,rfl,hg,h0⟩:=hE6 (hd 0 (by kernel_rfl))
     replace h0:=h0 hL
     obtain ⟨i1,hi1,hy0,hy1,hy2⟩:=info_parts info72s
     have hrd:=(HH.out.sts.2).below (hb8.mono (by omega))
     have hgl:=lt_of_block h0
     unfold zap
     simp only [zad,zac,zaa,zX1,zX2,zX3]
     unfold netFr
     refine zbb w8 rfl _ _ 27 rfl w0.heap.size 72 i1 _ 3 32 Tryz.underlying27 hi1 hy0 hy1 hy2 rfl (by omega) g rfl h0 hg bw As ns cs (ze1 sts) rfl (by rw [stCells_len,HL1.out]) hrd (zd8 stVals_one _) (by simp only [maxLen];omega) (by omega) hb8.size ?_
     intro g2 c2 w9 hown hgrow _
     have hbx:Below w0.heap.size w0 w9:=hb8.grown hgrow hb8.size (fun k hk=>by rw [← Option.some.inj hk];exact hg)
     have hcp:=zbn hown
     go_wp2
     exact zab ⟨⟨⟨_,hbx⟩,rfl⟩,⟨e3,_,_,e10,e13,e14,rfl,hbx,fun h=>(hE6 h).used,fun _=>⟨_,_,rfl,hcp,hown⟩,fun h=>(hE10 h).grown hgrow h0 (by decide),fun h=>(hF13 h).grown hgrow h0 (by decide),fun h=>absurd (hF14 h).1 (by rw [hL];decide),fun h=>(hB3 h).grown hgrow h0 (by simp)⟩⟩
   · 
     unfold zap
     simp only [zad,zac,zaa,zX1,zX2,zX3]
     unfold netFr
     go_wp2
     have hbn:=hB1 w8 (.cells #[] 120)
     have hbx:=hb8.trans (hbn.mono hb8.size)
     exact zab ⟨⟨⟨_,hbx⟩,rfl⟩,⟨e3,e6,e9,_,e13,e14,rfl,hbx,fun h=>(hE6 h).keep hbn,fun h=>(hF9 h).keep hbn,fun _=>⟨w8.heap.size,rfl,hb8.size,fun _=>by rw [zae,if_pos rfl]⟩,fun h=>(hF13 h).keep hbn,fun h=>hF14 h,fun h=>(hB3 h).keep hbn⟩⟩
   · 
     obtain ⟨g,rfl,hg,h0⟩:=hE10 (hd 4 (by kernel_rfl))
     replace h0:=h0 hL
     obtain ⟨i1,hi1,hy0,hy1,hy2⟩:=info_parts info120s
     have hrd:=(HH.out.fss.2).below (hb8.mono (by omega))
     have hgl:=lt_of_block h0
     unfold zap
     simp only [zad,zac,zaa,zX1,zX2,zX3]
     unfold netFr
     refine zbb w8 rfl _ _ 28 rfl w0.heap.size 120 i1 _ 4 32 Tryz.underlying28 hi1 hy0 hy1 hy2 rfl (by omega) g rfl h0 hg bw Af nf cf (ze8 fss) rfl (by rw [fsCells_len,HL2.out]) hrd (zd8 fsVals_one _) (by simp only [maxLen];omega) (by omega) hb8.size ?_
     intro g2 c2 w9 hown hgrow _
     have hbx:Below w0.heap.size w0 w9:=hb8.grown hgrow hb8.size (fun k hk=>by rw [← Option.some.inj hk];exact hg)
     have hcp:=zbn hown
     go_wp2
     exact zab ⟨⟨⟨_,hbx⟩,rfl⟩,⟨e3,e6,e9,_,_,e14,rfl,hbx,fun h=>(hE6 h).grown hgrow h0 (by decide),fun h=>(hF9 h).grown hgrow h0 (by decide),fun h=>(hE10 h).used,fun _=>⟨_,_,rfl,hcp,hown⟩,fun h=>absurd (hF14 h).2.1 (by rw [hL];decide),fun h=>(hB3 h).grown hgrow h0 (by simp)⟩⟩
   · 
     obtain ⟨A1,c1,rfl,hc1,hf1⟩:=hF9 (hd 3 (by kernel_rfl))
     obtain ⟨A2,c2,rfl,hc2,hf2⟩:=hF13 (hd 7 (by kernel_rfl))
     unfold zap
     simp only [zad,zac,zaa,zX1,zX2,zX3]
     unfold netFr
     go_wp2
     exact zab ⟨⟨⟨_,hb8⟩,rfl⟩,⟨e3,e6,_,e10,_,_,rfl,hb8,hE6,hF9,hE10,hF13,fun _=>⟨hd 3 (by kernel_rfl),hd 7 (by kernel_rfl),rfl⟩,hB3⟩⟩
   · 
     unfold zap
     simp only [zad,zac,zaa,zX1,zX2,zX3]
     unfold netFr
     go_wp2
     have hbn:=hB1 w8 (.cells #[.slice none 0 0,.slice none 0 0,.slice none 0 0] 31)
     have hbx:=hb8.trans (hbn.mono hb8.size)
     exact zab ⟨⟨⟨_,hbx⟩,rfl⟩,⟨_,e6,e9,e10,e13,e14,rfl,hbx,fun h=>(hE6 h).keep hbn,fun h=>(hF9 h).keep hbn,fun h=>(hE10 h).keep hbn,fun h=>(hF13 h).keep hbn,fun h=>hF14 h,fun _=>⟨w8.heap.size,rfl,hb8.size,by rw [zae,if_pos rfl]⟩⟩⟩
end Go.Proofs.YtfdmeojcopkaoaaGreatDoor
