import Derived.Test.YtfdmeojcopkaoaaGreatDoorf3S3
import Derived.Test.YtfdmeojcopkaoaaGreatDoorf3M5
import Derived.Test.YtfdmeojcopkaoaaGreatDoorf3Q6
set_option maxRecDepth 100000
set_option maxHeartbeats 16000000
namespace Go.Proofs.YtfdmeojcopkaoaaGreatDoor
open Go.RowKit
theorem zj5 (x:Int):zai x 0 1=zfq x:=by
 unfold zai zfq
 by_cases h0:x=0
 · subst h0;rfl
 · by_cases h1:x=1
   · subst h1;rfl
   · have e:¬ (0≤x∧x≤1):=by omega
     simp [h0,h1]
     intro h
     omega
def VbRel (w0:World) (l:List Int) (n:Nat) (V:Bool) (u:Value) (wr:World):Prop:=∃ k:Nat,k≤n∧u=.int .i64 k∧(l.drop k).all zfq=V∧Below w0.heap.size w0 wr
theorem refVanes_any (w:World) (B:Nat) (v:VanV) (h:zcs w B v.vs v.vanes.length (zah v.vanes)) (hB:B≤w.heap.size) (hn:v.vanes.length≤1000) :
 Calls Tryz.prog 94 #[.agg (za6 v).toArray] w fun e w'=>∃ i:Int,e=.returned (.tuple #[.int .i64 i,.int .i64 (zja v)])∧Below w.heap.size w w':=by
 obtain ⟨⟨A,n,c⟩,l,wi,tqo,pe,fi,mo,sl,er,ro⟩:=v
 show Calls Tryz.prog 94 #[.agg #[.slice A n c,.int .i64 wi,.int .i64 tqo,.int .i64 pe,.int .i64 fi,.int .i64 mo,.int .i64 sl,.int .i64 er,.bool ro]] w _
 obtain ⟨hl,hr⟩:=h
 simp only at hl hr hn
 rw [hl] at hn
 have HL:=Lib.hid hl
 have k0:=hA1 w (.cells #[.slice A n c,.int .i64 wi,.int .i64 tqo,.int .i64 pe,.int .i64 fi,.int .i64 mo,.int .i64 sl,.int .i64 er,.bool ro] 34)
 have hb0:=hB1 w (.cells #[.slice A n c,.int .i64 wi,.int .i64 tqo,.int .i64 pe,.int .i64 fi,.int .i64 mo,.int .i64 sl,.int .i64 er,.bool ro] 34)
 have HR:=Lib.hid (hr.below (hb0.mono hB))
 have HB:=Lib.hid hb0
 have hs0:=hS1 w (.cells #[.slice A n c,.int .i64 wi,.int .i64 tqo,.int .i64 pe,.int .i64 fi,.int .i64 mo,.int .i64 sl,.int .i64 er,.bool ro] 34)
 obtain ⟨q0,hq0⟩:∃ q,zai wi 1 12=q:=⟨_,rfl⟩
 obtain ⟨q1,hq1⟩:∃ q,zai tqo 1 1000=q:=⟨_,rfl⟩
 obtain ⟨q2,hq2⟩:∃ q,zai pe 1 12=q:=⟨_,rfl⟩
 obtain ⟨q3,hq3⟩:∃ q,zai fi 0 999000000=q:=⟨_,rfl⟩
 obtain ⟨q4,hq4⟩:∃ q,zai mo 1 1000=q:=⟨_,rfl⟩
 obtain ⟨q5,hq5⟩:∃ q,zai sl 0 mo=q:=⟨_,rfl⟩
 obtain ⟨q6,hq6⟩:∃ q,zai er 0 wi=q:=⟨_,rfl⟩
 have D0:=fun W=>za2 wi 1 12 q0 hq0 W
 have D1:=fun W=>za2 tqo 1 1000 q1 hq1 W
 have D2:=fun W=>za2 pe 1 12 q2 hq2 W
 have D3:=fun W=>za2 fi 0 999000000 q3 hq3 W
 have D4:=fun W=>za2 mo 1 1000 q4 hq4 W
 have D5:=fun W=>za2 sl 0 mo q5 hq5 W
 have D6:=fun W=>za2 er 0 wi q6 hq6 W
 obtain ⟨V,hV⟩:∃ V,zja ⟨⟨A,n,c⟩,l,wi,tqo,pe,fi,mo,sl,er,ro⟩=V:=⟨_,rfl⟩
 rw [hV]
 obtain ⟨VB,hVB⟩:∃ b,l.all zfq=b:=⟨_,rfl⟩
 have HV:Hid (V=if zam [zaf q0 2,zaf (decide (wi≤(n:Int))) 10,zaf (decide ((n:Int)≤40)) 8]=0 then (if VB=true then zaf (q1 && q2 && q3 && q4 && q5 && q6) 2 else 15) else zam [zaf q0 2,zaf (decide (wi≤(n:Int))) 10,zaf (decide ((n:Int)≤40)) 8]):=by
  rw [Hid,← hV,← hq0,← hq1,← hq2,← hq3,← hq4,← hq5,← hq6,← hVB,zja]
  simp only [HL.out]
  rfl
 have HVB:=Lib.hid hVB
 clear hl hr hb0 hq0 hq1 hq2 hq3 hq4 hq5 hq6 hV hVB
 go_enter Tryz.func94,Tryz.ntmps94
 go_upto_region 1 with (fail)
 generalize (w.alloc (.cells #[.slice A n c,.int .i64 wi,.int .i64 tqo,.int .i64 pe,.int .i64 fi,.int .i64 mo,.int .i64 sl,.int .i64 er,.bool ro] 34))=w0 at *
 generalize hbw:w.heap.size=bw at *
 have HBW:=Lib.hid hbw
 clear hbw
 have c0:=(cell_of_row w0 bw 0 _ _ _ k0).trans (by rfl:_=some (.slice A n c))
 have c1:=(cell_of_row w0 bw 1 _ _ _ k0).trans (by rfl:_=some (.int .i64 wi))
 cases q0 with
 | false =>
  have HN:Hid (V=2):=by rw [Hid,HV.out];rfl
  go_wp2_with (go_at_call 96;refine (D0 _).mono ?_;rintro e w' ⟨rfl,rfl⟩)
  go_ret2
  exact ⟨0,by rw [HN.out];rfl,by rw [HBW.out];exact HB.out⟩
 | true =>
  by_cases h1:(n:Int)<wi
  · have HN:Hid (V=10):=by
     have g:¬ wi≤(n:Int):=by omega
     rw [Hid,HV.out]
     simp only [g,decide_false]
     rfl
    go_wp2_with (go_at_call 96;refine (D0 _).mono ?_;rintro e w' ⟨rfl,rfl⟩)
    go_ret2
    exact ⟨0,by rw [HN.out];rfl,by rw [HBW.out];exact HB.out⟩
  by_cases h2:(40:Int)<(n:Int)
  · have HN:Hid (V=8):=by
     have g:wi≤(n:Int):=by omega
     have g2:¬ (n:Int)≤40:=by omega
     rw [Hid,HV.out]
     simp only [g,g2,decide_true,decide_false]
     rfl
    go_wp2_with (go_at_call 96;refine (D0 _).mono ?_;rintro e w' ⟨rfl,rfl⟩)
    go_ret2
    exact ⟨0,by rw [HN.out];rfl,by rw [HBW.out];exact HB.out⟩
  have HN:Hid (V=if VB=true then zaf (q1 && q2 && q3 && q4 && q5 && q6) 2 else 15):=by
   have g:wi≤(n:Int):=by omega
   have g2:(n:Int)≤40:=by omega
   rw [Hid,HV.out]
   simp only [g,g2,decide_true]
   rfl
  clear HV
  go_wp2_with (go_at_call 96;refine (D0 _).mono ?_;rintro e w' ⟨rfl,rfl⟩)
  clear D0
  go_loopw [4] (fun u wr=>VbRel w0 l n VB u wr) (fun u _=>n - (intOf u).toNat)
  case atStart=>exact ⟨0,Nat.zero_le _,rfl,HVB.out,Below.refl _ _⟩
  case round =>
   clear HVB
   obtain ⟨k,hk,rfl,hgo,hb⟩:=hrel
   have HGO:=Lib.hid hgo
   have HBK:=Lib.hid hb
   have hr:=HR.out.below (hb.mono (by omega))
   have hsk:=hb.size
   replace k0:=blk hb k0
   clear hgo hb c0 c1
   have c0:=(cell_of_row wr bw 0 _ _ _ k0).trans (by rfl:_=some (.slice A n c))
   by_cases hlt:k<n
   · have hkl:k<l.length:=by rw [HL.out];exact hlt
     obtain ⟨x,hev⟩:∃ ev,l[k]?=some ev:=⟨_,List.getElem?_eq_getElem hkl⟩
     obtain ⟨bb,off,rfl,hbB,z0⟩:=hr.at_ (k:=k) (u:=.int .i64 x) (by simp [zah,hev])
     have HST:=Lib.hid (za5 hev)
     obtain ⟨b,hb⟩:∃ b,zfq x=b:=⟨_,rfl⟩
     have WI:=fun W=>za2 x 0 1 b ((zj5 x).trans hb) W
     have HBI:=Lib.hid hb
     clear hkl hev hb D1 D2 D3 D4 D5 D6
     cases b with
     | true =>
      have HN2:Hid ((l.drop (k+1)).all zfq=VB):=by
       have h9:=HGO.out
       rw [HST.out,List.all_cons,HBI.out] at h9
       exact h9
      go_wp2_with (go_at_call 96;refine (WI _).mono ?_;rintro e w' ⟨rfl,rfl⟩)
      go_roundw
      case rel=>exact ⟨k+1,by omega,by go_num,HN2.out,HBK.out⟩
      case measure=>simp [intOf];omega
     | false =>
      have HV6:Hid (V=15):=by
       have h9:=HGO.out
       rw [HST.out,List.all_cons,HBI.out] at h9
       rw [Hid,HN.out,← h9]
       rfl
      go_wp2_with (go_at_call 96;refine (WI _).mono ?_;rintro e w' ⟨rfl,rfl⟩)
      go_ret2
      exact ⟨k,by rw [HV6.out];rfl,by rw [HBW.out];exact HB.out.trans (HBK.out.mono (by omega))⟩
   · have HV5:Hid (VB=true):=by
      have h9:=HGO.out
      rw [List.drop_eq_nil_iff.2 (by rw [HL.out];omega)] at h9
      rw [Hid,← h9]
      rfl
     have HV6:Hid ((if VB=true then zaf (q1 && q2 && q3 && q4 && q5 && q6) 2 else (15:Int))=zaf (q1 && q2 && q3 && q4 && q5 && q6) 2):=if_pos HV5.out
     clear HV5 HGO
     have c1:=(cell_of_row wr bw 1 _ _ _ k0).trans (by rfl:_=some (.int .i64 wi))
     have c2:=(cell_of_row wr bw 2 _ _ _ k0).trans (by rfl:_=some (.int .i64 tqo))
     have c3:=(cell_of_row wr bw 3 _ _ _ k0).trans (by rfl:_=some (.int .i64 pe))
     have c4:=(cell_of_row wr bw 4 _ _ _ k0).trans (by rfl:_=some (.int .i64 fi))
     have c5:=(cell_of_row wr bw 5 _ _ _ k0).trans (by rfl:_=some (.int .i64 mo))
     have c6:=(cell_of_row wr bw 6 _ _ _ k0).trans (by rfl:_=some (.int .i64 sl))
     have c7:=(cell_of_row wr bw 7 _ _ _ k0).trans (by rfl:_=some (.int .i64 er))
     go_upto_region 12 with (fail)
     cases q1 with
     | false =>
      go_wp2_with (first | (go_at_call_of 96 (Value.int .i64 sl);refine (D5 _).mono ?_;rintro e w' ⟨rfl,rfl⟩) | (go_at_call_of 96 (Value.int .i64 er);refine (D6 _).mono ?_;rintro e w' ⟨rfl,rfl⟩) | (go_at_call_of 96 (Value.int .i64 tqo);refine (D1 _).mono ?_;rintro e w' ⟨rfl,rfl⟩) | (go_at_call_of 96 (Value.int .i64 pe);refine (D2 _).mono ?_;rintro e w' ⟨rfl,rfl⟩) | (go_at_call_of 96 (Value.int .i64 fi);refine (D3 _).mono ?_;rintro e w' ⟨rfl,rfl⟩) | (go_at_call_of 96 (Value.int .i64 mo);refine (D4 _).mono ?_;rintro e w' ⟨rfl,rfl⟩))
      go_ret2
      exact ⟨0,by rw [HN.out,HV6.out];rfl,by rw [HBW.out];exact HB.out.trans (HBK.out.mono (by omega))⟩
     | true =>
      cases q2 with
      | false =>
       go_wp2_with (first | (go_at_call_of 96 (Value.int .i64 sl);refine (D5 _).mono ?_;rintro e w' ⟨rfl,rfl⟩) | (go_at_call_of 96 (Value.int .i64 er);refine (D6 _).mono ?_;rintro e w' ⟨rfl,rfl⟩) | (go_at_call_of 96 (Value.int .i64 tqo);refine (D1 _).mono ?_;rintro e w' ⟨rfl,rfl⟩) | (go_at_call_of 96 (Value.int .i64 pe);refine (D2 _).mono ?_;rintro e w' ⟨rfl,rfl⟩) | (go_at_call_of 96 (Value.int .i64 fi);refine (D3 _).mono ?_;rintro e w' ⟨rfl,rfl⟩) | (go_at_call_of 96 (Value.int .i64 mo);refine (D4 _).mono ?_;rintro e w' ⟨rfl,rfl⟩))
       go_ret2
       exact ⟨0,by rw [HN.out,HV6.out];rfl,by rw [HBW.out];exact HB.out.trans (HBK.out.mono (by omega))⟩
      | true =>
       cases q3 with
       | false =>
        go_wp2_with (first | (go_at_call_of 96 (Value.int .i64 sl);refine (D5 _).mono ?_;rintro e w' ⟨rfl,rfl⟩) | (go_at_call_of 96 (Value.int .i64 er);refine (D6 _).mono ?_;rintro e w' ⟨rfl,rfl⟩) | (go_at_call_of 96 (Value.int .i64 tqo);refine (D1 _).mono ?_;rintro e w' ⟨rfl,rfl⟩) | (go_at_call_of 96 (Value.int .i64 pe);refine (D2 _).mono ?_;rintro e w' ⟨rfl,rfl⟩) | (go_at_call_of 96 (Value.int .i64 fi);refine (D3 _).mono ?_;rintro e w' ⟨rfl,rfl⟩) | (go_at_call_of 96 (Value.int .i64 mo);refine (D4 _).mono ?_;rintro e w' ⟨rfl,rfl⟩))
        go_ret2
        exact ⟨0,by rw [HN.out,HV6.out];rfl,by rw [HBW.out];exact HB.out.trans (HBK.out.mono (by omega))⟩
       | true =>
        cases q4 with
        | false =>
         go_wp2_with (first | (go_at_call_of 96 (Value.int .i64 sl);refine (D5 _).mono ?_;rintro e w' ⟨rfl,rfl⟩) | (go_at_call_of 96 (Value.int .i64 er);refine (D6 _).mono ?_;rintro e w' ⟨rfl,rfl⟩) | (go_at_call_of 96 (Value.int .i64 tqo);refine (D1 _).mono ?_;rintro e w' ⟨rfl,rfl⟩) | (go_at_call_of 96 (Value.int .i64 pe);refine (D2 _).mono ?_;rintro e w' ⟨rfl,rfl⟩) | (go_at_call_of 96 (Value.int .i64 fi);refine (D3 _).mono ?_;rintro e w' ⟨rfl,rfl⟩) | (go_at_call_of 96 (Value.int .i64 mo);refine (D4 _).mono ?_;rintro e w' ⟨rfl,rfl⟩))
         go_ret2
         exact ⟨0,by rw [HN.out,HV6.out];rfl,by rw [HBW.out];exact HB.out.trans (HBK.out.mono (by omega))⟩
        | true =>
         cases q5 with
         | false =>
          go_wp2_with (first | (go_at_call_of 96 (Value.int .i64 sl);refine (D5 _).mono ?_;rintro e w' ⟨rfl,rfl⟩) | (go_at_call_of 96 (Value.int .i64 er);refine (D6 _).mono ?_;rintro e w' ⟨rfl,rfl⟩) | (go_at_call_of 96 (Value.int .i64 tqo);refine (D1 _).mono ?_;rintro e w' ⟨rfl,rfl⟩) | (go_at_call_of 96 (Value.int .i64 pe);refine (D2 _).mono ?_;rintro e w' ⟨rfl,rfl⟩) | (go_at_call_of 96 (Value.int .i64 fi);refine (D3 _).mono ?_;rintro e w' ⟨rfl,rfl⟩) | (go_at_call_of 96 (Value.int .i64 mo);refine (D4 _).mono ?_;rintro e w' ⟨rfl,rfl⟩))
          go_ret2
          exact ⟨0,by rw [HN.out,HV6.out];rfl,by rw [HBW.out];exact HB.out.trans (HBK.out.mono (by omega))⟩
         | true =>
          cases q6 with
          | false =>
           go_wp2_with (first | (go_at_call_of 96 (Value.int .i64 sl);refine (D5 _).mono ?_;rintro e w' ⟨rfl,rfl⟩) | (go_at_call_of 96 (Value.int .i64 er);refine (D6 _).mono ?_;rintro e w' ⟨rfl,rfl⟩) | (go_at_call_of 96 (Value.int .i64 tqo);refine (D1 _).mono ?_;rintro e w' ⟨rfl,rfl⟩) | (go_at_call_of 96 (Value.int .i64 pe);refine (D2 _).mono ?_;rintro e w' ⟨rfl,rfl⟩) | (go_at_call_of 96 (Value.int .i64 fi);refine (D3 _).mono ?_;rintro e w' ⟨rfl,rfl⟩) | (go_at_call_of 96 (Value.int .i64 mo);refine (D4 _).mono ?_;rintro e w' ⟨rfl,rfl⟩))
           go_ret2
           exact ⟨0,by rw [HN.out,HV6.out];rfl,by rw [HBW.out];exact HB.out.trans (HBK.out.mono (by omega))⟩
          | true =>
           go_wp2_with (first | (go_at_call_of 96 (Value.int .i64 sl);refine (D5 _).mono ?_;rintro e w' ⟨rfl,rfl⟩) | (go_at_call_of 96 (Value.int .i64 er);refine (D6 _).mono ?_;rintro e w' ⟨rfl,rfl⟩) | (go_at_call_of 96 (Value.int .i64 tqo);refine (D1 _).mono ?_;rintro e w' ⟨rfl,rfl⟩) | (go_at_call_of 96 (Value.int .i64 pe);refine (D2 _).mono ?_;rintro e w' ⟨rfl,rfl⟩) | (go_at_call_of 96 (Value.int .i64 fi);refine (D3 _).mono ?_;rintro e w' ⟨rfl,rfl⟩) | (go_at_call_of 96 (Value.int .i64 mo);refine (D4 _).mono ?_;rintro e w' ⟨rfl,rfl⟩))
           go_ret2
           exact ⟨0,by rw [HN.out,HV6.out];rfl,by rw [HBW.out];exact HB.out.trans (HBK.out.mono (by omega))⟩
theorem zh7 (w:World) (B:Nat) (v:VanV) (h:zcs w B v.vs v.vanes.length (zah v.vanes)) (hB:B≤w.heap.size) (hn:v.vanes.length≤1000) :
 Calls Tryz.prog 38 #[.agg (za6 v).toArray] w (zax w (zja v)):=by
 obtain ⟨⟨A,n,c⟩,l,wi,tqo,pe,fi,mo,sl,er,ro⟩:=v
 show Calls Tryz.prog 38 #[.agg #[.slice A n c,.int .i64 wi,.int .i64 tqo,.int .i64 pe,.int .i64 fi,.int .i64 mo,.int .i64 sl,.int .i64 er,.bool ro]] w _
 have hb0:=hB1 w (.cells #[.slice A n c,.int .i64 wi,.int .i64 tqo,.int .i64 pe,.int .i64 fi,.int .i64 mo,.int .i64 sl,.int .i64 er,.bool ro] 34)
 have k0:=hA1 w (.cells #[.slice A n c,.int .i64 wi,.int .i64 tqo,.int .i64 pe,.int .i64 fi,.int .i64 mo,.int .i64 sl,.int .i64 er,.bool ro] 34)
 have RT:Calls Tryz.prog 94 #[.agg #[.slice A n c,.int .i64 wi,.int .i64 tqo,.int .i64 pe,.int .i64 fi,.int .i64 mo,.int .i64 sl,.int .i64 er,.bool ro]] (w.alloc (.cells #[.slice A n c,.int .i64 wi,.int .i64 tqo,.int .i64 pe,.int .i64 fi,.int .i64 mo,.int .i64 sl,.int .i64 er,.bool ro] 34)) _:=refVanes_any (w.alloc (.cells #[.slice A n c,.int .i64 wi,.int .i64 tqo,.int .i64 pe,.int .i64 fi,.int .i64 mo,.int .i64 sl,.int .i64 er,.bool ro] 34)) B ⟨⟨A,n,c⟩,l,wi,tqo,pe,fi,mo,sl,er,ro⟩ (h.keep hb0) (Nat.le_trans hB hb0.size) hn
 have HB:=Lib.hid hb0
 have hs0:=hb0.size
 generalize zja ⟨⟨A,n,c⟩,l,wi,tqo,pe,fi,mo,sl,er,ro⟩=V at *
 clear h hb0
 go_enter Tryz.func38,Tryz.ntmps38
 go_upto_region 1 with (fail)
 generalize (w.alloc (.cells #[.slice A n c,.int .i64 wi,.int .i64 tqo,.int .i64 pe,.int .i64 fi,.int .i64 mo,.int .i64 sl,.int .i64 er,.bool ro] 34))=w0 at *
 generalize hbw:w.heap.size=bw at *
 have HBW:=Lib.hid hbw
 clear hbw
 have c0:=(cell_of_row w0 bw 0 _ _ _ k0).trans (by rfl:_=some (.slice A n c))
 have c1:=(cell_of_row w0 bw 1 _ _ _ k0).trans (by rfl:_=some (.int .i64 wi))
 have c2:=(cell_of_row w0 bw 2 _ _ _ k0).trans (by rfl:_=some (.int .i64 tqo))
 have c3:=(cell_of_row w0 bw 3 _ _ _ k0).trans (by rfl:_=some (.int .i64 pe))
 have c4:=(cell_of_row w0 bw 4 _ _ _ k0).trans (by rfl:_=some (.int .i64 fi))
 have c5:=(cell_of_row w0 bw 5 _ _ _ k0).trans (by rfl:_=some (.int .i64 mo))
 have c6:=(cell_of_row w0 bw 6 _ _ _ k0).trans (by rfl:_=some (.int .i64 sl))
 have c7:=(cell_of_row w0 bw 7 _ _ _ k0).trans (by rfl:_=some (.int .i64 er))
 have c8:=(cell_of_row w0 bw 8 _ _ _ k0).trans (by rfl:_=some (.bool ro))
 go_wp2_with (go_at_call 94;refine RT.mono ?_;rintro e w9 ⟨i,rfl,hb9⟩)
 go_ret
 exact ⟨rfl,by rw [HBW.out];exact HB.out.trans (hb9.mono hs0)⟩
end Go.Proofs.YtfdmeojcopkaoaaGreatDoor
namespace Go.Proofs.YtfdmeojcopkaoaaGreatDoor
open Go.RowKit
theorem Has_val (A:Option Addr) (n c B:Nat) (l:List Int) (s:Int) (b:Bool) (hb:zep l s=b) (w:World) (hn:n≤1000000000) (hl:l.length=n) (h:Rd w B A (zah l)) :
 Calls Tryz.prog 161 #[.slice A n c,.int .i64 s] w fun e w'=>e=.returned (.bool b)∧w=w':=by
 have HL:=Lib.hid hl
 have HB:=Lib.hid hb
 clear hl hb
 go_enter Tryz.func161,Tryz.ntmps161
 go_wp2
 go_loop [5] (fun i=>∃ k:Nat,k≤n∧i=.int .i64 k∧zep (l.drop k) s=b) (fun i=>n - (intOf i).toNat)
 case atStart=>exact ⟨0,Nat.zero_le _,rfl,HB.out⟩
 case round =>
  clear HB
  obtain ⟨k,hk,rfl,he⟩:=hrel
  have HE:=Lib.hid he;clear he
  by_cases hlt:k<n
  · have hkl:k<l.length:=by rw [HL.out];exact hlt
    obtain ⟨bb,off,rfl,_,hc⟩:=h.at_ (k:=k) (u:=.int .i64 (l[k]?.getD 0)) (by simp [zah,hkl])
    have HS:=Lib.hid (zfa l 0 k hkl)
    clear hkl
    generalize l[k]?.getD 0=x at *
    by_cases hx:x=s
    · have HV:Hid (b=true):=by rw [Hid,← HE.out,HS.out,zgp];simp [hx]
      subst hx
      go_wp2
      go_ret
      exact ⟨by rw [HV.out];rfl,rfl⟩
    · have hx1:(x == s)=false:=by simp [hx]
      have HN:Hid (zep (l.drop (k+1)) s=b):=by
       have h9:=HE.out
       rw [HS.out,zgp,hx1,Bool.false_or] at h9
       exact h9
      clear hx
      go_wp2
      go_round
      case rel=>exact ⟨k+1,by omega,by go_num,HN.out⟩
      case measure=>simp [intOf];omega
  · have HV:Hid (b=false):=by
     rw [Hid,← HE.out,List.drop_eq_nil_iff.2 (by rw [HL.out];omega)]
     rfl
    go_wp2
    go_ret
    exact ⟨by rw [HV.out];rfl,rfl⟩
theorem refRoute_any (w:World) (B:Nat) (As At Aw Ar:Option Addr) (ns nt nw nr cs ct cw cr:Nat) (l:List RtV) (sws:List Sw) (hl:l.length=nr) (hr:Rd w B Ar (zdy l)) (hlw:sws.length=nw) (hrw:Rd w B Aw (zbk sws)) (hB:B≤w.heap.size) (hn:nr≤1000) (hs:ns≤1000) (hnw:nw≤1000) (hz:∀ s∈l,s.nm.size≤1000) (k:Nat) (x:RtV) (hk:l[k]?=some x)
 (hs1:zcs w B x.s x.secs.length (zah x.secs)) (hs2:zcs w B x.d x.needs.length (zah x.needs)) (hcap:x.s.n≤x.s.c) (hz1:x.secs.length≤1000) (hz2:x.needs.length≤1000) :
 Calls Tryz.prog 133 #[.agg #[.slice As ns cs,.slice At nt ct,.slice Aw nw cw,.slice Ar nr cr],.int .i64 k] w (zax w (rtE ns sws (l.take k) x)):=by
 have hkl:k<l.length:=(List.getElem?_eq_some_iff.1 hk).1
 have hkn:k<nr:=by rw [← hl];exact hkl
 have hz9:=hz x (List.mem_of_getElem? hk)
 have k0:=hA1 w (.cells #[.slice As ns cs,.slice At nt ct,.slice Aw nw cw,.slice Ar nr cr] 26)
 have hb0:=hB1 w (.cells #[.slice As ns cs,.slice At nt ct,.slice Aw nw cw,.slice Ar nr cr] 26)
 have hr0:=hr.below (hb0.mono hB)
 have HRW:=Lib.hid (hrw.below (hb0.mono hB))
 have HR1:=Lib.hid (hs1.2.below (hb0.mono hB))
 have HR2:=Lib.hid (hs2.2.below (hb0.mono hB))
 have HB:=Lib.hid hb0
 have hs0:=hb0.size
 obtain ⟨bb,off,hA,hbB,z0,z1,z2⟩:=Rd.rt hr0 hk
 obtain ⟨hl1,_⟩:=hs1
 obtain ⟨hl2,_⟩:=hs2
 obtain ⟨s,⟨Aq,nq,cq⟩,secs,⟨Ad,nd,cd⟩,needs⟩:=x
 simp only at z0 z1 z2 hl1 hl2 hcap hz1 hz2 HR1 HR2 hz9
 rw [hl1] at hz1
 rw [hl2] at hz2
 obtain ⟨bn,hbn⟩:∃ b,zba s=b:=⟨_,rfl⟩
 obtain ⟨bt,hbt⟩:∃ b,zcy ((l.take k).map (·.nm)) s=b:=⟨_,rfl⟩
 obtain ⟨V1,hV1⟩:∃ V,za4 (scE ns) [] secs=V:=⟨_,rfl⟩
 obtain ⟨VB,hVB⟩:∃ V,ndB secs sws needs=V:=⟨_,rfl⟩
 obtain ⟨E2,hE2⟩:∃ V,rtE1 ns sws ⟨s,⟨Aq,nq,cq⟩,secs,⟨Ad,nd,cd⟩,needs⟩=V:=⟨_,rfl⟩
 obtain ⟨V,hV⟩:∃ V,rtE ns sws (l.take k) ⟨s,⟨Aq,nq,cq⟩,secs,⟨Ad,nd,cd⟩,needs⟩=V:=⟨_,rfl⟩
 rw [hV]
 have HV:Hid (V=zam [zaf bn 4,zaf (!bt) 5,E2]):=by rw [Hid,← hV,rtE,hbn,hbt,hE2]
 have HE2:Hid (E2=if nq<2 then 10 else if ns<nq then 8 else if V1≠0 then V1 else if nd≠nw then 10 else if VB=true then 0 else 2):=by
  rw [Hid,← hE2,rtE1]
  simp only [hl1,hl2,hlw,hV1,hVB]
 have HV1:=Lib.hid hV1
 have HVB:=Lib.hid hVB
 have HL1:=Lib.hid hl1
 have HL2:=Lib.hid hl2
 have HLW:=Lib.hid hlw
 have HL:=Lib.hid hl
 have HBT:Hid (zcy (((l.map (·.nm)).take k).drop 0) s=bt):=by rw [Hid,← List.map_take,List.drop_zero];exact hbt
 have NM:=fun W=>zbt s bn hbn (by omega) W
 subst hA
 clear hb0 hr hV hE2 hV1 hVB hrw hl1 hl2 hlw hbn hbt hz
 go_enter Tryz.func133,Tryz.ntmps133
 go_upto_region 1 with (fail)
 generalize (w.alloc (.cells #[.slice As ns cs,.slice At nt ct,.slice Aw nw cw,.slice (some ⟨bb,off,none⟩) nr cr] 26))=w0 at *
 have c0:=(cell_of_row w0 _ 0 _ _ _ k0).trans (by rfl:_=some (.slice As ns cs))
 have c2:=(cell_of_row w0 _ 2 _ _ _ k0).trans (by rfl:_=some (.slice Aw nw cw))
 have c3:=(cell_of_row w0 _ 3 _ _ _ k0).trans (by rfl:_=some (.slice (some ⟨bb,off,none⟩) nr cr))
 obtain ⟨d0,d1,d2⟩:_∧_∧_:=zbc (W:=w0.alloc (.cells #[.string s,.slice Aq nq cq,.slice Ad nd cd] 70)) (by rw [zae,if_pos rfl])
 have hba:=hB1 w0 (.cells #[.string s,.slice Aq nq cq,.slice Ad nd cd] 70)
 have HBA:=Lib.hid (HB.out.trans (hba.mono hs0))
 have hsa:=Nat.le_trans hs0 hba.size
 replace HR1:=Lib.hid (HR1.out.below (hba.mono (by omega)))
 replace HR2:=Lib.hid (HR2.out.below (hba.mono (by omega)))
 replace HRW:=Lib.hid (HRW.out.below (hba.mono (by omega)))
 have hra:=hr0.below (hba.mono (by omega))
 have e0:=zas hba c0
 have e2:=zas hba c2
 have e3:=zas hba c3
 clear hba k0 hr0 HB
 go_upto_region 2 with (fail)
 clear z0 z1 z2 c0 c2 c3
 generalize w0.alloc (.cells #[.string s,.slice Aq nq cq,.slice Ad nd cd] 70)=wa at *
 generalize w0.heap.size=xb at *
 generalize hbw:w.heap.size=bw at *
 have HBW:=Lib.hid hbw
 clear hbw
 cases bn with
 | false =>
  have HN:Hid (V=4):=by rw [Hid,HV.out];rfl
  go_wp2_with (go_at_call 98;refine (NM _).mono ?_;rintro e w' ⟨rfl,rfl⟩)
  go_ret
  exact ⟨by rw [HN.out];rfl,by rw [HBW.out];exact HBA.out⟩
 | true =>
  go_wp2_with (go_at_call 98;refine (NM _).mono ?_;rintro e w' ⟨rfl,rfl⟩)
  clear NM
  go_loopw [6] (fun u wx=>HtRel wa (l.map (·.nm)) s k bt u wx) (fun u _=>k - (intOf u).toNat)
  case atStart=>exact ⟨0,Nat.zero_le _,rfl,HBT.out,Below.refl _ _⟩
  case round =>
   clear HBT
   obtain ⟨j,hj,rfl,hgj,hb⟩:=hrel
   have HGJ:=Lib.hid hgj
   have HBJ:=Lib.hid hb
   have hrj:=hra.below (hb.mono (by omega))
   replace d0:=zas hb d0
   replace d1:=zas hb d1
   replace d2:=zas hb d2
   replace e0:=zas hb e0
   replace e2:=zas hb e2
   replace e3:=zas hb e3
   have hsj:=hb.size
   clear hgj hb
   by_cases hjk:j<k
   · have hjl:j<l.length:=by omega
     obtain ⟨ev,hev⟩:∃ ev,l[j]?=some ev:=⟨_,List.getElem?_eq_getElem hjl⟩
     obtain ⟨b9,off9,hA9,hb9B,y0,y1,y2⟩:=Rd.rt hrj hev
     cases hA9
     have HEV:Hid ((l.map (·.nm))[j]?=some ev.nm):=by rw [Hid,List.getElem?_map,hev];rfl
     generalize ev.nm=x at *
     have hjn:j<nr:=by omega
     have x0:=fun y:Xt wr=>y.cell d0
     have x1:=fun y:Xt wr=>y.cell y0
     have x2:=fun y:Xt wr=>y.cell e3
     clear hev hjl
     go_upto_region 7 with (fail)
     refine za8 (by kernel_rfl) (by kernel_rfl) ?_
     repeat (go_big_quiet_step (fail))
     refine wpQuiet_nil ?_
     intro w1 hx
     have HB1:=Lib.hid (HBJ.out.trans ((Xt.below hx).mono hsj))
     clear hx x0 x1 x2 y0 y1 y2 HBJ d0 d1 d2 e0 e2 e3
     cases he:(x.toList == s.toList) with
     | true =>
      have HE:=Lib.hid he
      have HBT:=Lib.hid (ht_yes hjk HEV.out he HGJ.out)
      have HN:Hid (V=5):=by rw [Hid,HV.out,HBT.out];rfl
      go_wp2
      go_ret
      exact ⟨by rw [HN.out];rfl,by rw [HBW.out];exact HBA.out.trans (HB1.out.mono (by omega))⟩
     | false =>
      have HE:=Lib.hid he
      have HN3:=Lib.hid (ht_no hjk HEV.out he HGJ.out)
      go_wp2
      go_roundw
      case rel=>exact ⟨j+1,by omega,by go_num,HN3.out,HB1.out⟩
      case measure=>simp [intOf];omega
   · have HBT:=Lib.hid (ht_end hjk HGJ.out)
     have HVE:Hid (V=E2):=by
      rw [Hid,HV.out,HBT.out]
      by_cases h9:E2=0 <;> simp [zam,zaf,h9]
     have HB2:=Lib.hid (HBA.out.trans (HBJ.out.mono (by omega)))
     have hs2:=Nat.le_trans hsa hsj
     replace HR1:=Lib.hid (HR1.out.below (HBJ.out.mono (by omega)))
     replace HR2:=Lib.hid (HR2.out.below (HBJ.out.mono (by omega)))
     replace HRW:=Lib.hid (HRW.out.below (HBJ.out.mono (by omega)))
     clear HGJ HBJ HBA HV hra hrj
     by_cases hq2:(nq:Int)<2
     · have HN:Hid (V=10):=by rw [Hid,HVE.out,HE2.out,if_pos (by omega)]
       go_wp2
       go_ret
       exact ⟨by rw [HN.out];rfl,by rw [HBW.out];exact HB2.out⟩
     by_cases hqs:ns<nq
     · have HN:Hid (V=8):=by rw [Hid,HVE.out,HE2.out,if_neg (by omega),if_pos hqs]
       go_wp2
       go_ret
       exact ⟨by rw [HN.out];rfl,by rw [HBW.out];exact HB2.out⟩
     have HVF:Hid (V=if V1≠0 then V1 else if nd≠nw then 10 else if VB=true then 0 else 2):=by
      rw [Hid,HVE.out,HE2.out,if_neg (by omega),if_neg hqs]
     clear HVE HE2
     obtain ⟨wq,rfl⟩:∃ wq,wq=wr:=⟨wr,rfl⟩
     go_wp2
     go_loopw [7] (fun u wx=>zjm wq (scE ns) secs nq V1 u wx) (fun u _=>nq - (intOf u).toNat)
     case atStart=>exact ⟨0,Nat.zero_le _,rfl,HV1.out,Below.refl _ _⟩
     case round =>
      clear HV1
      obtain ⟨m,hm,rfl,hgo,hb⟩:=hrel
      have HGO:=Lib.hid hgo
      have HBK:=Lib.hid hb
      have hr1:=HR1.out.below (hb.mono (by omega))
      replace d0:=zas hb d0
      replace d1:=zas hb d1
      replace d2:=zas hb d2
      replace e0:=zas hb e0
      replace e2:=zas hb e2
      replace e3:=zas hb e3
      have hsk:=hb.size
      clear hgo hb
      by_cases hlt:m<nq
      · have hml:m<secs.length:=by rw [HL1.out];exact hlt
        obtain ⟨q,hev⟩:∃ ev,secs[m]?=some ev:=⟨_,List.getElem?_eq_getElem hml⟩
        obtain ⟨b9,off9,hA9,hb9B,z0⟩:=hr1.at_ (k:=m) (u:=.int .i64 q) (by simp [zah,hev])
        subst hA9
        have HSV:=Lib.hid hev
        have hrt:=rd_takeI hr1 m
        have HTL:Hid ((secs.take m).length=m):=by rw [Hid,List.length_take];omega
        have hmc:m≤cq:=by omega
        obtain ⟨b1,hb1⟩:∃ b,zai q 0 ((ns:Int) - 1)=b:=⟨_,rfl⟩
        obtain ⟨b2,hb2⟩:∃ b,zep (secs.take m) q=b:=⟨_,rfl⟩
        have HSC:Hid (scE ns (secs.take m) q=zam [zaf b1 6,zaf (!b2) 26]):=by rw [Hid,scE,hb1,hb2]
        have WI:=fun W=>za2 q 0 ((ns:Int) - 1) b1 hb1 W
        have TX:=fun (y:Xt wr) (c:Nat)=>Has_val (some ⟨b9,off9,none⟩) m c _ (secs.take m) q b2 hb2 y.1 (by omega) HTL.out (hrt.below (y.2.mono (by omega)))
        clear hml hb1 hb2 hev
        have x0:=fun y:Xt wr=>y.cell e0
        have x1:=fun y:Xt wr=>y.cell d1
        have x2:=fun y:Xt wr=>y.cell z0
        go_upto_region 16 with (fail)
        refine za8 (by kernel_rfl) (by kernel_rfl) ?_
        repeat (go_big_quiet_step (first | (go_at_call 96;exact Xt.calls_same (WI _))))
        refine wpQuiet_nil ?_
        intro w1 hx
        have hb5:=Xt.below hx
        have HB1:=Lib.hid (HBK.out.trans (hb5.mono hsk))
        clear hx x0 x2 WI
        cases b1 with
        | false =>
         have HN:Hid (V=6):=by
          have e:scE ns (secs.take m) q=6:=by rw [HSC.out];rfl
          have h9:=zb4 HSV.out HGO.out (by rw [e];decide)
          rw [Hid,HVF.out,← h9,e]
          rfl
         go_wp2
         go_ret
         exact ⟨by rw [HN.out];rfl,by rw [HBW.out];exact HB2.out.trans (HB1.out.mono (by omega))⟩
        | true =>
         have hs9:=hb5.size
         have TX2:=fun (y:Xt w1) (c:Nat)=>TX ⟨y.1,hb5.trans (y.2.mono hs9)⟩ c
         have x3:=fun y:Xt w1=>y.cell (zas hb5 d1)
         have x4:=fun y:Xt w1=>y.cell (zas hb5 z0)
         simp only at TX2
         clear TX x1
         go_upto_region 18 with (fail)
         refine za8 (by kernel_rfl) (by kernel_rfl) ?_
         repeat (go_big_quiet_step (first | (go_at_call 161;exact Xt.calls_same (TX2 _ _))))
         refine wpQuiet_nil ?_
         intro w3 hx
         have HB3:=Lib.hid (HB1.out.trans ((Xt.below hx).mono (by omega)))
         clear hx x3 x4 TX2 hb5
         cases b2 with
         | true =>
          have HN:Hid (V=26):=by
           have e:scE ns (secs.take m) q=26:=by rw [HSC.out];rfl
           have h9:=zb4 HSV.out HGO.out (by rw [e];decide)
           rw [Hid,HVF.out,← h9,e]
           rfl
          go_wp2
          go_ret
          exact ⟨by rw [HN.out];rfl,by rw [HBW.out];exact HB2.out.trans (HB3.out.mono (by omega))⟩
         | false =>
          have HN3:=Lib.hid (zc0 HSV.out HGO.out (by rw [HSC.out];rfl))
          go_wp2
          go_roundw
          case rel=>exact ⟨m+1,by omega,by go_num,HN3.out,HB3.out⟩
          case measure=>simp [intOf];omega
      · have HN1:Hid (V1=0):=zcc (by rw [HL1.out];omega) HGO.out
        have HVG:Hid (V=if nd≠nw then 10 else if VB=true then 0 else 2):=by rw [Hid,HVF.out,HN1.out,if_neg (fun h=>h rfl)]
        have HB4:=Lib.hid (HB2.out.trans (HBK.out.mono (by omega)))
        have hs4:=Nat.le_trans hs2 hsk
        replace HR1:=Lib.hid hr1
        replace HR2:=Lib.hid (HR2.out.below (HBK.out.mono (by omega)))
        replace HRW:=Lib.hid (HRW.out.below (HBK.out.mono (by omega)))
        clear HN1 HVF HGO HBK HB2 hr1
        by_cases hnd:nd=nw
        · subst hnd
          have HVH:Hid (V=if VB=true then 0 else 2):=by rw [Hid,HVG.out,if_neg (fun h=>h rfl)]
          clear HVG
          obtain ⟨wp,rfl⟩:∃ wp,wp=wr:=⟨wr,rfl⟩
          go_wp2
          go_loopw [8] (fun u wx=>NdR wp secs sws needs nd VB u wx) (fun u _=>nd - (intOf u).toNat)
          case atStart=>exact ⟨0,Nat.zero_le _,rfl,HVB.out,Below.refl _ _⟩
          case round =>
           clear HVB
           obtain ⟨i,hi,rfl,hgo,hb⟩:=hrel
           have HGO:=Lib.hid hgo
           have HBK:=Lib.hid hb
           have hr1:=HR1.out.below (hb.mono (by omega))
           have hr2:=HR2.out.below (hb.mono (by omega))
           have hrw:=HRW.out.below (hb.mono (by omega))
           have hsi:=hb.size
           replace d0:=zas hb d0
           replace d1:=zas hb d1
           replace d2:=zas hb d2
           replace e0:=zas hb e0
           replace e2:=zas hb e2
           replace e3:=zas hb e3
           clear hgo hb
           by_cases hlt2:i<nd
           · have hil:i<needs.length:=by rw [HL2.out];exact hlt2
             have hiw:i<sws.length:=by rw [HLW.out];exact hlt2
             obtain ⟨q,hev⟩:∃ ev,needs[i]?=some ev:=⟨_,List.getElem?_eq_getElem hil⟩
             obtain ⟨⟨snm,sq⟩,hew⟩:∃ ev,sws[i]?=some ev:=⟨_,List.getElem?_eq_getElem hiw⟩
             obtain ⟨b9,off9,hA9,hb9B,z0⟩:=hr2.at_ (k:=i) (u:=.int .i64 q) (by simp [zah,hev])
             obtain ⟨b8,off8,hA8,hb8B,y0,y1⟩:=Rd.sw hrw hew
             simp only at y0 y1
             subst hA9 hA8
             obtain ⟨bh,hbh⟩:∃ b,zep secs sq=b:=⟨_,rfl⟩
             have TX:=fun (y:Xt wr)=>Has_val Aq nq cq _ secs sq bh hbh y.1 (by omega) HL1.out (hr1.below (y.2.mono (by omega)))
             have HST:Hid (((if bh=true then zfq q else decide (q=-1)) && ndB secs (sws.drop (i+1)) (needs.drop (i+1)))=VB):=by
              have h9:=HGO.out
              rw [za5 hev,za5 hew,ndB] at h9
              rw [Hid,← h9,hbh]
              cases bh <;> rfl
             clear hil hiw hev hew hbh HGO
             go_upto_region 25 with (fail)
             have x1:=fun y:Xt wr=>y.cell d1
             have x2:=fun y:Xt wr=>y.cell e2
             have x3:=fun y:Xt wr=>y.cell y1
             refine za8 (by kernel_rfl) (by kernel_rfl) ?_
             repeat (go_big_quiet_step (first | (go_at_call 161;exact Xt.calls_same (TX _))))
             refine wpQuiet_nil ?_
             intro wb hx
             have hb3:=Xt.below hx
             have HB6:=Lib.hid (HBK.out.trans (hb3.mono hsi))
             replace z0:=zas hb3 z0
             replace d2:=zas hb3 d2
             clear x1 x2 x3 hx TX y0 y1 HBK e0 e2 e3 d0 d1 hb3 hr1 hr2 hrw
             cases bh with
             | true =>
              obtain ⟨bq,hbq⟩:∃ b,zfq q=b:=⟨_,rfl⟩
              have IP:=fun W=>za2 q 0 1 bq (by rw [zj5];exact hbq) W
              have HST2:Hid ((bq && ndB secs (sws.drop (i+1)) (needs.drop (i+1)))=VB):=by rw [Hid,← HST.out,← hbq];rfl
              clear hbq HST
              cases bq with
              | true =>
               go_wp2_with (go_at_call 96;refine (IP _).mono ?_;rintro e w' ⟨rfl,rfl⟩)
               go_roundw
               case rel=>exact ⟨i+1,by omega,by go_num,HST2.out,HB6.out⟩
               case measure=>simp [intOf];omega
              | false =>
               have HV9:Hid (V=2):=by rw [Hid,HVH.out,← HST2.out];rfl
               go_wp2_with (go_at_call 96;refine (IP _).mono ?_;rintro e w' ⟨rfl,rfl⟩)
               go_ret
               exact ⟨by rw [HV9.out];rfl,by rw [HBW.out];exact HB4.out.trans (HB6.out.mono (by omega))⟩
             | false =>
              by_cases hq:q=-1
              · have HST2:Hid (ndB secs (sws.drop (i+1)) (needs.drop (i+1))=VB):=by rw [Hid,← HST.out];simp [hq]
                subst hq
                go_wp2
                go_roundw
                case rel=>exact ⟨i+1,by omega,by go_num,HST2.out,HB6.out⟩
                case measure=>simp [intOf];omega
              · have hq1:(q != -1)=true:=by simp [hq]
                have HV9:Hid (V=2):=by
                 have h9:=HST.out
                 simp [hq] at h9
                 rw [Hid,HVH.out,h9]
                 rfl
                clear hq HST
                go_wp2
                go_ret
                exact ⟨by rw [HV9.out];rfl,by rw [HBW.out];exact HB4.out.trans (HB6.out.mono (by omega))⟩
           · have HN1:Hid (VB=true):=by
              have h9:=HGO.out
              rw [List.drop_eq_nil_iff.2 (show sws.length≤i by rw [HLW.out];omega),List.drop_eq_nil_iff.2 (show needs.length≤i by rw [HL2.out];omega)] at h9
              rw [Hid,← h9]
              rfl
             have HV9:Hid (V=0):=by rw [Hid,HVH.out,HN1.out];rfl
             go_wp2
             go_ret
             exact ⟨by rw [HV9.out];rfl,by rw [HBW.out];exact HB4.out.trans (HBK.out.mono (by omega))⟩
        · have hnd1:((nd:Int) != (nw:Int))=true:=by simp;omega
          have HV9:Hid (V=10):=by rw [Hid,HVG.out,if_pos hnd]
          clear hnd HVG
          go_wp2
          go_ret
          exact ⟨by rw [HV9.out];rfl,by rw [HBW.out];exact HB4.out⟩
end Go.Proofs.YtfdmeojcopkaoaaGreatDoor
