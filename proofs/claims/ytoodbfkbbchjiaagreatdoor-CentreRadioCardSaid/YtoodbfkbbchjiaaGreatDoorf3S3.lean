import Derived.Test.YtoodbfkbbchjiaaGreatDoorf3X4
import Derived.Test.YtoodbfkbbchjiaaGreatDoorf3F3
set_option maxRecDepth 100000
set_option maxHeartbeats 16000000
namespace Go.Proofs.YtoodbfkbbchjiaaGreatDoor
open Go.RowKit
theorem isBit_val (x:Int) (b:Bool) (h:zf4 x=b) (w:World):Calls Tryz.prog 141 #[.int .i64 x] w fun e w'=>e=.returned (.bool b)∧w=w':=by
 have HB:=Lib.hid h
 clear h
 by_cases h0:x=0
 · subst h0
   have HV:Hid (b=true):=by rw [Hid,← HB.out];rfl
   go_enter Tryz.func141,Tryz.ntmps141
   go_wp2
   go_ret
   exact ⟨by rw [HV.out];rfl,rfl⟩
 · have e0:(x == 0)=false:=by simp [h0]
   have HV:Hid ((x == 1)=b):=by
    rw [Hid,← HB.out,zf4]
    by_cases h1:x=1 <;> simp [h0,h1]
   clear h0
   go_enter Tryz.func141,Tryz.ntmps141
   go_wp2
   go_ret
   exact ⟨by rw [← HV.out];rfl,rfl⟩
theorem zko (x:Int) (b:Bool) (h:zf4 x=b) (w:World):Calls Tryz.prog 140 #[.int .i64 x] w fun e w'=>e=.returned (.bool (!b))∧w=w':=by
 have I:=fun W=>isBit_val x b h W
 clear h
 go_enter Tryz.func140,Tryz.ntmps140
 go_wp2_with (go_at_call 141;refine (I _).mono ?_;rintro e w' ⟨rfl,rfl⟩)
 go_ret
 exact ⟨rfl,rfl⟩
theorem IndexBit_any (A:Option Addr) (n c B:Nat) (l:List Int) (w:World) (hn:n≤1000000000) (hl:l.length=n) (h:Rd w B A (zai l)) :
 Calls Tryz.prog 139 #[.slice A n c,.func (.func 140) #[] #[]] w fun e w'=>e=.returned (.int .i64 (za4 (fun x=>!zf4 x) l 0))∧w=w':=by
 have HL:=Lib.hid hl;clear hl
 go_enter Tryz.func139,Tryz.ntmps139
 go_wp2
 go_loop [5,8] (fun _ i=>∃ k:Nat,k≤n∧i=.int .i64 k∧za4 (fun x=>!zf4 x) (l.drop k) k=za4 (fun x=>!zf4 x) l 0) (fun _ i=>n - (intOf i).toNat)
 case atStart=>exact ⟨0,Nat.zero_le _,rfl,rfl⟩
 case round =>
  obtain ⟨k,hk,rfl,he⟩:=hrel
  have HE:=Lib.hid he;clear he
  by_cases hlt:k<n
  · have hkl:k<l.length:=by rw [HL.out];exact hlt
    obtain ⟨b,off,rfl,_,hc⟩:=h.at_ (k:=k) (u:=.int .i64 (l[k]?.getD 0)) (by simp [zai,hkl])
    have HS:=Lib.hid (zfq l 0 k hkl)
    clear hkl
    generalize l[k]?.getD 0=x at *
    cases hx:zf4 x with
    | false =>
     have HX:=Lib.hid hx
     have I:=fun W=>zko x false hx W
     clear hx
     go_wp2_with (go_at_call 140;refine (I _).mono ?_;rintro e w' ⟨rfl,rfl⟩)
     go_ret
     exact ⟨by rw [← HE.out,HS.out,za4,HX.out];rfl,rfl⟩
    | true =>
     have HX:=Lib.hid hx
     have I:=fun W=>zko x true hx W
     clear hx
     go_wp2_with (go_at_call 140;refine (I _).mono ?_;rintro e w' ⟨rfl,rfl⟩)
     go_round
     case rel=>exact ⟨k+1,by omega,by go_num,by rw [← HE.out,HS.out,za4,HX.out];rfl⟩
     case measure=>simp [intOf];omega
  · go_wp2
    go_ret
    have:l.drop k=[]:=by rw [List.drop_eq_nil_iff];rw [HL.out];omega
    exact ⟨by rw [← HE.out,this];rfl,rfl⟩
theorem zja (w:World) (B:Nat) (v:VanV) (h:zcs w B v.vs v.vanes.length (zai v.vanes)) (hB:B≤w.heap.size) (hn:v.vanes.length≤1000) :
 Calls Tryz.prog 78 #[.agg (za8 v).toArray] w fun e w'=>∃ i:Int,e=.returned (.tuple #[.int .i64 i,.int .i64 (zj2 v)])∧Below w.heap.size w w':=by
 obtain ⟨⟨A,n,c⟩,l,wi,tqo,pe,fi,mo,sl,er,ro⟩:=v
 show Calls Tryz.prog 78 #[.agg #[.slice A n c,.int .i64 wi,.int .i64 tqo,.int .i64 pe,.int .i64 fi,.int .i64 mo,.int .i64 sl,.int .i64 er,.bool ro]] w _
 obtain ⟨hl,hr⟩:=h
 simp only at hl hr hn
 rw [hl] at hn
 have HL:=Lib.hid hl
 have k0:=hA1 w (.cells #[.slice A n c,.int .i64 wi,.int .i64 tqo,.int .i64 pe,.int .i64 fi,.int .i64 mo,.int .i64 sl,.int .i64 er,.bool ro] 34)
 have hb0:=hB1 w (.cells #[.slice A n c,.int .i64 wi,.int .i64 tqo,.int .i64 pe,.int .i64 fi,.int .i64 mo,.int .i64 sl,.int .i64 er,.bool ro] 34)
 have hr0:=hr.below (hb0.mono hB)
 have HR:=Lib.hid hr0
 have HB:=Lib.hid hb0
 have hs0:=hb0.size
 obtain ⟨q0,hq0⟩:∃ q,zaj wi 1 12=q:=⟨_,rfl⟩
 obtain ⟨q1,hq1⟩:∃ q,zaj tqo 1 1000=q:=⟨_,rfl⟩
 obtain ⟨q2,hq2⟩:∃ q,zaj pe 1 12=q:=⟨_,rfl⟩
 obtain ⟨q3,hq3⟩:∃ q,zaj fi 0 999000000=q:=⟨_,rfl⟩
 obtain ⟨q4,hq4⟩:∃ q,zaj mo 1 1000=q:=⟨_,rfl⟩
 obtain ⟨q5,hq5⟩:∃ q,zaj sl 0 mo=q:=⟨_,rfl⟩
 obtain ⟨q6,hq6⟩:∃ q,zaj er 0 wi=q:=⟨_,rfl⟩
 have D0:=fun W=>zcb wi 1 12 q0 hq0 W
 have D1:=fun W=>zcb tqo 1 1000 q1 hq1 W
 have D2:=fun W=>zcb pe 1 12 q2 hq2 W
 have D3:=fun W=>zcb fi 0 999000000 q3 hq3 W
 have D4:=fun W=>zcb mo 1 1000 q4 hq4 W
 have D5:=fun W=>zcb sl 0 mo q5 hq5 W
 have D6:=fun W=>zcb er 0 wi q6 hq6 W
 obtain ⟨V,hV⟩:∃ V,zj2 ⟨⟨A,n,c⟩,l,wi,tqo,pe,fi,mo,sl,er,ro⟩=V:=⟨_,rfl⟩
 rw [hV]
 obtain ⟨E1,hE1⟩:∃ E,zam [zag q0 2,zag (decide (wi≤(n:Int))) 10,zag (decide ((n:Int)≤40)) 8]=E:=⟨_,rfl⟩
 have HE3:=Lib.hid hE1
 have HV:Hid (V=if E1=0 then (if l.all zf4=true then zag (q1 && q2 && q3 && q4 && q5 && q6) 2 else 15) else E1):=by
  rw [Hid,← hV,← hE1,← hq0,← hq1,← hq2,← hq3,← hq4,← hq5,← hq6,zj2]
  simp only [HL.out]
  rfl
 clear hl hr hb0 hr0 hq0 hq1 hq2 hq3 hq4 hq5 hq6 hE1 hV
 go_enter Tryz.func78,Tryz.ntmps78
 go_upto_region 1 with (fail)
 generalize (w.alloc (.cells #[.slice A n c,.int .i64 wi,.int .i64 tqo,.int .i64 pe,.int .i64 fi,.int .i64 mo,.int .i64 sl,.int .i64 er,.bool ro] 34))=w0 at *
 generalize hbw:w.heap.size=bw at *
 have HBW:=Lib.hid hbw
 clear hbw
 have c0:=(cell_of_row w0 bw 0 _ _ _ k0).trans (by rfl:_=some (.slice A n c))
 have c1:=(cell_of_row w0 bw 1 _ _ _ k0).trans (by rfl:_=some (.int .i64 wi))
 have c2:=(cell_of_row w0 bw 2 _ _ _ k0).trans (by rfl:_=some (.int .i64 tqo))
 have c3:=(cell_of_row w0 bw 3 _ _ _ k0).trans (by rfl:_=some (.int .i64 pe))
 have c4:=(cell_of_row w0 bw 4 _ _ _ k0).trans (by rfl:_=some (.int .i64 fi))
 have c5:=(cell_of_row w0 bw 5 _ _ _ k0).trans (by rfl:_=some (.int .i64 mo))
 have c6:=(cell_of_row w0 bw 6 _ _ _ k0).trans (by rfl:_=some (.int .i64 sl))
 have c7:=(cell_of_row w0 bw 7 _ _ _ k0).trans (by rfl:_=some (.int .i64 er))
 have x0:=fun y:Xt w0=>y.cell c0
 have x1:=fun y:Xt w0=>y.cell c1
 refine zax [] [0,1,2,3,4,5,6,7,8,9,10,11,12,13,14,15] 16 [17,18] (fun w'=>∃ y:Xt w0,w'=y.1) (by as_aux_lemma=>kernel_rfl) (by as_aux_lemma=>kernel_rfl) ⟨⟨w0.drew,(Below.refl _ _).drew⟩,rfl⟩ ?_
 simp only [zad,zac,zaa,zX1,zX2,zX3]
 refine wpQuiet_nil ?_
 show wpQuiet _ _ _ _ _ _
 repeat (go_big_quiet_step (first | (go_at_call 138;exact Xt.calls_same (D0 _)) | (go_at_call 137;exact Xt.calls_same (zbz _ _ _))))
 refine wpQuiet_nil ?_
 intro w1 hx
 have hb1:=Xt.below hx
 clear x0 x1 hx D0
 go_upto_region 2 with (go_at_call 136;refine (zlz _ _ _ _).mono ?_;rintro e w' ⟨he,rfl⟩;rw [HE3.out] at he;subst he)
 refine zab ?_
 have HB2:∀ o,Below w0.heap.size w0 (w1.alloc o):=fun o=>hb1.alloc hb1.size o
 generalize hw2:w1.alloc _=w2
 have hb2:Below w0.heap.size w0 w2:=by rw [← hw2];exact HB2 _
 have HR3:=Lib.hid (HR.out.below (hb2.mono (by omega)))
 have HB3:=Lib.hid (HB.out.trans (hb2.mono hs0))
 replace c0:=zat hb2 c0
 replace c1:=zat hb2 c1
 replace c2:=zat hb2 c2
 replace c3:=zat hb2 c3
 replace c4:=zat hb2 c4
 replace c5:=zat hb2 c5
 replace c6:=zat hb2 c6
 replace c7:=zat hb2 c7
 clear HB2 hb2 hw2 HE3 hb1 HR HB k0
 by_cases hE:E1=0
 · have hE':(E1 != 0)=false:=by simp [hE]
   have HV1:Hid (V=if l.all zf4=true then zag (q1 && q2 && q3 && q4 && q5 && q6) 2 else 15):=by rw [Hid,HV.out,if_pos hE]
   clear hE HV
   have IX:=IndexBit_any A n c B l w2 (by omega) HL.out HR3.out
   have HI:=Lib.hid (zcc (fun x=>!zf4 x) l 0)
   have HA:Hid (l.any (fun x=>!zf4 x)=!l.all zf4):=by rw [Hid,List.not_all_eq_any_not]
   generalize za4 (fun x=>!zf4 x) l 0=ix at *
   cases hal:l.all zf4 with
   | true =>
    have HV2:Hid (V=zag (q1 && q2 && q3 && q4 && q5 && q6) 2):=by rw [Hid,HV1.out,hal];rfl
    have hix:¬ 0≤ix:=by
     have h9:=HI.out
     rw [HA.out,hal] at h9
     simpa using h9
    clear hal HV1
    go_upto_region 7 with (go_at_call 139;refine IX.mono ?_;rintro e w' ⟨rfl,rfl⟩)
    cases q1 with
    | false =>
     go_wp2_with (first | (go_at_call_of 138 (Value.int .i64 sl);refine (D5 _).mono ?_;rintro e w' ⟨rfl,rfl⟩) | (go_at_call_of 138 (Value.int .i64 er);refine (D6 _).mono ?_;rintro e w' ⟨rfl,rfl⟩) | (go_at_call_of 138 (Value.int .i64 tqo);refine (D1 _).mono ?_;rintro e w' ⟨rfl,rfl⟩) | (go_at_call_of 138 (Value.int .i64 pe);refine (D2 _).mono ?_;rintro e w' ⟨rfl,rfl⟩) | (go_at_call_of 138 (Value.int .i64 fi);refine (D3 _).mono ?_;rintro e w' ⟨rfl,rfl⟩) | (go_at_call_of 138 (Value.int .i64 mo);refine (D4 _).mono ?_;rintro e w' ⟨rfl,rfl⟩) | (go_at_call 137;refine (zbz _ _ _).mono ?_;rintro e w' ⟨rfl,rfl⟩))
     go_ret2
     exact ⟨0,by rw [HV2.out];rfl,by rw [HBW.out];exact HB3.out⟩
    | true =>
     cases q2 with
     | false =>
      go_wp2_with (first | (go_at_call_of 138 (Value.int .i64 sl);refine (D5 _).mono ?_;rintro e w' ⟨rfl,rfl⟩) | (go_at_call_of 138 (Value.int .i64 er);refine (D6 _).mono ?_;rintro e w' ⟨rfl,rfl⟩) | (go_at_call_of 138 (Value.int .i64 tqo);refine (D1 _).mono ?_;rintro e w' ⟨rfl,rfl⟩) | (go_at_call_of 138 (Value.int .i64 pe);refine (D2 _).mono ?_;rintro e w' ⟨rfl,rfl⟩) | (go_at_call_of 138 (Value.int .i64 fi);refine (D3 _).mono ?_;rintro e w' ⟨rfl,rfl⟩) | (go_at_call_of 138 (Value.int .i64 mo);refine (D4 _).mono ?_;rintro e w' ⟨rfl,rfl⟩) | (go_at_call 137;refine (zbz _ _ _).mono ?_;rintro e w' ⟨rfl,rfl⟩))
      go_ret2
      exact ⟨0,by rw [HV2.out];rfl,by rw [HBW.out];exact HB3.out⟩
     | true =>
      cases q3 with
      | false =>
       go_wp2_with (first | (go_at_call_of 138 (Value.int .i64 sl);refine (D5 _).mono ?_;rintro e w' ⟨rfl,rfl⟩) | (go_at_call_of 138 (Value.int .i64 er);refine (D6 _).mono ?_;rintro e w' ⟨rfl,rfl⟩) | (go_at_call_of 138 (Value.int .i64 tqo);refine (D1 _).mono ?_;rintro e w' ⟨rfl,rfl⟩) | (go_at_call_of 138 (Value.int .i64 pe);refine (D2 _).mono ?_;rintro e w' ⟨rfl,rfl⟩) | (go_at_call_of 138 (Value.int .i64 fi);refine (D3 _).mono ?_;rintro e w' ⟨rfl,rfl⟩) | (go_at_call_of 138 (Value.int .i64 mo);refine (D4 _).mono ?_;rintro e w' ⟨rfl,rfl⟩) | (go_at_call 137;refine (zbz _ _ _).mono ?_;rintro e w' ⟨rfl,rfl⟩))
       go_ret2
       exact ⟨0,by rw [HV2.out];rfl,by rw [HBW.out];exact HB3.out⟩
      | true =>
       cases q4 with
       | false =>
        go_wp2_with (first | (go_at_call_of 138 (Value.int .i64 sl);refine (D5 _).mono ?_;rintro e w' ⟨rfl,rfl⟩) | (go_at_call_of 138 (Value.int .i64 er);refine (D6 _).mono ?_;rintro e w' ⟨rfl,rfl⟩) | (go_at_call_of 138 (Value.int .i64 tqo);refine (D1 _).mono ?_;rintro e w' ⟨rfl,rfl⟩) | (go_at_call_of 138 (Value.int .i64 pe);refine (D2 _).mono ?_;rintro e w' ⟨rfl,rfl⟩) | (go_at_call_of 138 (Value.int .i64 fi);refine (D3 _).mono ?_;rintro e w' ⟨rfl,rfl⟩) | (go_at_call_of 138 (Value.int .i64 mo);refine (D4 _).mono ?_;rintro e w' ⟨rfl,rfl⟩) | (go_at_call 137;refine (zbz _ _ _).mono ?_;rintro e w' ⟨rfl,rfl⟩))
        go_ret2
        exact ⟨0,by rw [HV2.out];rfl,by rw [HBW.out];exact HB3.out⟩
       | true =>
        cases q5 with
        | false =>
         go_wp2_with (first | (go_at_call_of 138 (Value.int .i64 sl);refine (D5 _).mono ?_;rintro e w' ⟨rfl,rfl⟩) | (go_at_call_of 138 (Value.int .i64 er);refine (D6 _).mono ?_;rintro e w' ⟨rfl,rfl⟩) | (go_at_call_of 138 (Value.int .i64 tqo);refine (D1 _).mono ?_;rintro e w' ⟨rfl,rfl⟩) | (go_at_call_of 138 (Value.int .i64 pe);refine (D2 _).mono ?_;rintro e w' ⟨rfl,rfl⟩) | (go_at_call_of 138 (Value.int .i64 fi);refine (D3 _).mono ?_;rintro e w' ⟨rfl,rfl⟩) | (go_at_call_of 138 (Value.int .i64 mo);refine (D4 _).mono ?_;rintro e w' ⟨rfl,rfl⟩) | (go_at_call 137;refine (zbz _ _ _).mono ?_;rintro e w' ⟨rfl,rfl⟩))
         go_ret2
         exact ⟨0,by rw [HV2.out];rfl,by rw [HBW.out];exact HB3.out⟩
        | true =>
         cases q6 with
         | false =>
          go_wp2_with (first | (go_at_call_of 138 (Value.int .i64 sl);refine (D5 _).mono ?_;rintro e w' ⟨rfl,rfl⟩) | (go_at_call_of 138 (Value.int .i64 er);refine (D6 _).mono ?_;rintro e w' ⟨rfl,rfl⟩) | (go_at_call_of 138 (Value.int .i64 tqo);refine (D1 _).mono ?_;rintro e w' ⟨rfl,rfl⟩) | (go_at_call_of 138 (Value.int .i64 pe);refine (D2 _).mono ?_;rintro e w' ⟨rfl,rfl⟩) | (go_at_call_of 138 (Value.int .i64 fi);refine (D3 _).mono ?_;rintro e w' ⟨rfl,rfl⟩) | (go_at_call_of 138 (Value.int .i64 mo);refine (D4 _).mono ?_;rintro e w' ⟨rfl,rfl⟩) | (go_at_call 137;refine (zbz _ _ _).mono ?_;rintro e w' ⟨rfl,rfl⟩))
          go_ret2
          exact ⟨0,by rw [HV2.out];rfl,by rw [HBW.out];exact HB3.out⟩
         | true =>
          go_wp2_with (first | (go_at_call_of 138 (Value.int .i64 sl);refine (D5 _).mono ?_;rintro e w' ⟨rfl,rfl⟩) | (go_at_call_of 138 (Value.int .i64 er);refine (D6 _).mono ?_;rintro e w' ⟨rfl,rfl⟩) | (go_at_call_of 138 (Value.int .i64 tqo);refine (D1 _).mono ?_;rintro e w' ⟨rfl,rfl⟩) | (go_at_call_of 138 (Value.int .i64 pe);refine (D2 _).mono ?_;rintro e w' ⟨rfl,rfl⟩) | (go_at_call_of 138 (Value.int .i64 fi);refine (D3 _).mono ?_;rintro e w' ⟨rfl,rfl⟩) | (go_at_call_of 138 (Value.int .i64 mo);refine (D4 _).mono ?_;rintro e w' ⟨rfl,rfl⟩) | (go_at_call 137;refine (zbz _ _ _).mono ?_;rintro e w' ⟨rfl,rfl⟩))
          go_ret2
          exact ⟨0,by rw [HV2.out];rfl,by rw [HBW.out];exact HB3.out⟩
   | false =>
    have HV2:Hid (V=15):=by rw [Hid,HV1.out,hal];rfl
    have hix:0≤ix:=by
     have h9:=HI.out
     rw [HA.out,hal] at h9
     simpa using h9
    clear hal HV1
    go_wp2_with (go_at_call 139;refine IX.mono ?_;rintro e w' ⟨rfl,rfl⟩)
    go_ret2
    exact ⟨ix,by rw [HV2.out];rfl,by rw [HBW.out];exact HB3.out⟩
 · have hE':(E1 != 0)=true:=by simp [hE]
   have HV1:Hid (V=E1):=by rw [Hid,HV.out,if_neg hE]
   clear hE
   go_wp2
   go_ret2
   exact ⟨0,by rw [HV1.out];rfl,by rw [HBW.out];exact HB3.out⟩
def VanPost (w:World) (v:VanV) (e:Ending) (w':World):Prop:=
 ∃ s:SlV,e=.returned (.agg (za8 { v with vs:=s }).toArray)∧s.n=v.vs.n∧s.n≤s.c∧w'.ownsRow w.heap.size 3 1 s.v s.n (zai v.vanes)∧Below w.heap.size w w'
theorem vanCopy_any (w:World) (B:Nat) (v:VanV) (h:zcs w B v.vs v.vanes.length (zai v.vanes)) (hB:B≤w.heap.size) (hn:v.vanes.length≤1000) :
 Calls Tryz.prog 27 #[.agg (za8 v).toArray] w (VanPost w v):=by
 obtain ⟨⟨A,n,c⟩,l,wi,to_,pe,fi,mo,sl,er,ro⟩:=v
 obtain ⟨hl,hr⟩:=h
 simp only at hl hr hn
 rw [hl] at hn
 show Calls Tryz.prog 27 #[.agg #[.slice A n c,.int .i64 wi,.int .i64 to_,.int .i64 pe,.int .i64 fi,.int .i64 mo,.int .i64 sl,.int .i64 er,.bool ro]] w _
 have k0:((w.alloc (.cells #[.slice A n c,.int .i64 wi,.int .i64 to_,.int .i64 pe,.int .i64 fi,.int .i64 mo,.int .i64 sl,.int .i64 er,.bool ro] 34)).alloc (.cells #[.slice none 0 0,.int .i64 0,.int .i64 0,.int .i64 0,.int .i64 0,.int .i64 0,.int .i64 0,.int .i64 0,.bool false] 34)).heap[w.heap.size]?=some (.cells #[.slice A n c,.int .i64 wi,.int .i64 to_,.int .i64 pe,.int .i64 fi,.int .i64 mo,.int .i64 sl,.int .i64 er,.bool ro] 34 (0,0)):=by
  rw [zae,if_neg (by simp),zae,if_pos rfl]
 have k1:((w.alloc (.cells #[.slice A n c,.int .i64 wi,.int .i64 to_,.int .i64 pe,.int .i64 fi,.int .i64 mo,.int .i64 sl,.int .i64 er,.bool ro] 34)).alloc (.cells #[.slice none 0 0,.int .i64 0,.int .i64 0,.int .i64 0,.int .i64 0,.int .i64 0,.int .i64 0,.int .i64 0,.bool false] 34)).heap[w.heap.size+1]?=some (.cells #[.slice none 0 0,.int .i64 0,.int .i64 0,.int .i64 0,.int .i64 0,.int .i64 0,.int .i64 0,.int .i64 0,.bool false] 34 (0,0)):=by
  rw [zae,if_pos (by simp)]
 have hb0:=hB2 w (.cells #[.slice A n c,.int .i64 wi,.int .i64 to_,.int .i64 pe,.int .i64 fi,.int .i64 mo,.int .i64 sl,.int .i64 er,.bool ro] 34) (.cells #[.slice none 0 0,.int .i64 0,.int .i64 0,.int .i64 0,.int .i64 0,.int .i64 0,.int .i64 0,.int .i64 0,.bool false] 34)
 have hs0:=hS2 w (.cells #[.slice A n c,.int .i64 wi,.int .i64 to_,.int .i64 pe,.int .i64 fi,.int .i64 mo,.int .i64 sl,.int .i64 er,.bool ro] 34) (.cells #[.slice none 0 0,.int .i64 0,.int .i64 0,.int .i64 0,.int .i64 0,.int .i64 0,.int .i64 0,.int .i64 0,.bool false] 34)
 have hr0:=hr.below (hb0.mono hB)
 have HL:=Lib.hid hl
 have HB:=Lib.hid hb0
 clear hl hr hb0
 go_enter Tryz.func27,Tryz.ntmps27
 go_upto_region 1 with (fail)
 generalize ((w.alloc (.cells #[.slice A n c,.int .i64 wi,.int .i64 to_,.int .i64 pe,.int .i64 fi,.int .i64 mo,.int .i64 sl,.int .i64 er,.bool ro] 34)).alloc (.cells #[.slice none 0 0,.int .i64 0,.int .i64 0,.int .i64 0,.int .i64 0,.int .i64 0,.int .i64 0,.int .i64 0,.bool false] 34))=w0 at *
 generalize hbw:w.heap.size=bw at *
 have HBW:=Lib.hid hbw
 clear hbw
 have d0:=(cell_of_row w0 _ 0 _ _ _ k0).trans (by rfl:_=some (.slice A n c))
 go_upto_region 2 with (go_at_call 50;refine (zfx w0 B A n c l HL.out (by omega) hr0 (by omega)).mono ?_;rintro e w1 ⟨A2,c2,rfl,hcap,hfr,hb⟩;have j0:=blk hb k0;have j1:=blk hb k1;have g0:=(cell_of_row w1 _ 0 _ _ _ j0).trans (by rfl:_=some (.slice A n c));have q0:=frozen_of_row w1 _ 0 _ _ j0)
 have m0:=zdy j0 0 (.slice A2 n c2)
 have m1:=zdn (b:=bw) j1 (by omega) 0 (.slice A2 n c2)
 have hfr2:=zbx (i:=0) (u:=.slice A2 n c2) hfr (zbh hfr (show bw<w0.heap.size by omega))
 have hb2:=(HB.out.trans (hb.mono (by omega))).setCell (p:=⟨bw,0,none⟩) (Nat.le_refl _) (.slice A2 n c2)
 have hsz:w0.heap.size≤(w1.setCell ⟨bw,0,none⟩ (.slice A2 n c2)).heap.size:=by have:=hb.size;simp;omega
 have hsy:w1.heap.size≤(w1.setCell ⟨bw,0,none⟩ (.slice A2 n c2)).heap.size:=by simp
 generalize w1.setCell ⟨bw,0,none⟩ (.slice A2 n c2)=w2 at *
 clear hfr hb j0 j1 g0 q0 d0 k0 k1
 have m0':w2.heap[bw]?=some (.cells #[.slice A2 n c2,.int .i64 wi,.int .i64 to_,.int .i64 pe,.int .i64 fi,.int .i64 mo,.int .i64 sl,.int .i64 er,.bool ro] 34 (0,0)):=m0
 have HB2:=Lib.hid hb2
 clear m0 hb2
 go_wp2_with (with_reducible refine zaw 34 ?_)
 unfold Stp
 refine wpList_load_row rfl 34 _ rfl bw rfl 34 _ (0,0) _ m0' Tryz.underlying34 rfl (by kernel_rfl) ?_
 go_wp2_with (with_reducible refine zas 34 ?_)
 unfold Stp
 refine wpList_store_row rfl 34 _ _ rfl (bw+1) _ rfl rfl 34 _ m1 (by kernel_rfl) rfl (by kernel_rfl) ?_
 go_wp2
 refine bodyPost_ret (v:=.agg #[.slice A2 n c2,.int .i64 wi,.int .i64 to_,.int .i64 pe,.int .i64 fi,.int .i64 mo,.int .i64 sl,.int .i64 er,.bool ro]) (results_cell_row rfl _ _ (bw+1) 34 _ (0,0) _ rfl (setRow_heap w2 (bw+1) _ _ 34 (0,0) m1) Tryz.underlying34 rfl (by kernel_rfl)) rfl ⟨⟨A2,n,c2⟩,rfl,rfl,hcap,?_,?_⟩
 · rw [HBW.out]
   exact za0 (zaq hfr2 _ (zbh hfr2 (by omega))) (by omega)
 · rw [HBW.out]
   exact below_setRow HB2.out (by omega) _
theorem info80s:(Tryz.prog.info? 80).map (fun i=>(i.zero,i.size,i.bytes))=some (some (.agg #[.string ⟨#[]⟩,.int .i64 0,.bool false]),3,32):=by kernel_rfl
theorem info116s:(Tryz.prog.info? 116).map (fun i=>(i.zero,i.size,i.bytes))=some (some (.agg #[.int .i64 0,.int .i64 0,.int .i64 0,.int .i64 0]),4,32):=by kernel_rfl
theorem info118s:(Tryz.prog.info? 118).map (fun i=>(i.zero,i.size,i.bytes))=some (some (.agg #[.int .i64 0,.int .i64 0]),2,16):=by kernel_rfl
theorem info83s:(Tryz.prog.info? 83).map (fun i=>(i.zero,i.size,i.bytes))=some (some (.agg #[.string ⟨#[]⟩,.int .i64 0,.int .i64 0,.slice none 0 0]),4,56):=by kernel_rfl
theorem stVals_one (x:StV):∀ u∈zit x,u.oneCell'=true:=by
 intro u hu
 simp [zit] at hu
 rcases hu with rfl | rfl | rfl <;> rfl
theorem fsVals_one (x:FsV):∀ u∈zjk x,u.oneCell'=true:=by
 intro u hu
 simp [zjk] at hu
 rcases hu with rfl | rfl | rfl | rfl <;> rfl
theorem spVals_one (x:Int × Int):∀ u∈ziu x,u.oneCell'=true:=by
 intro u hu
 simp [ziu] at hu
 rcases hu with rfl | rfl <;> rfl
theorem stCells_len (l:List StV):(zff l).length=l.length * 3:=zef (vals:=zit) (k:=3) (fun _=>rfl) l
theorem fsCells_len (l:List FsV):(zfo l).length=l.length * 4:=zef (vals:=zjk) (k:=4) (fun _=>rfl) l
theorem spCells_len (l:List (Int × Int)):(zc4 l).length=l.length * 2:=zef (vals:=ziu) (k:=2) (fun _=>rfl) l
theorem zhw (l:List Sw):(zbl l).length=l.length * 2:=zef (vals:=zgq) (k:=2) (fun _=>rfl) l
def EmAt (w:World) (x:Nat) (t:TypeId) (used:Bool) (e:Value):Prop:=∃ g,e=.slice (some ⟨g,0,none⟩) 0 0∧x≤g∧(used=false→w.heap[g]?=some (.cells #[] t (0,0)))
theorem EmAt.keep {w w':World} {x t:Nat} {b:Bool} {e:Value} (h:EmAt w x t b e) (hb:Below w.heap.size w w'):EmAt w' x t b e:=by
 obtain ⟨g,h1,h2,h3⟩:=h
 exact ⟨g,h1,h2,fun h=>blk hb (h3 h)⟩
theorem EmAt.grown {w w':World} {x t g0 t0:Nat} {b:Bool} {e:Value} {f:Nat × Nat} (h:EmAt w x t b e) (hg:w.grownBy w' (some g0)) (h0:w.heap[g0]?=some (.cells #[] t0 f)) (hne:t≠t0):EmAt w' x t b e:=by
 obtain ⟨g,h1,h2,h3⟩:=h
 refine ⟨g,h1,h2,fun h=>?_⟩
 rw [hg.block g (lt_of_block (h3 h)) (fun he=>hne ?_)]
 · exact h3 h
 · have he':g=g0:=Option.some.inj he
   have h4:=h3 h
   rw [he',h0] at h4
   cases h4
   rfl
theorem EmAt.used {w w':World} {x t:Nat} {b:Bool} {e:Value} (h:EmAt w x t b e):EmAt w' x t true e:=by
 obtain ⟨g,h1,h2,h3⟩:=h
 exact ⟨g,h1,h2,fun h=>by cases h⟩
def BlAt (w:World) (x:Nat) (ob:Obj) (e:Value):Prop:=∃ b,e=.pointer (some ⟨b,0,none⟩)∧x≤b∧w.heap[b]?=some ob
theorem BlAt.keep {w w':World} {x:Nat} {ob:Obj} {e:Value} (h:BlAt w x ob e) (hb:Below w.heap.size w w'):BlAt w' x ob e:=by
 obtain ⟨g,h1,h2,h3⟩:=h
 exact ⟨g,h1,h2,blk hb h3⟩
theorem BlAt.grown {w w':World} {x g0 t0:Nat} {ob:Obj} {e:Value} {f:Nat × Nat} (h:BlAt w x ob e) (hg:w.grownBy w' (some g0)) (h0:w.heap[g0]?=some (.cells #[] t0 f)) (hne:ob≠.cells #[] t0 f):BlAt w' x ob e:=by
 obtain ⟨g,h1,h2,h3⟩:=h
 refine ⟨g,h1,h2,?_⟩
 rw [hg.block g (lt_of_block h3) (fun he=>hne ?_)]
 · exact h3
 · have he':g=g0:=Option.some.inj he
   rw [he',h0] at h3
   exact (Option.some.inj h3).symm
def OwAt (w:World) (x t size n:Nat) (xs:List Value) (e:Value):Prop:=∃ A c,e=.slice A n c∧n≤c∧w.ownsRow x t size (.slice A n c) n xs
theorem OwAt.keep {w w':World} {x t size n:Nat} {xs:List Value} {e:Value} (h:OwAt w x t size n xs e) (hb:Below w.heap.size w w'):OwAt w' x t size n xs e:=by
 obtain ⟨A,c,h1,h2,h3⟩:=h
 exact ⟨A,c,h1,h2,zaf h3 hb⟩
theorem OwAt.grown {w w':World} {x t size n g0 t0:Nat} {xs:List Value} {e:Value} {f:Nat × Nat} {cur:Array Value} (h:OwAt w x t size n xs e) (hg:w.grownBy w' (some g0)) (h0:w.heap[g0]?=some (.cells cur t0 f)) (hne:t≠t0):OwAt w' x t size n xs e:=by
 obtain ⟨A,c,h1,h2,h3⟩:=h
 exact ⟨A,c,h1,h2,own_grown_ty h3 hg h0 hne⟩
theorem zey {X:World} {k t:Nat} {cs:List Value} {f:Nat × Nat} (h:X.heap[k]?=some (.cells cs.toArray t f)):∀ j u,cs[j]?=some u→X.cell? ((⟨k,0,none⟩:Addr).add j)=some u:=by
 intro j u hu
 have h1:=cell_of_row X k j _ _ _ h
 have h2:(cs.toArray)[j]?=some u:=by simpa using hu
 rw [h2] at h1
 simp only [Addr.add]
 split
 · rename_i hj
   subst hj
   exact h1
 · rw [Nat.zero_add]
   exact h1
def TnV.key (t:TnV):ByteArray × Int × Int × List (Int × Int):=(t.nm,t.e1,t.e2,t.steps)
structure FeedOw (w:World) (x:Nat) (q:NetV):Prop where
 sts:w.ownsRow x 80 3 q.ss.v q.ss.n (zff q.sts)
 fss:w.ownsRow x 116 4 q.fs.v q.fs.n (zfo q.fss)
 tns:w.ownsRow x 83 4 q.ts.v q.ts.n (zeu q.tns)
 tn:∀ t∈q.tns,t.steps.length=t.s.n∧w.ownsRow x 118 2 t.s.v t.s.n (zc4 t.steps)
 len:q.sts.length=q.ss.n∧q.fss.length=q.fs.n∧q.tns.length=q.ts.n
theorem FeedOw.keep {w w':World} {x:Nat} {q:NetV} (h:FeedOw w x q) (hb:Below w.heap.size w w'):FeedOw w' x q:=
 ⟨zaf h.sts hb,zaf h.fss hb,zaf h.tns hb,fun t ht=>⟨(h.tn t ht).1,zaf (h.tn t ht).2 hb⟩,h.len⟩
theorem FeedOw.base {w:World} {x x':Nat} {q:NetV} (h:FeedOw w x q) (hx:x'≤x):FeedOw w x' q:=
 ⟨za0 h.sts hx,za0 h.fss hx,za0 h.tns hx,fun t ht=>⟨(h.tn t ht).1,za0 (h.tn t ht).2 hx⟩,h.len⟩
theorem FeedOw.setRow {w:World} {x g:Nat} {q:NetV} (h:FeedOw w x q) (cs:Array Value) (hg:g<x):FeedOw (w.setRow g cs) x q:=
 ⟨zaq h.sts cs (zbh h.sts hg),zaq h.fss cs (zbh h.fss hg),zaq h.tns cs (zbh h.tns hg),fun t ht=>⟨(h.tn t ht).1,zaq (h.tn t ht).2 cs (zbh (h.tn t ht).2 hg)⟩,h.len⟩
theorem FeedOw.at {w:World} {x:Nat} {q:NetV} (h:FeedOw w x q):FeedAt w w.heap.size q:=
 ⟨⟨h.len.1,za7 h.sts⟩,⟨h.len.2.1,za7 h.fss⟩,⟨h.len.2.2,za7 h.tns⟩,fun t ht=>⟨(h.tn t ht).1,za7 (h.tn t ht).2⟩⟩
def NetPost (w:World) (p:NetV) (e:Ending) (w':World):Prop:=
 ∃ q:NetV,q.sts=p.sts∧q.fss=p.fss∧q.tns.map TnV.key=p.tns.map TnV.key∧e=.returned (.agg (zc9 q).toArray)∧FeedOw w' w.heap.size q∧Below w.heap.size w w'
theorem FeedAt.belowC {w w':World} {B:Nat} {p:NetV} (h:FeedAt w B p) (hb:Below B w w'):FeedAt w' B p:=
 ⟨h.sts.below hb,h.fss.below hb,h.tns.below hb,fun r hr=>(h.tn r hr).below hb⟩
structure CpO (w:World) (x:Nat) (p:NetV) (A1 A2:Option Addr) (c1 c2:Nat) (q:List TnV):Prop where
 sts:w.ownsRow x 80 3 (.slice A1 p.ss.n c1) p.ss.n (zff p.sts)
 fss:w.ownsRow x 116 4 (.slice A2 p.fs.n c2) p.fs.n (zfo p.fss)
 tn:∀ t∈q,t.steps.length=t.s.n∧w.ownsRow x 118 2 t.s.v t.s.n (zc4 t.steps)
theorem CpO.keep {w w':World} {x:Nat} {p:NetV} {A1 A2:Option Addr} {c1 c2:Nat} {q:List TnV} (h:CpO w x p A1 A2 c1 c2 q) (hb:Below w.heap.size w w'):CpO w' x p A1 A2 c1 c2 q:=
 ⟨zaf h.sts hb,zaf h.fss hb,fun t ht=>⟨(h.tn t ht).1,zaf (h.tn t ht).2 hb⟩⟩
theorem CpO.other {w w':World} {x:Nat} {p:NetV} {A1 A2:Option Addr} {c1 c2:Nat} {q:List TnV} (h:CpO w x p A1 A2 c1 c2 q) (hk:∀ (k t:Nat) (cur:Array Value),(t=80∨t=116∨t=118)→w.heap[k]?=some (.cells cur t (0,0))→w'.heap[k]?=w.heap[k]?):CpO w' x p A1 A2 c1 c2 q:=
 ⟨zbc h.sts fun k cur h1=>hk k 80 cur (.inl rfl) h1,zbc h.fss fun k cur h1=>hk k 116 cur (.inr (.inl rfl)) h1,fun t ht=>⟨(h.tn t ht).1,zbc (h.tn t ht).2 fun k cur h1=>hk k 118 cur (.inr (.inr rfl)) h1⟩⟩
theorem zct {w:World} {k g t t0:Nat} {cur cur0:Array Value} {f f0:Nat × Nat} (h:w.heap[k]?=some (.cells cur t f)) (h0:w.heap[g]?=some (.cells cur0 t0 f0)) (hne:t≠t0):k≠g:=fun he=>by
 rw [he,h0] at h
 cases h
 exact hne rfl
def CpnRel (x b3:Nat) (w0:World) (p:NetV) (A1 A2:Option Addr) (c1 c2:Nat) (u:Value) (wr:World):Prop:=∃ (k:Nat) (A3:Option Addr) (c3:Nat) (q:List TnV),
 k≤p.ts.n∧u=.int .i64 k∧Below x w0 wr∧wr.heap[b3]?=some (.cells #[.slice A1 p.ss.n c1,.slice A2 p.fs.n c2,.slice A3 k c3] 31 (0,0))∧CpO wr x p A1 A2 c1 c2 q∧wr.ownsRow x 83 4 (.slice A3 k c3) k (zeu q)∧q.map TnV.key=(p.tns.take k).map TnV.key
def netFr (bw:Nat) (As Af At:Option Addr) (ns cs nf cf nt ct:Nat) (e3 e6 e9 e10 e13 e14:Value):Go.Act:=⟨#[.agg #[.slice As ns cs,.slice Af nf cf,.slice At nt ct],.pointer (some ⟨bw,0,none⟩),.pointer (some ⟨(bw+1),0,none⟩),e3,undef,undef,e6,.pointer (some ⟨bw,0,none⟩),.slice As ns cs,e9,e10,.pointer (some ⟨bw,1,none⟩),.slice Af nf cf,e13,e14,undef,undef,undef,undef,undef,undef,undef,undef,undef,undef,undef,undef,undef,undef,undef,undef,undef,undef,undef,undef,undef,undef,undef,undef],[]⟩
def NetI (bw:Nat) (As Af At:Option Addr) (ns cs nf cf nt ct:Nat) (sts:List StV) (fss:List FsV) (w0:World) (L:Nat→Bool) (a:Go.Act) (w:World):Prop:=
 ∃ e3 e6 e9 e10 e13 e14,a=netFr bw As Af At ns cs nf cf nt ct e3 e6 e9 e10 e13 e14∧Below w0.heap.size w0 w ∧
  (L 0=true→EmAt w w0.heap.size 80 (L 3) e6)∧(L 3=true→OwAt w w0.heap.size 80 3 ns (zff sts) e9)∧(L 4=true→EmAt w w0.heap.size 116 (L 7) e10)∧(L 7=true→OwAt w w0.heap.size 116 4 nf (zfo fss) e13) ∧
  (L 8=true→L 3=true∧L 7=true∧e14=.agg #[e9,e13,.slice none 0 0])∧(L 9=true→BlAt w w0.heap.size (.cells #[.slice none 0 0,.slice none 0 0,.slice none 0 0] 31 (0,0)) e3)
end Go.Proofs.YtoodbfkbbchjiaaGreatDoor
