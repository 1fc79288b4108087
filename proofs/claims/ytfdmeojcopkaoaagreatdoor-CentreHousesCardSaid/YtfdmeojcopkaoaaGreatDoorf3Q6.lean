import Derived.Test.YtfdmeojcopkaoaaGreatDoorf3A4
import Derived.Test.YtfdmeojcopkaoaaGreatDoorf3X4
import Derived.Test.YtfdmeojcopkaoaaGreatDoorf3F3
import Derived.Test.YtfdmeojcopkaoaaGreatDoorf3M5
import Derived.Test.YtfdmeojcopkaoaaGreatDoorf3K3
set_option maxRecDepth 100000
set_option maxHeartbeats 16000000
namespace Go.Proofs.YtfdmeojcopkaoaaGreatDoor
open Go.RowKit
theorem cnName_any (s:ByteArray) (hs9:s.size≤1000000000) (w:World):Calls Tryz.prog 89 #[.string s] w fun e w'=>e=.returned (.bool (zba s))∧Below w.heap.size w w':=by
 obtain ⟨tot,htot⟩:∃ t,zbm 0 s.data.toList=t:=⟨_,rfl⟩
 have HVF:Hid (tot=false→zba s=false):=fun h=>by
  rw [zba,htot,h,Bool.and_false]
 have HV:Hid (zba s=(decide (1≤s.size) && decide (s.size≤12) && tot)):=by rw [Hid,zba,htot]
 have HTT:=Lib.hid htot
 clear htot
 have kc:=Lib.run_convert_string_bytes (P:=Tryz.prog) w 9 172 5 s Tryz.underlying9 Tryz.underlying172 Tryz.underlying5
 go_enter Tryz.func89,Tryz.ntmps89
 go_wp2
 clear kc
 go_loop [3,4,5,9] (fun _ _ _ i=>∃ k:Nat,k≤s.size∧i=.int .i64 k∧zbm k (s.data.toList.drop k)=tot) (fun _ _ _ i=>s.size - (intOf i).toNat)
 case atStart=>exact ⟨0,Nat.zero_le _,rfl,by rw [List.drop_zero];exact HTT.out⟩
 case round =>
  obtain ⟨k,hk,rfl,he⟩:=hrel
  have HE:=Lib.hid he
  clear he
  by_cases hlt:k<s.size
  · have hkl:k<s.data.toList.length:=by simpa using hlt
    have HD:=Lib.hid (dropB hkl)
    have hcb:(s.data.toList.getD k 0).toNat≤255:=by have:=UInt8.toNat_lt (s.data.toList.getD k 0);omega
    have d0:=Lib.bytesWorld_cell w 5 s k hlt
    have HG:Hid ((okN k (s.data.toList.getD k 0).toNat && zbm (k+1) (s.data.toList.drop (k+1)))=tot):=by
     have:=HE.out
     rw [HD.out,zbm] at this
     exact this
    generalize (s.data.toList.getD k 0).toNat=c at *
    have hlti:(k:Int)<(s.size:Int):=by omega
    clear HE hkl
    have hcs:(c<45)∨(c=45)∨(45<c∧c<48)∨(48≤c∧c≤57)∨(57<c∧c<65)∨(65≤c∧c≤90)∨(90<c∧c<97)∨(97≤c∧c≤122)∨(122<c):=by omega
    rcases hcs with hcc | hcc | hcc | hcc | hcc | hcc | hcc | hcc | hcc <;> by_cases hk0:k=0
    all_goals
     first | have q0:(97:Int)≤(c:Int):=by omega | have q0:¬ (97:Int)≤(c:Int):=by omega
     first | have q1:(c:Int)≤122:=by omega | have q1:¬ (c:Int)≤122:=by omega
     first | have q2:(65:Int)≤(c:Int):=by omega | have q2:¬ (65:Int)≤(c:Int):=by omega
     first | have q3:(c:Int)≤90:=by omega | have q3:¬ (c:Int)≤90:=by omega
     first | have q5:(c:Int)<48:=by omega | have q5:¬ (c:Int)<48:=by omega
     first | have q6:(57:Int)<(c:Int):=by omega | have q6:¬ (57:Int)<(c:Int):=by omega
     first | (have q4:((c:Int) != 45)=false:=by rw [hcc];rfl) | have q4:((c:Int) != 45)=true:=by exact bne_iff_ne.2 (by omega)
     first | have e0:((k:Int) == 0)=false:=beq_eq_false_iff_ne.2 (by omega) | (have e0:((k:Int) == 0)=true:=by rw [hk0];rfl)
     by_cases hok:okN k c=true
     · have HN:Hid (zbm (k+1) (s.data.toList.drop (k+1))=tot):=by
        have:=HG.out
        rw [hok,Bool.true_and] at this
        exact this
       rw [okN] at hok
       simp at hok
       first
        | (exfalso;omega)
        | (clear hok hcc hk0
           go_wp2
           go_round
           case rel=>exact ⟨k+1,by omega,by go_num,HN.out⟩
           case measure=>simp [intOf];omega)
     · have HF:Hid (tot=false):=by
        have:=HG.out
        rw [Bool.eq_false_iff.2 hok,Bool.false_and] at this
        exact this.symm
       rw [okN] at hok
       simp at hok
       first
        | (exfalso;omega)
        | (clear hok hcc hk0
           go_wp2
           go_ret
           exact ⟨by rw [HVF.out HF.out];rfl,Lib.bytesWorld_below _ _ _⟩)
  · obtain rfl:k=s.size:=by omega
    have HT:Hid (tot=true):=by
     have:=HE.out
     rw [List.drop_eq_nil_iff.2 (by simp),zbm] at this
     exact this.symm
    clear HE
    by_cases h0:s.size=0
    · obtain rfl:s=⟨#[]⟩:=by
       cases s with
       | mk d =>
        have:d.size=0:=h0
        rw [Array.eq_empty_of_size_eq_zero this]
      go_wp2
      go_ret
      exact ⟨by rw [HV.out];rfl,Lib.bytesWorld_below _ _ _⟩
    · have hne0:¬ s.toList=[]:=fun h=>h0 (by
       rw [ByteArray.toList_eq] at h
       have:=congrArg List.length h
       simpa using this)
      have hne1:s.toList.isEmpty=false:=by
       rw [Bool.eq_false_iff]
       exact fun h=>hne0 (List.isEmpty_iff.1 h)
      by_cases h12:s.size≤12
      · have h12i:(s.size:Int)≤12:=by omega
        have HV2:Hid (zba s=true):=by rw [Hid,HV.out,HT.out,decide_eq_true (show 1≤s.size by omega),decide_eq_true h12];rfl
        go_wp2
        go_ret
        exact ⟨by rw [HV2.out];rfl,Lib.bytesWorld_below _ _ _⟩
      · have h12i:¬ (s.size:Int)≤12:=by omega
        have HV2:Hid (zba s=false):=by rw [Hid,HV.out,decide_eq_false h12,Bool.and_false,Bool.false_and]
        go_wp2
        go_ret
        exact ⟨by rw [HV2.out];rfl,Lib.bytesWorld_below _ _ _⟩
theorem zj2 (s:ByteArray) (b:Bool) (hb:zba s=b) (hs9:s.size≤1000000000) (w:World):Calls Tryz.prog 89 #[.string s] w fun e w'=>e=.returned (.bool b)∧Below w.heap.size w w':=by
 rw [← hb]
 exact cnName_any s hs9 w
end Go.Proofs.YtfdmeojcopkaoaaGreatDoor
namespace Go.Proofs.YtfdmeojcopkaoaaGreatDoor
open Go.RowKit
def nkE (mE:Nat→Int) (pre:List ByteArray) (x:ByteArray):Int:=zam [zaf (zba x) 4,zaf (!zcy pre x) 5,mE pre.length]
def CnR {α:Type} (w0:World) (f:List α→α→Int) (l:List α) (n:Nat) (V:Int × Int) (u:Value) (wr:World):Prop:=∃ k:Nat,k≤n∧u=.int .i64 k∧zfp f k (l.take k) (l.drop k)=V∧Below w0.heap.size w0 wr
theorem noMore_val (k:Int) (w:World):Calls Tryz.prog 25 #[.int .i64 k] w (zax w 0):=by
 go_enter Tryz.func25,Tryz.ntmps25
 go_wp2
 go_ret
 exact ⟨rfl,Below.refl _ _⟩
theorem zk7 (w:World) (B:Nat) (A:Option Addr) (n c:Nat) (l:List ByteArray) (mE:Nat→Int) (hl:l.length=n) (hr:Rd w B A (strCells l)) (hB:B≤w.heap.size) (hn:n≤1000) (hc:n≤c) (hz:∀ x∈l,x.size≤1000) (MORE:∀ (W:World),Below w.heap.size w W→∀ k:Nat,k<n→Calls Tryz.prog 25 #[.int .i64 k] W (zax W (mE k))) :
 Calls Tryz.prog 24 #[.slice A n c,.func (.func 25) #[] #[]] w fun e w'=>e=.returned (.tuple #[.int .i64 (zfp (nkE mE) 0 [] l).1,.int .i64 (zfp (nkE mE) 0 [] l).2])∧Below w.heap.size w w':=by
 have HL:=Lib.hid hl
 have HZ:=Lib.hid hz
 have HR:=Lib.hid hr
 obtain ⟨V,hV⟩:∃ V,zfp (nkE mE) 0 [] l=V:=⟨_,rfl⟩
 rw [hV]
 have HV:=Lib.hid hV
 clear hl hz hr hV
 go_enter Tryz.func24,Tryz.ntmps24
 go_wp2
 go_loopw [11] (fun u wr=>CnR w (nkE mE) l n V u wr) (fun u _=>n - (intOf u).toNat)
 case atStart=>exact ⟨0,Nat.zero_le _,rfl,HV.out,Below.refl _ _⟩
 case round =>
  clear HV
  obtain ⟨k,hk,rfl,hgo,hb⟩:=hrel
  have HGO:=Lib.hid hgo
  have HBK:=Lib.hid hb
  have hr:=HR.out.below (hb.mono hB)
  have hsk:=hb.size
  clear hgo
  by_cases hlt:k<n
  · have hkl:k<l.length:=by rw [HL.out];exact hlt
    obtain ⟨s,hev⟩:∃ ev,l[k]?=some ev:=⟨_,List.getElem?_eq_getElem hkl⟩
    obtain ⟨bb,off,rfl,hbB,z0⟩:=hr.at_ (k:=k) (u:=.string s) (by simp [strCells,hev])
    have HSV:=Lib.hid hev
    have hz9:=HZ.out s (List.mem_of_getElem? hev)
    have hrt:=zid hr k
    have HTL:Hid ((l.take k).length=k):=by rw [Hid,List.length_take];omega
    have hkc:k≤c:=by omega
    obtain ⟨bn,hbn⟩:∃ b,zba s=b:=⟨_,rfl⟩
    obtain ⟨bt,hbt⟩:∃ b,zcy (l.take k) s=b:=⟨_,rfl⟩
    obtain ⟨em,hem⟩:∃ em,mE k=em:=⟨_,rfl⟩
    have NM:=fun W=>zj2 s bn hbn (by omega) W
    have TX:=fun (y:Xt wr) (c:Nat)=>zc8 (some ⟨bb,off,none⟩) k c _ (l.take k) s bt hbt y.1 (by omega) HTL.out (hrt.below (y.2.mono (by omega)))
    have MR:=fun y:Xt wr=>MORE y.1 (hb.trans (y.2.mono hsk)) k hlt
    rw [hem] at MR
    obtain ⟨er,her⟩:∃ er,zam [zaf bn 4,zaf (!bt) 5,em]=er:=⟨_,rfl⟩
    have HER:Hid (nkE mE (l.take k) s=er):=by rw [Hid,nkE,hbn,hbt,HTL.out,hem,her]
    have HEF:=Lib.hid her
    clear hkl hbn hbt her hev hrt hem hb
    go_upto_region 4 with (fail)
    refine zaw [] [0,1,2,3,4,5,6,7,8,9,10,11,12] 13 [14,15] (fun w'=>∃ y:Xt wr,w'=y.1) (by as_aux_lemma=>kernel_rfl) (by as_aux_lemma=>kernel_rfl) ⟨⟨wr.drew,(Below.refl _ _).drew⟩,rfl⟩ ?_
    simp only [zad,zac,zaa,zX1,zX2,zX3]
    refine wpQuiet_nil ?_
    show wpQuiet _ _ _ _ _ _
    repeat (go_big_quiet_step (first | (go_at_call 89;exact Xt.calls (NM _)) | (go_at_call 23;exact Xt.calls_same (zcr _ _ _)) | (go_at_call 87;exact Xt.calls_same (TX _ _)) | (go_at_call 25;exact Xt.calls (MR _))))
    refine wpQuiet_nil ?_
    intro wb hx
    have hb3:=Xt.below hx
    clear hx NM TX z0 MR
    go_upto_region 5 with (go_at_call 22;refine (zhy _ _ _ _).mono ?_;rintro e w' ⟨he,rfl⟩;rw [HEF.out] at he;subst he)
    refine zab ?_
    have HB5:∀ o,Below wr.heap.size wr (wb.alloc o):=fun o=>hb3.alloc hb3.size o
    generalize hw5:wb.alloc _=w5
    have hb5:Below wr.heap.size wr w5:=by rw [← hw5];exact HB5 _
    have HB6:=Lib.hid (HBK.out.trans (hb5.mono hsk))
    clear HB5 hb5 hw5 hb3 HBK HEF
    by_cases h0:er=0
    · have h0':(er != 0)=false:=by simp [h0]
      have HN:=Lib.hid (zk9 HSV.out HGO.out (HER.out.trans h0))
      clear h0
      go_wp2
      go_roundw
      case rel=>exact ⟨k+1,by omega,by go_num,HN.out,HB6.out⟩
      case measure=>simp [intOf];omega
    · have h0':(er != 0)=true:=by simp [h0]
      have HN:Hid (V=((k:Int),er)):=by rw [Hid,← HER.out];exact (zf4 HSV.out HGO.out (by rw [HER.out];exact h0)).symm
      clear h0
      go_wp2
      go_ret2
      exact ⟨by rw [HN.out];rfl,HB6.out⟩
  · have HN1:Hid (V=(0,0)):=zhz (by rw [HL.out];omega) HGO.out
    clear hb
    go_wp2
    go_ret2
    exact ⟨by rw [HN1.out];rfl,HBK.out⟩
theorem zji (w:World) (B:Nat) (A:Option Addr) (n c:Nat) (l:List ByteArray) (mE:Nat→Int) (pp:Value) (hl:l.length=n) (hr:Rd w B A (strCells l)) (hB:B≤w.heap.size) (hn:n≤1000) (hc:n≤c) (hz:∀ x∈l,x.size≤1000) (MORE:∀ (W:World),Below w.heap.size w W→∀ k:Nat,k<n→Calls Tryz.prog 26 #[.int .i64 k,pp] W (zax W (mE k))) :
 Calls Tryz.prog 24 #[.slice A n c,.func (.func 26) #[] #[pp]] w fun e w'=>e=.returned (.tuple #[.int .i64 (zfp (nkE mE) 0 [] l).1,.int .i64 (zfp (nkE mE) 0 [] l).2])∧Below w.heap.size w w':=by
 have HL:=Lib.hid hl
 have HZ:=Lib.hid hz
 have HR:=Lib.hid hr
 obtain ⟨V,hV⟩:∃ V,zfp (nkE mE) 0 [] l=V:=⟨_,rfl⟩
 rw [hV]
 have HV:=Lib.hid hV
 clear hl hz hr hV
 go_enter Tryz.func24,Tryz.ntmps24
 go_wp2
 go_loopw [11] (fun u wr=>CnR w (nkE mE) l n V u wr) (fun u _=>n - (intOf u).toNat)
 case atStart=>exact ⟨0,Nat.zero_le _,rfl,HV.out,Below.refl _ _⟩
 case round =>
  clear HV
  obtain ⟨k,hk,rfl,hgo,hb⟩:=hrel
  have HGO:=Lib.hid hgo
  have HBK:=Lib.hid hb
  have hr:=HR.out.below (hb.mono hB)
  have hsk:=hb.size
  clear hgo
  by_cases hlt:k<n
  · have hkl:k<l.length:=by rw [HL.out];exact hlt
    obtain ⟨s,hev⟩:∃ ev,l[k]?=some ev:=⟨_,List.getElem?_eq_getElem hkl⟩
    obtain ⟨bb,off,rfl,hbB,z0⟩:=hr.at_ (k:=k) (u:=.string s) (by simp [strCells,hev])
    have HSV:=Lib.hid hev
    have hz9:=HZ.out s (List.mem_of_getElem? hev)
    have hrt:=zid hr k
    have HTL:Hid ((l.take k).length=k):=by rw [Hid,List.length_take];omega
    have hkc:k≤c:=by omega
    obtain ⟨bn,hbn⟩:∃ b,zba s=b:=⟨_,rfl⟩
    obtain ⟨bt,hbt⟩:∃ b,zcy (l.take k) s=b:=⟨_,rfl⟩
    obtain ⟨em,hem⟩:∃ em,mE k=em:=⟨_,rfl⟩
    have NM:=fun W=>zj2 s bn hbn (by omega) W
    have TX:=fun (y:Xt wr) (c:Nat)=>zc8 (some ⟨bb,off,none⟩) k c _ (l.take k) s bt hbt y.1 (by omega) HTL.out (hrt.below (y.2.mono (by omega)))
    have MR:=fun y:Xt wr=>MORE y.1 (hb.trans (y.2.mono hsk)) k hlt
    rw [hem] at MR
    obtain ⟨er,her⟩:∃ er,zam [zaf bn 4,zaf (!bt) 5,em]=er:=⟨_,rfl⟩
    have HER:Hid (nkE mE (l.take k) s=er):=by rw [Hid,nkE,hbn,hbt,HTL.out,hem,her]
    have HEF:=Lib.hid her
    clear hkl hbn hbt her hev hrt hem hb
    go_upto_region 4 with (fail)
    refine zaw [] [0,1,2,3,4,5,6,7,8,9,10,11,12] 13 [14,15] (fun w'=>∃ y:Xt wr,w'=y.1) (by as_aux_lemma=>kernel_rfl) (by as_aux_lemma=>kernel_rfl) ⟨⟨wr.drew,(Below.refl _ _).drew⟩,rfl⟩ ?_
    simp only [zad,zac,zaa,zX1,zX2,zX3]
    refine wpQuiet_nil ?_
    show wpQuiet _ _ _ _ _ _
    repeat (go_big_quiet_step (first | (go_at_call 89;exact Xt.calls (NM _)) | (go_at_call 23;exact Xt.calls_same (zcr _ _ _)) | (go_at_call 87;exact Xt.calls_same (TX _ _)) | (go_at_call 26;exact Xt.calls (MR _))))
    refine wpQuiet_nil ?_
    intro wb hx
    have hb3:=Xt.below hx
    clear hx NM TX z0 MR
    go_upto_region 5 with (go_at_call 22;refine (zhy _ _ _ _).mono ?_;rintro e w' ⟨he,rfl⟩;rw [HEF.out] at he;subst he)
    refine zab ?_
    have HB5:∀ o,Below wr.heap.size wr (wb.alloc o):=fun o=>hb3.alloc hb3.size o
    generalize hw5:wb.alloc _=w5
    have hb5:Below wr.heap.size wr w5:=by rw [← hw5];exact HB5 _
    have HB6:=Lib.hid (HBK.out.trans (hb5.mono hsk))
    clear HB5 hb5 hw5 hb3 HBK HEF
    by_cases h0:er=0
    · have h0':(er != 0)=false:=by simp [h0]
      have HN:=Lib.hid (zk9 HSV.out HGO.out (HER.out.trans h0))
      clear h0
      go_wp2
      go_roundw
      case rel=>exact ⟨k+1,by omega,by go_num,HN.out,HB6.out⟩
      case measure=>simp [intOf];omega
    · have h0':(er != 0)=true:=by simp [h0]
      have HN:Hid (V=((k:Int),er)):=by rw [Hid,← HER.out];exact (zf4 HSV.out HGO.out (by rw [HER.out];exact h0)).symm
      clear h0
      go_wp2
      go_ret2
      exact ⟨by rw [HN.out];rfl,HB6.out⟩
  · have HN1:Hid (V=(0,0)):=zhz (by rw [HL.out];omega) HGO.out
    clear hb
    go_wp2
    go_ret2
    exact ⟨by rw [HN1.out];rfl,HBK.out⟩
end Go.Proofs.YtfdmeojcopkaoaaGreatDoor
namespace Go.Proofs.YtfdmeojcopkaoaaGreatDoor
open Go.RowKit
theorem refMasts_any (w:World) (B:Nat) (A:Option Addr) (n c:Nat) (l:List ByteArray) (hl:l.length=n) (hr:Rd w B A (strCells l)) (hB:B≤w.heap.size) (hn:n≤1000) (hc:n≤c) (hz:∀ s∈l,s.size≤1000) :
 Calls Tryz.prog 42 #[.slice A n c] w fun e w'=>e=.returned (.tuple #[.int .i64 (zdo 6 nmE l).1,.int .i64 (zdo 6 nmE l).2])∧Below w.heap.size w w':=by
 have HL:=Lib.hid hl
 have HZ:=Lib.hid hz
 have HR:=Lib.hid hr
 obtain ⟨V,hV⟩:∃ V,zdo 6 nmE l=V:=⟨_,rfl⟩
 obtain ⟨C,hC⟩:∃ V,zfp nmE 0 [] l=V:=⟨_,rfl⟩
 rw [hV]
 have HV:Hid (V=if n=0 then (0,10) else if 6<n then (0,8) else C):=by rw [Hid,← hV,zdo,hl,hC]
 have HC:=Lib.hid hC
 clear hl hz hr hV hC
 go_enter Tryz.func42,Tryz.ntmps42
 by_cases h0:n=0
 · have HN:Hid (V=(0,10)):=by rw [Hid,HV.out,if_pos h0]
   subst h0
   go_wp2
   go_ret2
   exact ⟨by rw [HN.out];rfl,Below.refl _ _⟩
 have g0:((n:Int) == 0)=false:=beq_eq_false_iff_ne.2 (by omega)
 by_cases h6:(6:Int)<(n:Int)
 · have HN:Hid (V=(0,8)):=by rw [Hid,HV.out,if_neg h0,if_pos (by omega)]
   go_wp2
   go_ret2
   exact ⟨by rw [HN.out];rfl,Below.refl _ _⟩
 have HN:Hid (V=C):=by rw [Hid,HV.out,if_neg h0,if_neg (by omega)]
 clear HV h0
 go_wp2
 go_loopw [4] (fun u wr=>CnR w nmE l n C u wr) (fun u _=>n - (intOf u).toNat)
 case atStart=>exact ⟨0,Nat.zero_le _,rfl,HC.out,Below.refl _ _⟩
 case round =>
  clear HC
  obtain ⟨k,hk,rfl,hgo,hb⟩:=hrel
  have HGO:=Lib.hid hgo
  have HBK:=Lib.hid hb
  have hr:=HR.out.below (hb.mono hB)
  have hsk:=hb.size
  clear hgo hb
  by_cases hlt:k<n
  · have hkl:k<l.length:=by rw [HL.out];exact hlt
    obtain ⟨s,hev⟩:∃ ev,l[k]?=some ev:=⟨_,List.getElem?_eq_getElem hkl⟩
    obtain ⟨bb,off,rfl,hbB,z0⟩:=hr.at_ (k:=k) (u:=.string s) (by simp [strCells,hev])
    have HSV:=Lib.hid hev
    have hz9:=HZ.out s (List.mem_of_getElem? hev)
    have hrt:=zid hr k
    have HTL:Hid ((l.take k).length=k):=by rw [Hid,List.length_take];omega
    have hkc:k≤c:=by omega
    obtain ⟨bn,hbn⟩:∃ b,zba s=b:=⟨_,rfl⟩
    obtain ⟨bt,hbt⟩:∃ b,zcy (l.take k) s=b:=⟨_,rfl⟩
    have HNM:Hid (nmE (l.take k) s=zam [zaf bn 4,zaf (!bt) 5]):=by rw [Hid,nmE,hbn,hbt]
    have NM:=fun W=>zbt s bn hbn (by omega) W
    have TX:=fun (y:Xt wr) (c:Nat)=>zi4 (some ⟨bb,off,none⟩) k c _ (l.take k) s bt hbt y.1 (by omega) HTL.out (hrt.below (y.2.mono (by omega)))
    clear hkl hbn hbt hev hrt
    cases bn with
    | false =>
     have HN2:Hid (C=((k:Int),4)):=by
      have e:nmE (l.take k) s=4:=by rw [HNM.out];rfl
      rw [Hid,← e]
      exact (zf4 HSV.out HGO.out (by rw [e];decide)).symm
     go_wp2_with (go_at_call 98;refine (NM _).mono ?_;rintro e w' ⟨rfl,rfl⟩)
     go_ret2
     exact ⟨by rw [HN.out,HN2.out];rfl,HBK.out⟩
    | true =>
     have x0:=fun y:Xt wr=>y.cell z0
     go_upto_region 10 with (go_at_call 98;refine (NM _).mono ?_;rintro e w' ⟨rfl,rfl⟩)
     refine za8 (by kernel_rfl) (by kernel_rfl) ?_
     repeat (go_big_quiet_step (first | (go_at_call 99;exact Xt.calls_same (TX _ _))))
     refine wpQuiet_nil ?_
     intro w1 hx
     have HB1:=Lib.hid (HBK.out.trans ((Xt.below hx).mono hsk))
     clear hx x0 TX NM z0 HBK
     cases bt with
     | true =>
      have HN2:Hid (C=((k:Int),5)):=by
       have e:nmE (l.take k) s=5:=by rw [HNM.out];rfl
       rw [Hid,← e]
       exact (zf4 HSV.out HGO.out (by rw [e];decide)).symm
      go_wp2
      go_ret2
      exact ⟨by rw [HN.out,HN2.out];rfl,HB1.out⟩
     | false =>
      have HN2:=Lib.hid (zk9 HSV.out HGO.out (by rw [HNM.out];rfl))
      go_wp2
      go_roundw
      case rel=>exact ⟨k+1,by omega,by go_num,HN2.out,HB1.out⟩
      case measure=>simp [intOf];omega
  · have HN1:Hid (C=(0,0)):=zhz (by rw [HL.out];omega) HGO.out
    go_wp2
    go_ret2
    exact ⟨by rw [HN.out,HN1.out];rfl,HBK.out⟩
end Go.Proofs.YtfdmeojcopkaoaaGreatDoor
namespace Go.Proofs.YtfdmeojcopkaoaaGreatDoor
open Go.RowKit
def HtRel (w0:World) (l:List ByteArray) (s:ByteArray) (k:Nat) (bt:Bool) (u:Value) (wr:World):Prop:=∃ j:Nat,j≤k∧u=.int .i64 j∧zcy ((l.take k).drop j) s=bt∧Below w0.heap.size w0 wr
theorem ht_no {l:List ByteArray} {s x:ByteArray} {k j:Nat} {bt:Bool} (hj:j<k) (hx:l[j]?=some x) (he:(x.toList == s.toList)=false) (h:zcy ((l.take k).drop j) s=bt):zcy ((l.take k).drop (j+1)) s=bt:=by
 have h9:(l.take k)[j]?=some x:=by rw [List.getElem?_take];simp [hj,hx]
 rw [za5 h9,ze7,he,Bool.false_or] at h
 exact h
theorem ht_yes {l:List ByteArray} {s x:ByteArray} {k j:Nat} {bt:Bool} (hj:j<k) (hx:l[j]?=some x) (he:(x.toList == s.toList)=true) (h:zcy ((l.take k).drop j) s=bt):bt=true:=by
 have h9:(l.take k)[j]?=some x:=by rw [List.getElem?_take];simp [hj,hx]
 rw [za5 h9,ze7,he,Bool.true_or] at h
 exact h.symm
theorem ht_end {l:List ByteArray} {s:ByteArray} {k j:Nat} {bt:Bool} (hj:¬ j<k) (h:zcy ((l.take k).drop j) s=bt):bt=false:=by
 rw [List.drop_eq_nil_iff.2 (by rw [List.length_take];omega)] at h
 exact h.symm
theorem zkq (w:World) (B:Nat) (A:Option Addr) (n c:Nat) (l:List Sw) (hl:l.length=n) (hr:Rd w B A (zbk l)) (hB:B≤w.heap.size) (hn:n≤1000) (hz:∀ s∈l,s.1.size≤1000) :
 Calls Tryz.prog 43 #[.slice A n c] w fun e w'=>e=.returned (.tuple #[.int .i64 (zdo 12 zi8 l).1,.int .i64 (zdo 12 zi8 l).2])∧Below w.heap.size w w':=by
 have HL:=Lib.hid hl
 have HZ:=Lib.hid hz
 have HR:=Lib.hid hr
 obtain ⟨V,hV⟩:∃ V,zdo 12 zi8 l=V:=⟨_,rfl⟩
 obtain ⟨C,hC⟩:∃ V,zfp zi8 0 [] l=V:=⟨_,rfl⟩
 rw [hV]
 have HV:Hid (V=if n=0 then (0,10) else if 12<n then (0,8) else C):=by rw [Hid,← hV,zdo,hl,hC]
 have HC:=Lib.hid hC
 clear hl hz hr hV hC
 go_enter Tryz.func43,Tryz.ntmps43
 by_cases h0:n=0
 · have HN:Hid (V=(0,10)):=by rw [Hid,HV.out,if_pos h0]
   subst h0
   go_wp2
   go_ret2
   exact ⟨by rw [HN.out];rfl,Below.refl _ _⟩
 have g0:((n:Int) == 0)=false:=beq_eq_false_iff_ne.2 (by omega)
 by_cases h6:(12:Int)<(n:Int)
 · have HN:Hid (V=(0,8)):=by rw [Hid,HV.out,if_neg h0,if_pos (by omega)]
   go_wp2
   go_ret2
   exact ⟨by rw [HN.out];rfl,Below.refl _ _⟩
 have HN:Hid (V=C):=by rw [Hid,HV.out,if_neg h0,if_neg (by omega)]
 clear HV h0
 go_wp2
 go_loopw [4] (fun u wr=>CnR w zi8 l n C u wr) (fun u _=>n - (intOf u).toNat)
 case atStart=>exact ⟨0,Nat.zero_le _,rfl,HC.out,Below.refl _ _⟩
 case round =>
  clear HC
  obtain ⟨k,hk,rfl,hgo,hb⟩:=hrel
  have HGO:=Lib.hid hgo
  have HBK:=Lib.hid hb
  have hr:=HR.out.below (hb.mono hB)
  have hsk:=hb.size
  clear hgo hb
  by_cases hlt:k<n
  · have hkl:k<l.length:=by rw [HL.out];exact hlt
    obtain ⟨ev,hev⟩:∃ ev,l[k]?=some ev:=⟨_,List.getElem?_eq_getElem hkl⟩
    obtain ⟨bb,off,rfl,hbB,z0,z1⟩:=Rd.sw hr hev
    have HSV:=Lib.hid hev
    have hz9:=HZ.out ev (List.mem_of_getElem? hev)
    obtain ⟨s,r⟩:=ev
    simp only at z0 z1 hz9
    obtain ⟨bn,hbn⟩:∃ b,zba s=b:=⟨_,rfl⟩
    obtain ⟨bt,hbt⟩:∃ b,zcy ((l.take k).map (·.1)) s=b:=⟨_,rfl⟩
    obtain ⟨br,hbr⟩:∃ b,zai r 0 3=b:=⟨_,rfl⟩
    have HNM:Hid (zi8 (l.take k) (s,r)=zam [zaf bn 4,zaf (!bt) 5,zaf br 15]):=by rw [Hid,zi8,hbn,hbt,hbr]
    have NM:=fun W=>zbt s bn hbn (by omega) W
    have WI:=fun W=>za2 r 0 3 br hbr W
    have HBT:Hid (zcy (((l.map (·.1)).take k).drop 0) s=bt):=by rw [Hid,← List.map_take,List.drop_zero];exact hbt
    clear hkl hbn hbt hbr hev
    cases bn with
    | false =>
     have HN2:Hid (C=((k:Int),4)):=by
      have e:zi8 (l.take k) (s,r)=4:=by rw [HNM.out];rfl
      rw [Hid,← e]
      exact (zf4 HSV.out HGO.out (by rw [e];decide)).symm
     go_wp2_with (go_at_call 98;refine (NM _).mono ?_;rintro e w' ⟨rfl,rfl⟩)
     go_ret2
     exact ⟨by rw [HN.out,HN2.out];rfl,HBK.out⟩
    | true =>
     go_wp2_with (go_at_call 98;refine (NM _).mono ?_;rintro e w' ⟨rfl,rfl⟩)
     clear NM
     obtain ⟨wq,rfl⟩:∃ wq,wq=wr:=⟨wr,rfl⟩
     go_loopw [5] (fun u wx=>HtRel wq (l.map (·.1)) s k bt u wx) (fun u _=>k - (intOf u).toNat)
     case atStart=>exact ⟨0,Nat.zero_le _,rfl,HBT.out,Below.refl _ _⟩
     case round =>
      clear HBT
      obtain ⟨j,hj,rfl,hgj,hb⟩:=hrel
      have HGJ:=Lib.hid hgj
      have HBJ:=Lib.hid hb
      have hrj:=hr.below (hb.mono (by omega))
      replace z0:=zas hb z0
      replace z1:=zas hb z1
      have hsj:=hb.size
      clear hgj hb
      by_cases hjk:j<k
      · have hjl:j<l.length:=by rw [HL.out];omega
        obtain ⟨ev,hev⟩:∃ ev,l[j]?=some ev:=⟨_,List.getElem?_eq_getElem hjl⟩
        obtain ⟨b9,off9,hA9,hb9B,y0,y1⟩:=Rd.sw hrj hev
        cases hA9
        have HEV:Hid ((l.map (·.1))[j]?=some ev.1):=by rw [Hid,List.getElem?_map,hev];rfl
        obtain ⟨x,xr⟩:=ev
        simp only at y0 y1 HEV
        have hjn:j<n:=by omega
        have x0:=fun y:Xt wr=>y.cell z0
        have x1:=fun y:Xt wr=>y.cell y0
        clear hev hjl
        go_upto_region 13 with (fail)
        refine za8 (by kernel_rfl) (by kernel_rfl) ?_
        repeat (go_big_quiet_step (fail))
        refine wpQuiet_nil ?_
        intro w1 hx
        have HB1:=Lib.hid (HBJ.out.trans ((Xt.below hx).mono hsj))
        clear hx x0 x1 z0 z1 y0 y1 HBJ
        cases he:(x.toList == s.toList) with
        | true =>
         have HE:=Lib.hid he
         have HBT:=Lib.hid (ht_yes hjk HEV.out he HGJ.out)
         have HN2:Hid (C=((k:Int),5)):=by
          have e:zi8 (l.take k) (s,r)=5:=by rw [HNM.out,HBT.out];rfl
          rw [Hid,← e]
          exact (zf4 HSV.out HGO.out (by rw [e];decide)).symm
         go_wp2
         go_ret2
         exact ⟨by rw [HN.out,HN2.out];rfl,HBK.out.trans (HB1.out.mono hsk)⟩
        | false =>
         have HE:=Lib.hid he
         have HN3:=Lib.hid (ht_no hjk HEV.out he HGJ.out)
         go_wp2
         go_roundw
         case rel=>exact ⟨j+1,by omega,by go_num,HN3.out,HB1.out⟩
         case measure=>simp [intOf];omega
      · have HBT:=Lib.hid (ht_end hjk HGJ.out)
        have HB2:=Lib.hid (HBK.out.trans (HBJ.out.mono hsk))
        clear HGJ HBJ HBK
        cases br with
        | false =>
         have HN2:Hid (C=((k:Int),15)):=by
          have e:zi8 (l.take k) (s,r)=15:=by rw [HNM.out,HBT.out];rfl
          rw [Hid,← e]
          exact (zf4 HSV.out HGO.out (by rw [e];decide)).symm
         go_wp2_with (go_at_call 96;refine (WI _).mono ?_;rintro e w' ⟨rfl,rfl⟩)
         go_ret2
         exact ⟨by rw [HN.out,HN2.out];rfl,HB2.out⟩
        | true =>
         have HN2:=Lib.hid (zk9 HSV.out HGO.out (by rw [HNM.out,HBT.out];rfl))
         go_wp2_with (go_at_call 96;refine (WI _).mono ?_;rintro e w' ⟨rfl,rfl⟩)
         go_roundw
         case rel=>exact ⟨k+1,by omega,by go_num,HN2.out,HB2.out⟩
         case measure=>simp [intOf];omega
  · have HN1:Hid (C=(0,0)):=zhz (by rw [HL.out];omega) HGO.out
    go_wp2
    go_ret2
    exact ⟨by rw [HN.out,HN1.out];rfl,HBK.out⟩
end Go.Proofs.YtfdmeojcopkaoaaGreatDoor
namespace Go.Proofs.YtfdmeojcopkaoaaGreatDoor
open Go.RowKit
theorem numberOf_any (A:Option Addr) (n c B:Nat) (l:List ByteArray) (s:ByteArray) (w:World) (hn:n≤1000000000) (hl:l.length=n) (h:Rd w B A (strCells l)) :
 Calls Tryz.prog 160 #[.slice A n c,.string s] w fun e w'=>e=.returned (.int .i64 (za0 (fun a=>a.toList == s.toList) l 0))∧w=w':=by
 have HL:=Lib.hid hl;clear hl
 go_enter Tryz.func160,Tryz.ntmps160
 go_wp2
 go_loop [5] (fun i=>∃ k:Nat,k≤n∧i=.int .i64 k∧za0 (fun a=>a.toList == s.toList) (l.drop k) k=za0 (fun a=>a.toList == s.toList) l 0) (fun i=>n - (intOf i).toNat)
 case atStart=>exact ⟨0,Nat.zero_le _,rfl,rfl⟩
 case round =>
  obtain ⟨k,hk,rfl,he⟩:=hrel
  have HE:=Lib.hid he;clear he
  by_cases hlt:k<n
  · have hkl:k<l.length:=by rw [HL.out];exact hlt
    obtain ⟨b,off,rfl,_,hc⟩:=h.at_ (k:=k) (u:=.string (l[k]?.getD ⟨#[]⟩)) (by simp [strCells,hkl])
    have HS:=Lib.hid (zfa l ⟨#[]⟩ k hkl)
    clear hkl
    generalize l[k]?.getD ⟨#[]⟩=x at *
    cases hx:(x.toList == s.toList) with
    | true =>
     have HX:=Lib.hid hx
     go_wp2
     go_ret
     exact ⟨by rw [← HE.out,HS.out,za0,HX.out];rfl,rfl⟩
    | false =>
     have HX:=Lib.hid hx
     go_wp2
     go_round
     case rel=>exact ⟨k+1,by omega,by go_num,by rw [← HE.out,HS.out,za0,HX.out];rfl⟩
     case measure=>simp [intOf];omega
  · go_wp2
    go_ret
    have:l.drop k=[]:=by rw [List.drop_eq_nil_iff];rw [HL.out];omega
    exact ⟨by rw [← HE.out,this];rfl,rfl⟩
theorem numberOf_val (A:Option Addr) (n c B:Nat) (l:List ByteArray) (s:ByteArray) (ix:Int) (hx:za0 (fun a=>a.toList == s.toList) l 0=ix) (w:World) (hn:n≤1000000000) (hl:l.length=n) (h:Rd w B A (strCells l)) :
 Calls Tryz.prog 160 #[.slice A n c,.string s] w fun e w'=>e=.returned (.int .i64 ix)∧w=w':=by
 rw [← hx]
 exact numberOf_any A n c B l s w hn hl h
theorem zhh (w:World) (B:Nat) (A:Option Addr) (n c:Nat) (l:List ByteArray) (hl:l.length=n) (hr:Rd w B A (strCells l)) (hB:B≤w.heap.size) (hn:n≤1000) (hc:n≤c) (hz:∀ s∈l,s.size≤1000) :
 Calls Tryz.prog 131 #[.slice A n c] w fun e w'=>∃ i:Int,e=.returned (.tuple #[.int .i64 i,.int .i64 (za4 nmE [] l)])∧Below w.heap.size w w':=by
 have HL:=Lib.hid hl
 have HZ:=Lib.hid hz
 have HR:=Lib.hid hr
 obtain ⟨V,hV⟩:∃ V,za4 nmE [] l=V:=⟨_,rfl⟩
 rw [hV]
 have HV:=Lib.hid hV
 clear hl hz hr hV
 go_enter Tryz.func131,Tryz.ntmps131
 go_wp2
 go_loopw [4] (fun u wr=>zjm w nmE l n V u wr) (fun u _=>n - (intOf u).toNat)
 case atStart=>exact ⟨0,Nat.zero_le _,rfl,HV.out,Below.refl _ _⟩
 case round =>
  clear HV
  obtain ⟨k,hk,rfl,hgo,hb⟩:=hrel
  have HGO:=Lib.hid hgo
  have HBK:=Lib.hid hb
  have hr:=HR.out.below (hb.mono hB)
  have hsk:=hb.size
  clear hgo hb
  by_cases hlt:k<n
  · have hkl:k<l.length:=by rw [HL.out];exact hlt
    obtain ⟨s,hev⟩:∃ ev,l[k]?=some ev:=⟨_,List.getElem?_eq_getElem hkl⟩
    obtain ⟨bb,off,rfl,hbB,z0⟩:=hr.at_ (k:=k) (u:=.string s) (by simp [strCells,hev])
    have HSV:=Lib.hid hev
    have hz9:=HZ.out s (List.mem_of_getElem? hev)
    have hrt:=zid hr k
    have HTL:Hid ((l.take k).length=k):=by rw [Hid,List.length_take];omega
    have hkc:k≤c:=by omega
    obtain ⟨bn,hbn⟩:∃ b,zba s=b:=⟨_,rfl⟩
    obtain ⟨bt,hbt⟩:∃ b,zcy (l.take k) s=b:=⟨_,rfl⟩
    obtain ⟨ix,hix⟩:∃ ix,za0 (fun a=>a.toList == s.toList) (l.take k) 0=ix:=⟨_,rfl⟩
    have HIX:Hid (decide (0≤ix)=bt):=by rw [Hid,← hix,zbv,← hbt];rfl
    have HNM:Hid (nmE (l.take k) s=zam [zaf bn 4,zaf (!bt) 5]):=by rw [Hid,nmE,hbn,hbt]
    have NM:=fun W=>zbt s bn hbn (by omega) W
    have TX:=fun (y:Xt wr) (c:Nat)=>numberOf_val (some ⟨bb,off,none⟩) k c _ (l.take k) s ix hix y.1 (by omega) HTL.out (hrt.below (y.2.mono (by omega)))
    clear hkl hbn hbt hev hrt hix
    cases bn with
    | false =>
     have HN2:Hid (V=4):=by
      have e:nmE (l.take k) s=4:=by rw [HNM.out];rfl
      rw [Hid,← e]
      exact (zb4 HSV.out HGO.out (by rw [e];decide)).symm
     go_wp2_with (go_at_call 98;refine (NM _).mono ?_;rintro e w' ⟨rfl,rfl⟩)
     go_ret2
     exact ⟨k,by rw [HN2.out];rfl,HBK.out⟩
    | true =>
     have x0:=fun y:Xt wr=>y.cell z0
     go_upto_region 6 with (go_at_call 98;refine (NM _).mono ?_;rintro e w' ⟨rfl,rfl⟩)
     refine za8 (by kernel_rfl) (by kernel_rfl) ?_
     repeat (go_big_quiet_step (first | (go_at_call 160;exact Xt.calls_same (TX _ _))))
     refine wpQuiet_nil ?_
     intro w1 hx
     have HB1:=Lib.hid (HBK.out.trans ((Xt.below hx).mono hsk))
     clear hx x0 TX NM z0 HBK
     by_cases hix:0≤ix
     · have HBT:Hid (bt=true):=by rw [Hid,← HIX.out];simp [hix]
       have HN2:Hid (V=5):=by
        have e:nmE (l.take k) s=5:=by rw [HNM.out,HBT.out];rfl
        rw [Hid,← e]
        exact (zb4 HSV.out HGO.out (by rw [e];decide)).symm
       go_wp2
       go_ret2
       exact ⟨k,by rw [HN2.out];rfl,HB1.out⟩
     · have HBT:Hid (bt=false):=by rw [Hid,← HIX.out];simp [hix]
       have HN2:=Lib.hid (zc0 HSV.out HGO.out (by rw [HNM.out,HBT.out];rfl))
       go_wp2
       go_roundw
       case rel=>exact ⟨k+1,by omega,by go_num,HN2.out,HB1.out⟩
       case measure=>simp [intOf];omega
  · have HN1:Hid (V=0):=zcc (by rw [HL.out];omega) HGO.out
    go_wp2
    go_ret2
    exact ⟨0,by rw [HN1.out];rfl,HBK.out⟩
end Go.Proofs.YtfdmeojcopkaoaaGreatDoor
namespace Go.Proofs.YtfdmeojcopkaoaaGreatDoor
open Go.RowKit
def HiRel (w0:World) (l:List Int) (s:Int) (k:Nat) (bt:Bool) (u:Value) (wr:World):Prop:=∃ j:Nat,j≤k∧u=.int .i64 j∧zep ((l.take k).drop j) s=bt∧Below w0.heap.size w0 wr
theorem zgp (a s:Int) (l:List Int):zep (a :: l) s=((a == s) || zep l s):=by simp [zep]
theorem hi_no {l:List Int} {s x:Int} {k j:Nat} {bt:Bool} (hj:j<k) (hx:l[j]?=some x) (he:(x == s)=false) (h:zep ((l.take k).drop j) s=bt):zep ((l.take k).drop (j+1)) s=bt:=by
 have h9:(l.take k)[j]?=some x:=by rw [List.getElem?_take];simp [hj,hx]
 rw [za5 h9,zgp,he,Bool.false_or] at h
 exact h
theorem hi_yes {l:List Int} {s x:Int} {k j:Nat} {bt:Bool} (hj:j<k) (hx:l[j]?=some x) (he:(x == s)=true) (h:zep ((l.take k).drop j) s=bt):bt=true:=by
 have h9:(l.take k)[j]?=some x:=by rw [List.getElem?_take];simp [hj,hx]
 rw [za5 h9,zgp,he,Bool.true_or] at h
 exact h.symm
theorem hi_end {l:List Int} {s:Int} {k j:Nat} {bt:Bool} (hj:¬ j<k) (h:zep ((l.take k).drop j) s=bt):bt=false:=by
 rw [List.drop_eq_nil_iff.2 (by rw [List.length_take];omega)] at h
 exact h.symm
theorem zkp (w:World) (B:Nat) (As At Aw Ar:Option Addr) (ns nt nw nr cs ct cw cr:Nat) (l:List Sw) (hl:l.length=nw) (hr:Rd w B Aw (zbk l)) (hB:B≤w.heap.size) (hn:nw≤1000) (hs:ns≤1000) (hz:∀ s∈l,s.1.size≤1000) (k:Nat) (x:Sw) (hk:l[k]?=some x) :
 Calls Tryz.prog 132 #[.agg #[.slice As ns cs,.slice At nt ct,.slice Aw nw cw,.slice Ar nr cr],.int .i64 k] w (zax w (swE ns (l.take k) x)):=by
 have hkl:k<l.length:=(List.getElem?_eq_some_iff.1 hk).1
 have hkn:k<nw:=by rw [← hl];exact hkl
 have hz9:=hz x (List.mem_of_getElem? hk)
 obtain ⟨s,i⟩:=x
 simp only at hz9
 obtain ⟨V,hV⟩:∃ V,swE ns (l.take k) (s,i)=V:=⟨_,rfl⟩
 rw [hV]
 obtain ⟨bn,hbn⟩:∃ b,zba s=b:=⟨_,rfl⟩
 obtain ⟨bt,hbt⟩:∃ b,zcy ((l.take k).map (·.1)) s=b:=⟨_,rfl⟩
 obtain ⟨b1,hb1⟩:∃ b,zai i 0 ((ns:Int) - 1)=b:=⟨_,rfl⟩
 obtain ⟨b2,hb2⟩:∃ b,zep ((l.take k).map (·.2)) i=b:=⟨_,rfl⟩
 have HV:Hid (V=zam [zaf bn 4,zaf (!bt) 5,zaf b1 6,zaf (!b2) 26]):=by rw [Hid,← hV,swE,hbn,hbt,hb1,hb2]
 have HBT:Hid (zcy (((l.map (·.1)).take k).drop 0) s=bt):=by rw [Hid,← List.map_take,List.drop_zero];exact hbt
 have HBI:Hid (zep (((l.map (·.2)).take k).drop 0) i=b2):=by rw [Hid,← List.map_take,List.drop_zero];exact hb2
 have NM:=fun W=>zbt s bn hbn (by omega) W
 have WI:=fun W=>za2 i 0 ((ns:Int) - 1) b1 hb1 W
 have k0:=hA1 w (.cells #[.slice As ns cs,.slice At nt ct,.slice Aw nw cw,.slice Ar nr cr] 26)
 have hb0:=hB1 w (.cells #[.slice As ns cs,.slice At nt ct,.slice Aw nw cw,.slice Ar nr cr] 26)
 have hr0:=hr.below (hb0.mono hB)
 have HB:=Lib.hid hb0
 have hs0:=hb0.size
 have HL:=Lib.hid hl
 obtain ⟨bb,off,hA,hbB,z0,z1⟩:=Rd.sw hr0 hk
 simp only at z0 z1
 subst hA
 clear hb0 hr hV hb1 hbn hbt hb2 hl hz
 go_enter Tryz.func132,Tryz.ntmps132
 go_upto_region 1 with (fail)
 generalize (w.alloc (.cells #[.slice As ns cs,.slice At nt ct,.slice (some ⟨bb,off,none⟩) nw cw,.slice Ar nr cr] 26))=w0 at *
 have c0:=(cell_of_row w0 _ 0 _ _ _ k0).trans (by rfl:_=some (.slice As ns cs))
 have c2:=(cell_of_row w0 _ 2 _ _ _ k0).trans (by rfl:_=some (.slice (some ⟨bb,off,none⟩) nw cw))
 obtain ⟨d0,d1⟩:_∧_:=zay (W:=w0.alloc (.cells #[.string s,.int .i64 i] 68)) (by rw [zae,if_pos rfl])
 have hba:=hB1 w0 (.cells #[.string s,.int .i64 i] 68)
 have HBA:=Lib.hid (HB.out.trans (hba.mono hs0))
 have hsa:=Nat.le_trans hs0 hba.size
 have hra:=hr0.below (hba.mono (by omega))
 have e0:=zas hba c0
 have e2:=zas hba c2
 clear hba k0 hr0 HB
 go_upto_region 2 with (fail)
 clear z0 z1 c0 c2
 generalize w0.alloc (.cells #[.string s,.int .i64 i] 68)=wa at *
 generalize w0.heap.size=xb at *
 generalize hbw:w.heap.size=bw at *
 have HBW:=Lib.hid hbw
 clear hbw
 cases bn with
 | false =>
  have HN:Hid (V=4):=by rw [Hid,HV.out];rfl
  go_wp2_with (go_at_call 98;refine (NM _).mono ?_;rintro e w' ⟨rfl,rfl⟩)
  go_ret
  exact ⟨by rw [HN.out];rfl,by rw [HBW.out];exact HBA.out⟩
 | true =>
  go_wp2_with (go_at_call 98;refine (NM _).mono ?_;rintro e w' ⟨rfl,rfl⟩)
  clear NM
  go_loopw [6] (fun u wx=>HtRel wa (l.map (·.1)) s k bt u wx) (fun u _=>k - (intOf u).toNat)
  case atStart=>exact ⟨0,Nat.zero_le _,rfl,HBT.out,Below.refl _ _⟩
  case round =>
   clear HBT
   obtain ⟨j,hj,rfl,hgj,hb⟩:=hrel
   have HGJ:=Lib.hid hgj
   have HBJ:=Lib.hid hb
   have hrj:=hra.below (hb.mono (by omega))
   replace d0:=zas hb d0
   replace d1:=zas hb d1
   replace e0:=zas hb e0
   replace e2:=zas hb e2
   have hsj:=hb.size
   clear hgj hb
   by_cases hjk:j<k
   · have hjl:j<l.length:=by omega
     obtain ⟨ev,hev⟩:∃ ev,l[j]?=some ev:=⟨_,List.getElem?_eq_getElem hjl⟩
     obtain ⟨b9,off9,hA9,hb9B,y0,y1⟩:=Rd.sw hrj hev
     cases hA9
     have HEV:Hid ((l.map (·.1))[j]?=some ev.1):=by rw [Hid,List.getElem?_map,hev];rfl
     obtain ⟨x,xr⟩:=ev
     simp only at y0 y1 HEV
     have hjn:j<nw:=by omega
     have x0:=fun y:Xt wr=>y.cell d0
     have x1:=fun y:Xt wr=>y.cell y0
     have x2:=fun y:Xt wr=>y.cell e2
     clear hev hjl
     go_upto_region 7 with (fail)
     refine za8 (by kernel_rfl) (by kernel_rfl) ?_
     repeat (go_big_quiet_step (fail))
     refine wpQuiet_nil ?_
     intro w1 hx
     have HB1:=Lib.hid (HBJ.out.trans ((Xt.below hx).mono hsj))
     clear hx x0 x1 x2 y0 y1 HBJ d0 d1 e0 e2
     cases he:(x.toList == s.toList) with
     | true =>
      have HE:=Lib.hid he
      have HBT:=Lib.hid (ht_yes hjk HEV.out he HGJ.out)
      have HN:Hid (V=5):=by rw [Hid,HV.out,HBT.out];rfl
      go_wp2
      go_ret
      exact ⟨by rw [HN.out];rfl,by rw [HBW.out];exact HBA.out.trans (HB1.out.mono (by omega))⟩
     | false =>
      have HE:=Lib.hid he
      have HN3:=Lib.hid (ht_no hjk HEV.out he HGJ.out)
      go_wp2
      go_roundw
      case rel=>exact ⟨j+1,by omega,by go_num,HN3.out,HB1.out⟩
      case measure=>simp [intOf];omega
   · have HBT:=Lib.hid (ht_end hjk HGJ.out)
     have HB2:=Lib.hid (HBA.out.trans (HBJ.out.mono (by omega)))
     have hs2:=Nat.le_trans hsa hsj
     clear HGJ HBJ HBA
     cases b1 with
     | false =>
      have HN:Hid (V=6):=by rw [Hid,HV.out,HBT.out];rfl
      go_wp2_with (go_at_call 96;refine (WI _).mono ?_;rintro e w' ⟨rfl,rfl⟩)
      go_ret
      exact ⟨by rw [HN.out];rfl,by rw [HBW.out];exact HB2.out⟩
     | true =>
      obtain ⟨wq,rfl⟩:∃ wq,wq=wr:=⟨wr,rfl⟩
      go_wp2_with (go_at_call 96;refine (WI _).mono ?_;rintro e w' ⟨rfl,rfl⟩)
      clear WI
      go_loopw [7] (fun u wx=>HiRel wq (l.map (·.2)) i k b2 u wx) (fun u _=>k - (intOf u).toNat)
      case atStart=>exact ⟨0,Nat.zero_le _,rfl,HBI.out,Below.refl _ _⟩
      case round =>
       clear HBI
       obtain ⟨m,hm,rfl,hgm,hb⟩:=hrel
       have HGM:=Lib.hid hgm
       have HBM:=Lib.hid hb
       have hrm:=hrj.below (hb.mono (by omega))
       replace d0:=zas hb d0
       replace d1:=zas hb d1
       replace e0:=zas hb e0
       replace e2:=zas hb e2
       have hsm:=hb.size
       clear hgm hb
       by_cases hmk:m<k
       · have hml:m<l.length:=by omega
         obtain ⟨ev,hev⟩:∃ ev,l[m]?=some ev:=⟨_,List.getElem?_eq_getElem hml⟩
         obtain ⟨b9,off9,hA9,hb9B,y0,y1⟩:=Rd.sw hrm hev
         cases hA9
         have HEV:Hid ((l.map (·.2))[m]?=some ev.2):=by rw [Hid,List.getElem?_map,hev];rfl
         obtain ⟨x,xr⟩:=ev
         simp only at y0 y1 HEV
         have hmn:m<nw:=by omega
         have x0:=fun y:Xt wr=>y.cell d1
         have x1:=fun y:Xt wr=>y.cell y1
         have x2:=fun y:Xt wr=>y.cell e2
         clear hev hml
         go_upto_region 14 with (fail)
         refine za8 (by kernel_rfl) (by kernel_rfl) ?_
         repeat (go_big_quiet_step (fail))
         refine wpQuiet_nil ?_
         intro w1 hx
         have HB1:=Lib.hid (HBM.out.trans ((Xt.below hx).mono hsm))
         clear hx x0 x1 x2 y0 y1 HBM d0 d1 e0 e2
         by_cases he:xr=i
         · have HBI:=Lib.hid (hi_yes hmk HEV.out (by simp [he]) HGM.out)
           have HN:Hid (V=26):=by rw [Hid,HV.out,HBT.out,HBI.out];rfl
           subst he
           go_wp2
           go_ret
           exact ⟨by rw [HN.out];rfl,by rw [HBW.out];exact HB2.out.trans (HB1.out.mono (by omega))⟩
         · have he1:(xr == i)=false:=by simp [he]
           have HN3:=Lib.hid (hi_no hmk HEV.out he1 HGM.out)
           clear he
           go_wp2
           go_roundw
           case rel=>exact ⟨m+1,by omega,by go_num,HN3.out,HB1.out⟩
           case measure=>simp [intOf];omega
       · have HBI:=Lib.hid (hi_end hmk HGM.out)
         have HN:Hid (V=0):=by rw [Hid,HV.out,HBT.out,HBI.out];rfl
         go_wp2
         go_ret
         exact ⟨by rw [HN.out];rfl,by rw [HBW.out];exact HB2.out.trans (HBM.out.mono (by omega))⟩
end Go.Proofs.YtfdmeojcopkaoaaGreatDoor
