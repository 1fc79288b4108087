import Derived.Test.YtoodbfkbbchjiaaGreatDoorf3A4
import Derived.Test.YtoodbfkbbchjiaaGreatDoorf3X4
import Derived.Test.YtoodbfkbbchjiaaGreatDoorf3F3
import Derived.Test.YtoodbfkbbchjiaaGreatDoorf3K4
import Derived.Test.YtoodbfkbbchjiaaGreatDoorf3M4
import Derived.Test.YtoodbfkbbchjiaaGreatDoorf3S3
import Derived.Test.YtoodbfkbbchjiaaGreatDoorf3S4
import Derived.Test.YtoodbfkbbchjiaaGreatDoorf3F2
set_option maxRecDepth 100000
set_option maxHeartbeats 16000000
namespace Go.Proofs.YtoodbfkbbchjiaaGreatDoor
open Go.RowKit
theorem cnName_any (s:ByteArray) (hs9:s.size≤1000000000) (w:World):Calls Tryz.prog 152 #[.string s] w fun e w'=>e=.returned (.bool (za3 s))∧Below w.heap.size w w':=by
 obtain ⟨tot,htot⟩:∃ t,zbm 0 s.data.toList=t:=⟨_,rfl⟩
 have HVF:Hid (tot=false→za3 s=false):=fun h=>by
  rw [za3,htot,h,Bool.and_false]
 have HV:Hid (za3 s=(decide (1≤s.size) && decide (s.size≤12) && tot)):=by rw [Hid,za3,htot]
 have HTT:=Lib.hid htot
 clear htot
 have kc:=Lib.run_convert_string_bytes (P:=Tryz.prog) w 9 149 5 s Tryz.underlying9 Tryz.underlying149 Tryz.underlying5
 go_enter Tryz.func152,Tryz.ntmps152
 go_wp2
 clear kc
 go_loop [3,4,5,9] (fun _ _ _ i=>∃ k:Nat,k≤s.size∧i=.int .i64 k∧zbm k (s.data.toList.drop k)=tot) (fun _ _ _ i=>s.size - (intOf i).toNat)
 case atStart=>exact ⟨0,Nat.zero_le _,rfl,by rw [List.drop_zero];exact HTT.out⟩
 case round =>
  obtain ⟨k,hk,rfl,he⟩:=hrel
  have HE:=Lib.hid he
  clear he
  by_cases hlt:k<s.size
  · have hkl:k<s.data.toList.length:=by simpa using hlt
    have HD:=Lib.hid (dropB hkl)
    have hcb:(s.data.toList.getD k 0).toNat≤255:=by have:=UInt8.toNat_lt (s.data.toList.getD k 0);omega
    have d0:=Lib.bytesWorld_cell w 5 s k hlt
    have HG:Hid ((okN k (s.data.toList.getD k 0).toNat && zbm (k+1) (s.data.toList.drop (k+1)))=tot):=by
     have:=HE.out
     rw [HD.out,zbm] at this
     exact this
    generalize (s.data.toList.getD k 0).toNat=c at *
    have hlti:(k:Int)<(s.size:Int):=by omega
    clear HE hkl
    have hcs:(c<45)∨(c=45)∨(45<c∧c<48)∨(48≤c∧c≤57)∨(57<c∧c<65)∨(65≤c∧c≤90)∨(90<c∧c<97)∨(97≤c∧c≤122)∨(122<c):=by omega
    rcases hcs with hcc | hcc | hcc | hcc | hcc | hcc | hcc | hcc | hcc <;> by_cases hk0:k=0
    all_goals
     first | have q0:(97:Int)≤(c:Int):=by omega | have q0:¬ (97:Int)≤(c:Int):=by omega
     first | have q1:(c:Int)≤122:=by omega | have q1:¬ (c:Int)≤122:=by omega
     first | have q2:(65:Int)≤(c:Int):=by omega | have q2:¬ (65:Int)≤(c:Int):=by omega
     first | have q3:(c:Int)≤90:=by omega | have q3:¬ (c:Int)≤90:=by omega
     first | have q5:(c:Int)<48:=by omega | have q5:¬ (c:Int)<48:=by omega
     first | have q6:(57:Int)<(c:Int):=by omega | have q6:¬ (57:Int)<(c:Int):=by omega
     first | (have q4:((c:Int) != 45)=false:=by rw [hcc];rfl) | have q4:((c:Int) != 45)=true:=by exact bne_iff_ne.2 (by omega)
     first | have e0:((k:Int) == 0)=false:=beq_eq_false_iff_ne.2 (by omega) | (have e0:((k:Int) == 0)=true:=by rw [hk0];rfl)
     by_cases hok:okN k c=true
     · have HN:Hid (zbm (k+1) (s.data.toList.drop (k+1))=tot):=by
        have:=HG.out
        rw [hok,Bool.true_and] at this
        exact this
       rw [okN] at hok
       simp at hok
       first
        | (exfalso;omega)
        | (clear hok hcc hk0
           go_wp2
           go_round
           case rel=>exact ⟨k+1,by omega,by go_num,HN.out⟩
           case measure=>simp [intOf];omega)
     · have HF:Hid (tot=false):=by
        have:=HG.out
        rw [Bool.eq_false_iff.2 hok,Bool.false_and] at this
        exact this.symm
       rw [okN] at hok
       simp at hok
       first
        | (exfalso;omega)
        | (clear hok hcc hk0
           go_wp2
           go_ret
           exact ⟨by rw [HVF.out HF.out];rfl,Lib.bytesWorld_below _ _ _⟩)
  · obtain rfl:k=s.size:=by omega
    have HT:Hid (tot=true):=by
     have:=HE.out
     rw [List.drop_eq_nil_iff.2 (by simp),zbm] at this
     exact this.symm
    clear HE
    by_cases h0:s.size=0
    · obtain rfl:s=⟨#[]⟩:=by
       cases s with
       | mk d =>
        have:d.size=0:=h0
        rw [Array.eq_empty_of_size_eq_zero this]
      go_wp2
      go_ret
      exact ⟨by rw [HV.out];rfl,Lib.bytesWorld_below _ _ _⟩
    · have hne0:¬ s.toList=[]:=fun h=>h0 (by
       rw [ByteArray.toList_eq] at h
       have:=congrArg List.length h
       simpa using this)
      have hne1:s.toList.isEmpty=false:=by
       rw [Bool.eq_false_iff]
       exact fun h=>hne0 (List.isEmpty_iff.1 h)
      by_cases h12:s.size≤12
      · have h12i:(s.size:Int)≤12:=by omega
        have HV2:Hid (za3 s=true):=by rw [Hid,HV.out,HT.out,decide_eq_true (show 1≤s.size by omega),decide_eq_true h12];rfl
        go_wp2
        go_ret
        exact ⟨by rw [HV2.out];rfl,Lib.bytesWorld_below _ _ _⟩
      · have h12i:¬ (s.size:Int)≤12:=by omega
        have HV2:Hid (za3 s=false):=by rw [Hid,HV.out,decide_eq_false h12,Bool.and_false,Bool.false_and]
        go_wp2
        go_ret
        exact ⟨by rw [HV2.out];rfl,Lib.bytesWorld_below _ _ _⟩
theorem zkx (s:ByteArray) (b:Bool) (hb:za3 s=b) (hs9:s.size≤1000000000) (w:World):Calls Tryz.prog 152 #[.string s] w fun e w'=>e=.returned (.bool b)∧Below w.heap.size w w':=by
 rw [← hb]
 exact cnName_any s hs9 w
def nkE (mE:Nat→Int) (pre:List ByteArray) (x:ByteArray):Int:=zam [zag (za3 x) 4,zag (!zcu pre x) 5,mE pre.length]
def CnR {α:Type} (w0:World) (f:List α→α→Int) (l:List α) (n:Nat) (V:Int × Int) (u:Value) (wr:World):Prop:=∃ k:Nat,k≤n∧u=.int .i64 k∧zfc f k (l.take k) (l.drop k)=V∧Below w0.heap.size w0 wr
theorem noMore_val (k:Int) (w:World):Calls Tryz.prog 83 #[.int .i64 k] w (zay w 0):=by
 go_enter Tryz.func83,Tryz.ntmps83
 go_wp2
 go_ret
 exact ⟨rfl,Below.refl _ _⟩
theorem zl5 (w:World) (B:Nat) (A:Option Addr) (n c:Nat) (l:List ByteArray) (mE:Nat→Int) (hl:l.length=n) (hr:Rd w B A (strCells l)) (hB:B≤w.heap.size) (hn:n≤1000) (hc:n≤c) (hz:∀ x∈l,x.size≤1000) (MORE:∀ (W:World),Below w.heap.size w W→∀ k:Nat,k<n→Calls Tryz.prog 83 #[.int .i64 k] W (zay W (mE k))) :
 Calls Tryz.prog 82 #[.slice A n c,.func (.func 83) #[] #[]] w fun e w'=>e=.returned (.tuple #[.int .i64 (zfc (nkE mE) 0 [] l).1,.int .i64 (zfc (nkE mE) 0 [] l).2])∧Below w.heap.size w w':=by
 have HL:=Lib.hid hl
 have HZ:=Lib.hid hz
 have HR:=Lib.hid hr
 obtain ⟨V,hV⟩:∃ V,zfc (nkE mE) 0 [] l=V:=⟨_,rfl⟩
 rw [hV]
 have HV:=Lib.hid hV
 clear hl hz hr hV
 go_enter Tryz.func82,Tryz.ntmps82
 go_wp2
 go_loopw [11] (fun u wr=>CnR w (nkE mE) l n V u wr) (fun u _=>n - (intOf u).toNat)
 case atStart=>exact ⟨0,Nat.zero_le _,rfl,HV.out,Below.refl _ _⟩
 case round =>
  clear HV
  obtain ⟨k,hk,rfl,hgo,hb⟩:=hrel
  have HGO:=Lib.hid hgo
  have HBK:=Lib.hid hb
  have hr:=HR.out.below (hb.mono hB)
  have hsk:=hb.size
  clear hgo
  by_cases hlt:k<n
  · have hkl:k<l.length:=by rw [HL.out];exact hlt
    obtain ⟨s,hev⟩:∃ ev,l[k]?=some ev:=⟨_,List.getElem?_eq_getElem hkl⟩
    obtain ⟨bb,off,rfl,hbB,z0⟩:=hr.at_ (k:=k) (u:=.string s) (by simp [strCells,hev])
    have HSV:=Lib.hid hev
    have hz9:=HZ.out s (List.mem_of_getElem? hev)
    have hrt:=zi3 hr k
    have HTL:Hid ((l.take k).length=k):=by rw [Hid,List.length_take];omega
    have hkc:k≤c:=by omega
    obtain ⟨bn,hbn⟩:∃ b,za3 s=b:=⟨_,rfl⟩
    obtain ⟨bt,hbt⟩:∃ b,zcu (l.take k) s=b:=⟨_,rfl⟩
    obtain ⟨em,hem⟩:∃ em,mE k=em:=⟨_,rfl⟩
    have NM:=fun W=>zkx s bn hbn (by omega) W
    have TX:=fun (y:Xt wr) (c:Nat)=>zda (some ⟨bb,off,none⟩) k c _ (l.take k) s bt hbt y.1 (by omega) HTL.out (hrt.below (y.2.mono (by omega)))
    have MR:=fun y:Xt wr=>MORE y.1 (hb.trans (y.2.mono hsk)) k hlt
    rw [hem] at MR
    obtain ⟨er,her⟩:∃ er,zam [zag bn 4,zag (!bt) 5,em]=er:=⟨_,rfl⟩
    have HER:Hid (nkE mE (l.take k) s=er):=by rw [Hid,nkE,hbn,hbt,HTL.out,hem,her]
    have HEF:=Lib.hid her
    clear hkl hbn hbt her hev hrt hem hb
    go_upto_region 4 with (fail)
    refine zax [] [0,1,2,3,4,5,6,7,8,9,10,11,12] 13 [14,15] (fun w'=>∃ y:Xt wr,w'=y.1) (by as_aux_lemma=>kernel_rfl) (by as_aux_lemma=>kernel_rfl) ⟨⟨wr.drew,(Below.refl _ _).drew⟩,rfl⟩ ?_
    simp only [zad,zac,zaa,zX1,zX2,zX3]
    refine wpQuiet_nil ?_
    show wpQuiet _ _ _ _ _ _
    repeat (go_big_quiet_step (first | (go_at_call 152;exact Xt.calls (NM _)) | (go_at_call 48;exact Xt.calls_same (zcq _ _ _)) | (go_at_call 150;exact Xt.calls_same (TX _ _)) | (go_at_call 83;exact Xt.calls (MR _))))
    refine wpQuiet_nil ?_
    intro wb hx
    have hb3:=Xt.below hx
    clear hx NM TX z0 MR
    go_upto_region 5 with (go_at_call 47;refine (zf2 _ _ _ _).mono ?_;rintro e w' ⟨he,rfl⟩;rw [HEF.out] at he;subst he)
    refine zab ?_
    have HB5:∀ o,Below wr.heap.size wr (wb.alloc o):=fun o=>hb3.alloc hb3.size o
    generalize hw5:wb.alloc _=w5
    have hb5:Below wr.heap.size wr w5:=by rw [← hw5];exact HB5 _
    have HB6:=Lib.hid (HBK.out.trans (hb5.mono hsk))
    clear HB5 hb5 hw5 hb3 HBK HEF
    by_cases h0:er=0
    · have h0':(er != 0)=false:=by simp [h0]
      have HN:=Lib.hid (zl7 HSV.out HGO.out (HER.out.trans h0))
      clear h0
      go_wp2
      go_roundw
      case rel=>exact ⟨k+1,by omega,by go_num,HN.out,HB6.out⟩
      case measure=>simp [intOf];omega
    · have h0':(er != 0)=true:=by simp [h0]
      have HN:Hid (V=((k:Int),er)):=by rw [Hid,← HER.out];exact (zgm HSV.out HGO.out (by rw [HER.out];exact h0)).symm
      clear h0
      go_wp2
      go_ret2
      exact ⟨by rw [HN.out];rfl,HB6.out⟩
  · have HN1:Hid (V=(0,0)):=ziq (by rw [HL.out];omega) HGO.out
    clear hb
    go_wp2
    go_ret2
    exact ⟨by rw [HN1.out];rfl,HBK.out⟩
theorem zj9 (w:World) (B:Nat) (A:Option Addr) (n c:Nat) (l:List ByteArray) (mE:Nat→Int) (pp:Value) (hl:l.length=n) (hr:Rd w B A (strCells l)) (hB:B≤w.heap.size) (hn:n≤1000) (hc:n≤c) (hz:∀ x∈l,x.size≤1000) (MORE:∀ (W:World),Below w.heap.size w W→∀ k:Nat,k<n→Calls Tryz.prog 84 #[.int .i64 k,pp] W (zay W (mE k))) :
 Calls Tryz.prog 82 #[.slice A n c,.func (.func 84) #[] #[pp]] w fun e w'=>e=.returned (.tuple #[.int .i64 (zfc (nkE mE) 0 [] l).1,.int .i64 (zfc (nkE mE) 0 [] l).2])∧Below w.heap.size w w':=by
 have HL:=Lib.hid hl
 have HZ:=Lib.hid hz
 have HR:=Lib.hid hr
 obtain ⟨V,hV⟩:∃ V,zfc (nkE mE) 0 [] l=V:=⟨_,rfl⟩
 rw [hV]
 have HV:=Lib.hid hV
 clear hl hz hr hV
 go_enter Tryz.func82,Tryz.ntmps82
 go_wp2
 go_loopw [11] (fun u wr=>CnR w (nkE mE) l n V u wr) (fun u _=>n - (intOf u).toNat)
 case atStart=>exact ⟨0,Nat.zero_le _,rfl,HV.out,Below.refl _ _⟩
 case round =>
  clear HV
  obtain ⟨k,hk,rfl,hgo,hb⟩:=hrel
  have HGO:=Lib.hid hgo
  have HBK:=Lib.hid hb
  have hr:=HR.out.below (hb.mono hB)
  have hsk:=hb.size
  clear hgo
  by_cases hlt:k<n
  · have hkl:k<l.length:=by rw [HL.out];exact hlt
    obtain ⟨s,hev⟩:∃ ev,l[k]?=some ev:=⟨_,List.getElem?_eq_getElem hkl⟩
    obtain ⟨bb,off,rfl,hbB,z0⟩:=hr.at_ (k:=k) (u:=.string s) (by simp [strCells,hev])
    have HSV:=Lib.hid hev
    have hz9:=HZ.out s (List.mem_of_getElem? hev)
    have hrt:=zi3 hr k
    have HTL:Hid ((l.take k).length=k):=by rw [Hid,List.length_take];omega
    have hkc:k≤c:=by omega
    obtain ⟨bn,hbn⟩:∃ b,za3 s=b:=⟨_,rfl⟩
    obtain ⟨bt,hbt⟩:∃ b,zcu (l.take k) s=b:=⟨_,rfl⟩
    obtain ⟨em,hem⟩:∃ em,mE k=em:=⟨_,rfl⟩
    have NM:=fun W=>zkx s bn hbn (by omega) W
    have TX:=fun (y:Xt wr) (c:Nat)=>zda (some ⟨bb,off,none⟩) k c _ (l.take k) s bt hbt y.1 (by omega) HTL.out (hrt.below (y.2.mono (by omega)))
    have MR:=fun y:Xt wr=>MORE y.1 (hb.trans (y.2.mono hsk)) k hlt
    rw [hem] at MR
    obtain ⟨er,her⟩:∃ er,zam [zag bn 4,zag (!bt) 5,em]=er:=⟨_,rfl⟩
    have HER:Hid (nkE mE (l.take k) s=er):=by rw [Hid,nkE,hbn,hbt,HTL.out,hem,her]
    have HEF:=Lib.hid her
    clear hkl hbn hbt her hev hrt hem hb
    go_upto_region 4 with (fail)
    refine zax [] [0,1,2,3,4,5,6,7,8,9,10,11,12] 13 [14,15] (fun w'=>∃ y:Xt wr,w'=y.1) (by as_aux_lemma=>kernel_rfl) (by as_aux_lemma=>kernel_rfl) ⟨⟨wr.drew,(Below.refl _ _).drew⟩,rfl⟩ ?_
    simp only [zad,zac,zaa,zX1,zX2,zX3]
    refine wpQuiet_nil ?_
    show wpQuiet _ _ _ _ _ _
    repeat (go_big_quiet_step (first | (go_at_call 152;exact Xt.calls (NM _)) | (go_at_call 48;exact Xt.calls_same (zcq _ _ _)) | (go_at_call 150;exact Xt.calls_same (TX _ _)) | (go_at_call 84;exact Xt.calls (MR _))))
    refine wpQuiet_nil ?_
    intro wb hx
    have hb3:=Xt.below hx
    clear hx NM TX z0 MR
    go_upto_region 5 with (go_at_call 47;refine (zf2 _ _ _ _).mono ?_;rintro e w' ⟨he,rfl⟩;rw [HEF.out] at he;subst he)
    refine zab ?_
    have HB5:∀ o,Below wr.heap.size wr (wb.alloc o):=fun o=>hb3.alloc hb3.size o
    generalize hw5:wb.alloc _=w5
    have hb5:Below wr.heap.size wr w5:=by rw [← hw5];exact HB5 _
    have HB6:=Lib.hid (HBK.out.trans (hb5.mono hsk))
    clear HB5 hb5 hw5 hb3 HBK HEF
    by_cases h0:er=0
    · have h0':(er != 0)=false:=by simp [h0]
      have HN:=Lib.hid (zl7 HSV.out HGO.out (HER.out.trans h0))
      clear h0
      go_wp2
      go_roundw
      case rel=>exact ⟨k+1,by omega,by go_num,HN.out,HB6.out⟩
      case measure=>simp [intOf];omega
    · have h0':(er != 0)=true:=by simp [h0]
      have HN:Hid (V=((k:Int),er)):=by rw [Hid,← HER.out];exact (zgm HSV.out HGO.out (by rw [HER.out];exact h0)).symm
      clear h0
      go_wp2
      go_ret2
      exact ⟨by rw [HN.out];rfl,HB6.out⟩
  · have HN1:Hid (V=(0,0)):=ziq (by rw [HL.out];omega) HGO.out
    clear hb
    go_wp2
    go_ret2
    exact ⟨by rw [HN1.out];rfl,HBK.out⟩
theorem role_val (w:World) (B x:Nat) (A:Option Addr) (n c:Nat) (l:List Sw) (hl:l.length=n) (hr:Rd w B A (zbl l)) (hp:w.cell? ⟨x,24,none⟩=some (.slice A n c)) (k:Nat) (y:Sw) (hk:l[k]?=some y) :
 Calls Tryz.prog 84 #[.int .i64 k,.pointer (some ⟨x,0,none⟩)] w (zay w (zag (zaj y.2 0 3) 15)):=by
 have hkl:k<l.length:=(List.getElem?_eq_some_iff.1 hk).1
 have hkn:k<n:=by rw [← hl];exact hkl
 obtain ⟨bb,off,rfl,hbB,z0,z1⟩:=Rd.sw hr hk
 obtain ⟨s,r⟩:=y
 simp only at z0 z1
 obtain ⟨b,hb⟩:∃ b,zaj r 0 3=b:=⟨_,rfl⟩
 have WI:=fun W=>cnWithin_val r 0 3 b hb W
 have HB:=Lib.hid hb
 clear hb hr hl hk hkl
 go_enter Tryz.func84,Tryz.ntmps84
 go_wp2_with (first | (go_at_call 85;refine (WI _).mono ?_;rintro e w' ⟨rfl,rfl⟩) | (go_at_call 48;refine (zcq _ _ _).mono ?_;rintro e w' ⟨rfl,rfl⟩))
 go_ret
 exact ⟨by rw [HB.out];rfl,Below.refl _ _⟩
theorem isChief_val (s:ByteArray) (r:Int) (w:World):Calls Tryz.prog 87 #[.agg #[.string s,.int .i64 r]] w fun e w'=>e=.returned (.bool (r == 3))∧Below w.heap.size w w':=by
 obtain ⟨c0,c1⟩:_∧_:=zaz (W:=w.alloc (.cells #[.string s,.int .i64 r] 53)) (by rw [zae,if_pos rfl])
 have hb0:=hB1 w (.cells #[.string s,.int .i64 r] 53)
 go_enter Tryz.func87,Tryz.ntmps87
 go_wp2
 go_ret
 exact ⟨rfl,hb0⟩
def PcRel (w0:World) (l:List Sw) (n:Nat) (V:Int) (u:Value) (wr:World):Prop:=∃ k:Nat,k≤n∧u=.int .i64 k∧za4 (fun x:Sw=>x.2 == 3) (l.drop k) k=V∧Below w0.heap.size w0 wr
theorem IndexCh_any (A:Option Addr) (n c B:Nat) (l:List Sw) (w:World) (hn:n≤1000000000) (hl:l.length=n) (h:Rd w B A (zbl l)) (hB:B≤w.heap.size) :
 Calls Tryz.prog 89 #[.slice A n c,.func (.func 87) #[] #[]] w (zay w (za4 (fun x:Sw=>x.2 == 3) l 0)):=by
 have HL:=Lib.hid hl;clear hl
 obtain ⟨V,hV⟩:∃ V,za4 (fun x:Sw=>x.2 == 3) l 0=V:=⟨_,rfl⟩
 rw [hV]
 have HV:=Lib.hid hV
 clear hV
 go_enter Tryz.func89,Tryz.ntmps89
 go_wp2
 go_loopw [5,8] (fun _ i wr=>PcRel w l n V i wr) (fun _ i _=>n - (intOf i).toNat)
 case atStart=>exact ⟨0,Nat.zero_le _,rfl,HV.out,Below.refl _ _⟩
 case round =>
  obtain ⟨k,hk,rfl,he,hb⟩:=hrel
  have HE:=Lib.hid he
  have HB:=Lib.hid hb
  have hr:=h.below (hb.mono hB)
  have hsk:=hb.size
  clear he hb
  by_cases hlt:k<n
  · have hkl:k<l.length:=by rw [HL.out];exact hlt
    obtain ⟨ev,hev⟩:∃ ev,l[k]?=some ev:=⟨_,List.getElem?_eq_getElem hkl⟩
    obtain ⟨bb,off,rfl,hbB,z0,z1⟩:=Rd.sw hr hev
    have HS:=Lib.hid (za9 hev)
    obtain ⟨nm,x⟩:=ev
    simp only at z0 z1
    have SS:=isChief_val nm x wr
    clear hkl hev
    by_cases hx:x=3
    · subst hx
      have HV9:Hid (V=k):=by rw [Hid,← HE.out,HS.out,za4];simp
      rw [show ((3:Int) == 3)=true from rfl] at SS
      go_wp2_with (go_at_call 87;refine SS.mono ?_;rintro e w9 ⟨rfl,hb9⟩)
      go_ret
      exact ⟨by rw [HV9.out];rfl,HB.out.trans (hb9.mono hsk)⟩
    · have hx1:(x == 3)=false:=by simp [hx]
      rw [hx1] at SS
      have HN:Hid (za4 (fun x:Sw=>x.2 == 3) (l.drop (k+1)) (k+1)=V):=by
       have h9:=HE.out
       rw [HS.out,za4] at h9
       simp only [hx1] at h9
       exact h9
      go_wp2_with (go_at_call 87;refine SS.mono ?_;rintro e w9 ⟨rfl,hb9⟩)
      go_roundw
      case rel=>exact ⟨k+1,by omega,by go_num,HN.out,HB.out.trans (hb9.mono hsk)⟩
      case measure=>simp [intOf];omega
  · have HV9:Hid (V=-1):=by
     have h9:=HE.out
     rw [List.drop_eq_nil_iff.2 (by rw [HL.out];omega),za4] at h9
     exact h9.symm
    go_wp2
    go_ret
    exact ⟨by rw [HV9.out];rfl,HB.out⟩
theorem zkc (A:Option Addr) (n c B:Nat) (l:List Sw) (b:Bool) (hb:(l.any fun p=>decide (p.2=3))=b) (w:World) (hn:n≤1000000000) (hl:l.length=n) (h:Rd w B A (zbl l)) (hB:B≤w.heap.size) :
 Calls Tryz.prog 86 #[.slice A n c,.func (.func 87) #[] #[]] w fun e w'=>e=.returned (.bool b)∧Below w.heap.size w w':=by
 have HV:Hid (decide (0≤za4 (fun x:Sw=>x.2 == 3) l 0)=b):=by
  rw [Hid,zcc,← hb]
  exact congrArg (fun f=>l.any f) (funext fun a=>by by_cases h:a.2=3 <;> simp [h])
 clear hb
 have IX:=IndexCh_any A n c B l w hn hl h hB
 unfold zay at IX
 generalize za4 (fun x:Sw=>x.2 == 3) l 0=ix at *
 go_enter Tryz.func86,Tryz.ntmps86
 go_wp2_with (go_at_call 89;refine IX.mono ?_;rintro e w9 ⟨rfl,hb9⟩)
 go_ret
 exact ⟨by rw [← HV.out];rfl,hb9⟩
theorem zjp (l0:List Sw) (mE:Nat→Int) (hm:∀ k y,l0[k]?=some y→mE k=zag (zaj y.2 0 3) 15):∀ (l pre:List Sw),pre++l=l0→zfc (nkE mE) pre.length (pre.map (·.1)) (l.map (·.1))=zfc zio pre.length pre l
 | [],_,_=>rfl
 | x :: l,pre,he=>by
  have hx:l0[pre.length]?=some x:=by rw [← he];simp
  have e:nkE mE (pre.map (·.1)) x.1=zio pre x:=by
   unfold nkE zio
   rw [List.length_map,hm _ _ hx]
  have ih:=zjp l0 mE hm l (pre++[x]) (by rw [← he];simp)
  rw [List.map_cons,zfc,zfc,e]
  simp only [List.length_append,List.length_cons,List.length_nil,List.map_append,List.map_cons,List.map_nil,Nat.zero_add] at ih
  rw [ih]
theorem zkz:∀ (l pre:List ByteArray) (k:Nat),zfc (nkE fun _=>0) k pre l=zfc nmE k pre l
 | [],_,_=>rfl
 | x :: l,pre,k=>by
  have e:nkE (fun _=>0) pre x=nmE pre x:=by
   unfold nkE nmE
   generalize zag (za3 x) 4=a
   generalize zag (!zcu pre x) 5=b
   by_cases h:a=0 <;> by_cases g:b=0 <;> simp [zam,h,g]
  rw [zfc,zfc,e,zkz l]
theorem info120s:(Tryz.prog.info? 120).map (fun i=>(i.zero,i.size,i.bytes))=some (some (.agg #[.int .i64 0,.int .i64 0,.int .i64 0,.bool false]),4,32):=by kernel_rfl
theorem info122s:(Tryz.prog.info? 122).map (fun i=>(i.zero,i.size,i.bytes))=some (some (.agg #[.int .i64 0,.int .i64 0,.int .i64 0,.int .i64 0,.int .i64 0,.int .i64 0]),6,48):=by kernel_rfl
theorem pcVals_one (x:Pc):∀ u∈zeo x,u.oneCell'=true:=by
 intro u hu
 simp [zeo] at hu
 rcases hu with rfl | rfl | rfl | rfl <;> rfl
theorem actVals_one (x:Act):∀ u∈zdd x,u.oneCell'=true:=by
 intro u hu
 simp [zdd] at hu
 rcases hu with rfl | rfl | rfl | rfl | rfl | rfl <;> rfl
def TrackPost (w:World) (nm:ByteArray) (n:Nat) (l:List Pc) (e:Ending) (w':World):Prop:=
 ∃ s:SlV,e=.returned (zea nm s.A s.n s.c)∧s.n=n∧w'.ownsRow w.heap.size 120 4 s.v s.n (zcj l)∧Below w.heap.size w w'
def TablePost (w:World) (n m:Nat) (evs:List ByteArray) (acts:List Act) (e:Ending) (w':World):Prop:=
 ∃ s d:SlV,e=.returned (netV s.A s.n s.c d.A d.n d.c)∧s.n=n∧d.n=m∧n≤s.c∧w'.ownsRow w.heap.size 9 1 s.v s.n (strCells evs)∧w'.ownsRow w.heap.size 122 6 d.v d.n (zb4 acts)∧Below w.heap.size w w'
theorem zld (w:World) (B:Nat) (nm:ByteArray) (s:SlV) (l:List Pc) (h:zcs w B s l.length (zcj l)) (hB:B≤w.heap.size) (hn:l.length≤1000) :
 Calls Tryz.prog 28 #[zea nm s.A s.n s.c] w (TrackPost w nm s.n l):=by
 obtain ⟨A,n,c⟩:=s
 obtain ⟨hl,hr⟩:=h
 simp only at hl hr hn
 rw [hl] at hn
 show Calls Tryz.prog 28 #[.agg #[.string nm,.slice A n c]] w _
 have k0:((w.alloc (.cells #[.string nm,.slice A n c] 37)).alloc (.cells #[.string ⟨#[]⟩,.slice none 0 0] 37)).heap[w.heap.size]?=some (.cells #[.string nm,.slice A n c] 37 (0,0)):=by
  rw [zae,if_neg (by simp),zae,if_pos rfl]
 have k1:((w.alloc (.cells #[.string nm,.slice A n c] 37)).alloc (.cells #[.string ⟨#[]⟩,.slice none 0 0] 37)).heap[w.heap.size+1]?=some (.cells #[.string ⟨#[]⟩,.slice none 0 0] 37 (0,0)):=by
  rw [zae,if_pos (by simp)]
 have hb0:=hB2 w (.cells #[.string nm,.slice A n c] 37) (.cells #[.string ⟨#[]⟩,.slice none 0 0] 37)
 have hs:=hS2 w (.cells #[.string nm,.slice A n c] 37) (.cells #[.string ⟨#[]⟩,.slice none 0 0] 37)
 have hr0:=hr.below (hb0.mono hB)
 have HL:=Lib.hid hl
 have HB:=Lib.hid hb0
 obtain ⟨i1,hi1,hy0,hy1,hy2⟩:=info_parts info120s
 clear hl hr hb0
 go_enter Tryz.func28,Tryz.ntmps28
 go_upto_region 1 with (fail)
 generalize ((w.alloc (.cells #[.string nm,.slice A n c] 37)).alloc (.cells #[.string ⟨#[]⟩,.slice none 0 0] 37))=w0 at *
 generalize hbw:w.heap.size=bw at *
 have HBW:=Lib.hid hbw
 clear hbw
 obtain ⟨d0,d1⟩:_∧_:=zaz k0
 have x0:=fun y:Xt w0=>y.cell d0
 have x1:=fun y:Xt w0=>y.cell d1
 refine zak [6,7] (fun w'=>∃ y:Xt w0,w'=y.1) (by kernel_rfl) ⟨⟨w0.drew,(Below.refl _ _).drew⟩,rfl⟩ ?_
 refine zdx [0,1,3,4] 4 rfl (by kernel_rfl) ?_
 simp only [zad,zac,zaa,zX1,zX2,zX3]
 repeat (go_big_quiet_step (fail))
 refine wpQuiet_nil ?_
 have hbd:Below w0.heap.size w0 w0.drew:=(Below.refl _ _).drew
 show wpE _ _ _ _ _ _ _ _ _ w0.drew
 generalize w0.drew=wd at *
 clear x0 x1
 refine zan (i:=2) rfl (by kernel_rfl) rfl ?_
 unfold zar
 simp only [zad,zac,zaa,zX1,zX2,zX3]
 go_wp2
 have hbn:=hB1 wd (.cells #[] 120)
 have hbx:=hbd.trans (hbn.mono hbd.size)
 have hgx:=hbd.size
 have h0:=hA1 wd (.cells #[] 120)
 refine zab ⟨⟨⟨_,hbx⟩,rfl⟩,?_⟩
 clear hbn
 generalize wd.alloc (.cells #[] 120)=w8 at *
 generalize wd.heap.size=g at *
 have hrd:=hr0.below (hbx.mono (by omega))
 refine zan (i:=5) rfl (by kernel_rfl) rfl ?_
 unfold zar
 simp only [zad,zac,zaa,zX1,zX2,zX3]
 refine za6 w8 rfl _ _ 35 rfl w0.heap.size 120 i1 _ 4 32 Tryz.underlying35 hi1 hy0 hy1 hy2 rfl (by omega) g rfl h0 hgx B A n c (zcj l) rfl (by rw [pcCells_len,HL.out]) hrd (zdr pcVals_one _) (by simp only [maxLen];omega) (by omega) hbx.size ?_
 intro g2 c2 w9 hown hgrow _
 have hb9:Below w0.heap.size w0 w9:=hbx.grown hgrow hbx.size (fun k hk=>by rw [← Option.some.inj hk];exact hgx)
 have j1:=(hb9.block (bw+1) (by omega)).trans k1
 go_wp2
 refine zab ⟨⟨⟨_,hb9⟩,rfl⟩,?_⟩
 refine zau rfl (by kernel_rfl) ?_
 simp only [zad,zac,zaa,zX1,zX2,zX3]
 have HO:=Lib.hid hown
 have HB9:=Lib.hid hb9
 clear hrd hbx h0 hgrow hown hb9 hbd d0 d1 k0 k1
 go_wp2_with (with_reducible refine zas 37 ?_)
 unfold Stp
 refine wpList_store_row rfl 37 _ _ rfl (bw+1) _ rfl rfl 37 _ j1 (by kernel_rfl) rfl (by kernel_rfl) ?_
 go_wp2
 refine zab ?_
 go_wp2
 refine bodyPost_ret (v:=.agg #[.string nm,.slice (some ⟨g2,0,none⟩) n c2]) (results_cell_row rfl _ _ (bw+1) 37 _ (0,0) _ rfl (setRow_heap w9 (bw+1) _ _ 37 (0,0) j1) Tryz.underlying37 rfl (by kernel_rfl)) rfl ⟨⟨some ⟨g2,0,none⟩,n,c2⟩,rfl,rfl,?_,?_⟩
 · rw [HBW.out]
   exact za0 (zaq HO.out _ (zbh HO.out (by omega))) (by omega)
 · rw [HBW.out]
   exact below_setRow (HB.out.trans (HB9.out.mono (by omega))) (by omega) _
def tabFr (bw:Nat) (A A2:Option Addr) (n c n2 c2:Nat) (e5 e6 e9:Value):Go.Act:=⟨#[.agg #[.slice A n c,.slice A2 n2 c2],.pointer (some ⟨bw,0,none⟩),.pointer (some ⟨(bw+1),0,none⟩),.pointer (some ⟨bw,0,none⟩),.slice A n c,e5,e6,.pointer (some ⟨bw,1,none⟩),.slice A2 n2 c2,e9,undef],[]⟩
def TabI (bw:Nat) (A A2:Option Addr) (n c n2 c2:Nat) (evs:List ByteArray) (acts:List Act) (w0:World) (L:Nat→Bool) (a:Go.Act) (w:World):Prop:=
 ∃ e5 e6 e9,a=tabFr bw A A2 n c n2 c2 e5 e6 e9∧Below w0.heap.size w0 w∧(L 2=true→OwAt w w0.heap.size 9 1 n (strCells evs) e5)∧(L 3=true→EmAt w w0.heap.size 122 (L 6) e6)∧(L 6=true→OwAt w w0.heap.size 122 6 n2 (zb4 acts) e9)
theorem zle (w:World) (B:Nat) (s d:SlV) (evs:List ByteArray) (acts:List Act) (h:zcs w B s evs.length (strCells evs)) (h2:zcs w B d acts.length (zb4 acts)) (hB:B≤w.heap.size) (hn:evs.length≤1000) (hn2:acts.length≤1000) :
 Calls Tryz.prog 29 #[netV s.A s.n s.c d.A d.n d.c] w (TablePost w s.n d.n evs acts):=by
 obtain ⟨A,n,c⟩:=s
 obtain ⟨A2,n2,c2⟩:=d
 obtain ⟨hl,hr⟩:=h
 obtain ⟨hl2,hr2⟩:=h2
 simp only at hl hr hl2 hr2
 rw [hl] at hn
 rw [hl2] at hn2
 show Calls Tryz.prog 29 #[.agg #[.slice A n c,.slice A2 n2 c2]] w _
 have k0:((w.alloc (.cells #[.slice A n c,.slice A2 n2 c2] 42)).alloc (.cells #[.slice none 0 0,.slice none 0 0] 42)).heap[w.heap.size]?=some (.cells #[.slice A n c,.slice A2 n2 c2] 42 (0,0)):=by
  rw [zae,if_neg (by simp),zae,if_pos rfl]
 have k1:((w.alloc (.cells #[.slice A n c,.slice A2 n2 c2] 42)).alloc (.cells #[.slice none 0 0,.slice none 0 0] 42)).heap[w.heap.size+1]?=some (.cells #[.slice none 0 0,.slice none 0 0] 42 (0,0)):=by
  rw [zae,if_pos (by simp)]
 have hb0:=hB2 w (.cells #[.slice A n c,.slice A2 n2 c2] 42) (.cells #[.slice none 0 0,.slice none 0 0] 42)
 have hs:=hS2 w (.cells #[.slice A n c,.slice A2 n2 c2] 42) (.cells #[.slice none 0 0,.slice none 0 0] 42)
 have hr0:=hr.below (hb0.mono hB)
 have hr20:=hr2.below (hb0.mono hB)
 have HL:=Lib.hid hl
 have HL2:=Lib.hid hl2
 have HB:=Lib.hid hb0
 clear hl hr hl2 hr2 hb0
 go_enter Tryz.func29,Tryz.ntmps29
 go_upto_region 1 with (fail)
 generalize ((w.alloc (.cells #[.slice A n c,.slice A2 n2 c2] 42)).alloc (.cells #[.slice none 0 0,.slice none 0 0] 42))=w0 at *
 generalize hbw:w.heap.size=bw at *
 have HBW:=Lib.hid hbw
 clear hbw
 obtain ⟨d0,d1⟩:_∧_:=zaz k0
 have x0:=fun y:Xt w0=>y.cell d0
 have x1:=fun y:Xt w0=>y.cell d1
 refine zak [7,8] (fun w'=>∃ y:Xt w0,w'=y.1) (by kernel_rfl) ⟨⟨w0.drew,(Below.refl _ _).drew⟩,rfl⟩ ?_
 refine zdx [0,1,4,5] 5 rfl (by kernel_rfl) ?_
 simp only [zad,zac,zaa,zX1,zX2,zX3]
 repeat (go_big_quiet_step (fail))
 refine wpQuiet_nil ?_
 have hbd:Below w0.heap.size w0 w0.drew:=(Below.refl _ _).drew
 show wpE _ _ _ _ _ _ _ _ _ w0.drew
 generalize w0.drew=wd at *
 clear x0 x1
 refine zdt (g:=2) [2,3,6] (TabI bw A A2 n c n2 c2 evs acts w0) rfl (by kernel_rfl) ?_ ?_ ?_
 · exact ⟨undef,undef,undef,rfl,hbd,fun h=>absurd (show false=true from h) (by decide),fun h=>absurd (show false=true from h) (by decide),fun h=>absurd (show false=true from h) (by decide)⟩
 · intro a w8 hS8 hI
   obtain ⟨e5,e6,e9,rfl,hb8,hF5,_,hF9⟩:=hI
   obtain ⟨A5,c5,rfl,hc5,hf5⟩:=hF5 (by kernel_rfl)
   obtain ⟨A9,c9,rfl,hc9,hf9⟩:=hF9 (by kernel_rfl)
   refine zau rfl (by kernel_rfl) ?_
   simp only [zad,zac,zaa,zX1,zX2,zX3]
   unfold tabFr
   have j1:=(hb8.block (bw+1) (by omega)).trans k1
   have HO5:=Lib.hid hf5
   have HO9:=Lib.hid hf9
   have HB9:=Lib.hid hb8
   clear hf5 hf9 hb8 hS8 hbd d0 d1 k0 k1
   go_wp2_with (with_reducible refine zas 42 ?_)
   unfold Stp
   refine wpList_store_row rfl 42 _ _ rfl (bw+1) _ rfl rfl 42 _ j1 (by kernel_rfl) rfl (by kernel_rfl) ?_
   go_wp2
   refine zab ?_
   go_wp2
   refine bodyPost_ret (v:=.agg #[.slice A5 n c5,.slice A9 n2 c9]) (results_cell_row rfl _ _ (bw+1) 42 _ (0,0) _ rfl (setRow_heap w8 (bw+1) _ _ 42 (0,0) j1) Tryz.underlying42 rfl (by kernel_rfl)) rfl ⟨⟨A5,n,c5⟩,⟨A9,n2,c9⟩,rfl,rfl,rfl,hc5,?_,?_,?_⟩
   · rw [HBW.out]
     exact za0 (zaq HO5.out _ (zbh HO5.out (by omega))) (by omega)
   · rw [HBW.out]
     exact za0 (zaq HO9.out _ (zbh HO9.out (by omega))) (by omega)
   · rw [HBW.out]
     exact below_setRow (HB.out.trans (HB9.out.mono (by omega))) (by omega) _
 · intro i hi L a w8 hL hd hS8 hI
   obtain ⟨e5,e6,e9,rfl,hb8,hF5,hE6,hF9⟩:=hI
   simp only [List.mem_cons,List.not_mem_nil,or_false] at hi
   rcases hi with rfl | rfl | rfl
   · unfold zar
     simp only [zad,zac,zaa,zX1,zX2,zX3]
     unfold tabFr
     have RT:=zds w8 B A n c evs HL.out (by omega) (hr0.below (hb8.mono (by omega))) (Nat.le_trans hB (Nat.le_trans (by omega) hb8.size))
     go_wp2_with (go_at_call 30;refine RT.mono ?_;rintro e w9 ⟨A5,c5,rfl,hc5,ho5,hb9⟩)
     have hbx:=hb8.trans (hb9.mono hb8.size)
     exact zab ⟨⟨⟨_,hbx⟩,rfl⟩,⟨_,e6,e9,rfl,hbx,fun _=>⟨A5,c5,rfl,hc5,za0 ho5 hb8.size⟩,fun h=>(hE6 h).keep hb9,fun h=>(hF9 h).keep hb9⟩⟩
   · unfold zar
     simp only [zad,zac,zaa,zX1,zX2,zX3]
     unfold tabFr
     go_wp2
     have hbn:=hB1 w8 (.cells #[] 122)
     have hbx:=hb8.trans (hbn.mono hb8.size)
     exact zab ⟨⟨⟨_,hbx⟩,rfl⟩,⟨e5,_,e9,rfl,hbx,fun h=>(hF5 h).keep hbn,fun _=>⟨w8.heap.size,rfl,hb8.size,fun _=>by rw [zae,if_pos rfl]⟩,fun h=>(hF9 h).keep hbn⟩⟩
   · obtain ⟨g,rfl,hg,h0⟩:=hE6 (hd 3 (by kernel_rfl))
     replace h0:=h0 hL
     obtain ⟨i1,hi1,hy0,hy1,hy2⟩:=info_parts info122s
     have hrd:=hr20.below (hb8.mono (by omega))
     unfold zar
     simp only [zad,zac,zaa,zX1,zX2,zX3]
     unfold tabFr
     refine za6 w8 rfl _ _ 40 rfl w0.heap.size 122 i1 _ 6 48 Tryz.underlying40 hi1 hy0 hy1 hy2 rfl (by omega) g rfl h0 hg B A2 n2 c2 (zb4 acts) rfl (by rw [zid,HL2.out]) hrd (zdr actVals_one _) (by simp only [maxLen];omega) (by omega) hb8.size ?_
     intro g2 c9 w9 hown hgrow _
     have hbx:Below w0.heap.size w0 w9:=hb8.grown hgrow hb8.size (fun k hk=>by rw [← Option.some.inj hk];exact hg)
     have hcp:=zbn hown
     go_wp2
     exact zab ⟨⟨⟨_,hbx⟩,rfl⟩,⟨e5,_,_,rfl,hbx,fun h=>(hF5 h).grown hgrow h0 (by decide),fun h=>(hE6 h).used,fun _=>⟨_,_,rfl,hcp,hown⟩⟩⟩
open Go Go.Instr
section
variable {P:Program}
theorem zhi (w:World) (g o:Nat) (t ty:TypeId) (cur cells new:Array Value) (hg:w.heap[g]?=some (.cells cur t (0,0))) (hi:(P.info? ty).map (·.size)=some cells.size) (hl:o+cells.size≤cur.size)
 (h1:cells.all (·.oneCell')=true) (hn:(cur.toList.take o++cells.toList++cur.toList.drop (o+cells.size)).toArray=new) :
 (storeVar ty ⟨g,o,none⟩ (.agg cells)).run P w=.ok () (w.setRow g new):=by
 have:=run_storeCells_at (P:=P) g o t cells.toList 0 cur w hg (by simpa using hl) (fun v hv=>(Array.all_eq_true_iff_forall_mem.1 h1) v (by simpa using hv))
 cases hq:P.info? ty with
 | none=>simp [hq] at hi
 | some i =>
  have hs:cells.size=i.size:=by simp [hq] at hi;omega
  simp only [Nat.add_zero,Array.length_toList] at this
  rw [hn] at this
  simp [storeVar,sizeOf,typeInfo,hq,Value.cells,hs,this]
theorem zbj {ops:Array Oper} {rest:List Oper} {op:Oper} {a:Go.Act} {w:World} {Q:Exit→Go.Act→World→Prop} (hgd:op.guard=none) (ty:TypeId) (x y:Operand) (ho:op.op=.store ty x y)
 (g o:Nat) (cells:Array Value) (hx:a.eval x=.pointer (some ⟨g,o,none⟩)) (hy:a.eval y=.agg cells) (t:TypeId) (cur new:Array Value)
 (hg:w.heap[g]?=some (.cells cur t (0,0))) (hi:(P.info? ty).map (·.size)=some cells.size) (hl:o+cells.size≤cur.size) (h1:cells.all (·.oneCell')=true) (hn:(cur.toList.take o++cells.toList++cur.toList.drop (o+cells.size)).toArray=new)
 (h:wpList P ops Q rest (a.put op.dst undef) (w.setRow g new)):wpList P ops Q (op :: rest) a w:=
 wpList_plain hgd fun _ hK=>by
  unfold Oper.wp execOp
  simp only [ho,hx,hy,Instr.storeAt,Instr.sureAddr,Sem.run_bind,Sem.run_pure,Result.andThen_ok,zhi w g o t ty cur cells new hg hi hl h1 hn]
  exact hK _ _ h
end
theorem info53s:(Tryz.prog.info? 53).map (fun i=>(i.zero,i.size,i.bytes))=some (some (.agg #[.string ⟨#[]⟩,.int .i64 0]),2,24):=by kernel_rfl
theorem HouseAt.belowC {w w':World} {B:Nat} {p:HouseV} (h:HouseAt w B p) (hb:Below B w w'):HouseAt w' B p:=
 ⟨h.plant.below hb,h.net.belowC hb,h.vanes.below hb,h.pcs.below hb,h.evs.below hb,h.acts.below hb,h.masts.below hb,h.people.below hb,h.cap⟩
structure HouseOw (w:World) (x:Nat) (q:HouseV):Prop where
 plant:PlantOw w x q.plant
 net:FeedOw w x q.net
 vanes:w.ownsRow x 3 1 q.vanes.vs.v q.vanes.vs.n (zai q.vanes.vanes)
 pcs:w.ownsRow x 120 4 q.ps.v q.ps.n (zcj q.pcs)
 evs:w.ownsRow x 9 1 q.es.v q.es.n (strCells q.evs)
 acts:w.ownsRow x 122 6 q.acs.v q.acs.n (zb4 q.acts)
 masts:w.ownsRow x 9 1 q.ms.v q.ms.n (strCells q.masts)
 people:w.ownsRow x 53 2 q.pp.v q.pp.n (zbl q.people)
 len:q.vanes.vanes.length=q.vanes.vs.n∧q.pcs.length=q.ps.n∧q.evs.length=q.es.n∧q.acts.length=q.acs.n∧q.masts.length=q.ms.n∧q.people.length=q.pp.n
theorem HouseOw.keep {w w':World} {x:Nat} {q:HouseV} (h:HouseOw w x q) (hb:Below w.heap.size w w'):HouseOw w' x q:=
 ⟨h.plant.keep hb,h.net.keep hb,zaf h.vanes hb,zaf h.pcs hb,zaf h.evs hb,zaf h.acts hb,zaf h.masts hb,zaf h.people hb,h.len⟩
theorem HouseOw.base {w:World} {x x':Nat} {q:HouseV} (h:HouseOw w x q) (hx:x'≤x):HouseOw w x' q:=
 ⟨h.plant.base hx,h.net.base hx,za0 h.vanes hx,za0 h.pcs hx,za0 h.evs hx,za0 h.acts hx,za0 h.masts hx,za0 h.people hx,h.len⟩
theorem HouseOw.setRow {w:World} {x g:Nat} {q:HouseV} (h:HouseOw w x q) (cs:Array Value) (hg:g<x):HouseOw (w.setRow g cs) x q:=
 ⟨h.plant.setRow cs hg,h.net.setRow cs hg,zaq h.vanes cs (zbh h.vanes hg),zaq h.pcs cs (zbh h.pcs hg),zaq h.evs cs (zbh h.evs hg),zaq h.acts cs (zbh h.acts hg),zaq h.masts cs (zbh h.masts hg),zaq h.people cs (zbh h.people hg),h.len⟩
theorem HouseOw.at {w:World} {x:Nat} {q:HouseV} (h:HouseOw w x q):HouseAt w w.heap.size q:=
 ⟨h.plant.at,h.net.at,⟨h.len.1,za7 h.vanes⟩,⟨h.len.2.1,za7 h.pcs⟩,⟨h.len.2.2.1,za7 h.evs⟩,⟨h.len.2.2.2.1,za7 h.acts⟩,⟨h.len.2.2.2.2.1,za7 h.masts⟩,⟨h.len.2.2.2.2.2,za7 h.people⟩,zbn h.evs,zbn h.masts,zbn h.people⟩
structure HouseV.like (h q:HouseV):Prop where
 secs:q.plant.secs=h.plant.secs
 trains:q.plant.trains=h.plant.trains
 sws:q.plant.sws=h.plant.sws
 rts:q.plant.rts.map RtV.key=h.plant.rts.map RtV.key
 sts:q.net.sts=h.net.sts
 fss:q.net.fss=h.net.fss
 tns:q.net.tns.map TnV.key=h.net.tns.map TnV.key
 vanes:{ q.vanes with vs:=h.vanes.vs }=h.vanes
 rest:q.tn=h.tn∧q.pcs=h.pcs∧q.sys=h.sys∧q.evs=h.evs∧q.acts=h.acts∧q.masts=h.masts∧q.people=h.people
def HousePost2 (w:World) (p:HouseV) (e:Ending) (w':World):Prop:=
 ∃ q:HouseV,p.like q∧e=.returned (.agg (zah q).toArray)∧HouseOw w' w.heap.size q∧Below w.heap.size w w'
end Go.Proofs.YtoodbfkbbchjiaaGreatDoor
namespace Go.Proofs.YtoodbfkbbchjiaaGreatDoor
open Go.RowKit
def winN (v:VanV):Int:=if v.round=true then v.vanes.length else (v.vanes.length:Int) - v.window+1
def winL (v:VanV) (i:Nat):List Int:=(List.range 12).map fun (k:Nat)=>if (k:Int)<v.window then v.vanes.getD ((i+k) % v.vanes.length) 0 else 0
def zdz (l:List Int):List Int:=(List.range 12).map fun k=>l.getD k 0
def difP (a b:Int):Bool:=(a != b) && (a != 2) && (b != 2)
def difK (a b:List Int) (n:Nat):Nat:=((List.range n).filter fun k=>difP (a.getD k 0) (b.getD k 0)).length
def difN (a b:List Int):Nat:=difK a b 12
theorem difK_succ (a b:List Int) (n:Nat):difK a b (n+1)=difK a b n+if difP (a.getD n 0) (b.getD n 0)=true then 1 else 0:=by
 unfold difK
 rw [List.range_succ,List.filter_append,List.length_append]
 congr 1
 cases h:difP (a.getD n 0) (b.getD n 0) <;> simp only [List.filter_cons,h] <;> rfl
def ziw (x:Int):Bool:=zf4 x || (x == 2)
theorem isSeen_val (x:Int) (b:Bool) (h:ziw x=b) (w:World):Calls Tryz.prog 361 #[.int .i64 x] w fun e w'=>e=.returned (.bool b)∧w=w':=by
 obtain ⟨c,hc⟩:∃ c,zf4 x=c:=⟨_,rfl⟩
 have I:=fun W=>isBit_val x c hc W
 have HB:Hid ((c || (x == 2))=b):=by rw [Hid,← h,← hc];rfl
 clear h hc
 cases c with
 | true =>
  go_enter Tryz.func361,Tryz.ntmps361
  go_wp2_with (go_at_call 141;refine (I _).mono ?_;rintro e w' ⟨rfl,rfl⟩)
  go_ret
  exact ⟨by rw [← HB.out];rfl,rfl⟩
 | false =>
  go_enter Tryz.func361,Tryz.ntmps361
  go_wp2_with (go_at_call 141;refine (I _).mono ?_;rintro e w' ⟨rfl,rfl⟩)
  go_ret
  exact ⟨by rw [← HB.out];rfl,rfl⟩
theorem zi6 (x:Int) (b:Bool) (h:ziw x=b) (w:World):Calls Tryz.prog 360 #[.int .i64 x] w fun e w'=>e=.returned (.bool (!b))∧w=w':=by
 have I:=fun W=>isSeen_val x b h W
 clear h
 go_enter Tryz.func360,Tryz.ntmps360
 go_wp2_with (go_at_call 361;refine (I _).mono ?_;rintro e w' ⟨rfl,rfl⟩)
 go_ret
 exact ⟨rfl,rfl⟩
theorem agg12_at (a0 a1 a2 a3 a4 a5 a6 a7 a8 a9 a10 a11:Int) (k:Nat) (h:k<12) (W:World):Sem.run Tryz.prog (Instr.index 468 (.agg #[.int .i64 a0,.int .i64 a1,.int .i64 a2,.int .i64 a3,.int .i64 a4,.int .i64 a5,.int .i64 a6,.int .i64 a7,.int .i64 a8,.int .i64 a9,.int .i64 a10,.int .i64 a11]) (.int .i64 (k:Int))) W=.ok (.int .i64 ([a0,a1,a2,a3,a4,a5,a6,a7,a8,a9,a10,a11].getD k 0)) W:=by
 have:k=0∨k=1∨k=2∨k=3∨k=4∨k=5∨k=6∨k=7∨k=8∨k=9∨k=10∨k=11:=by omega
 rcases this with rfl | rfl | rfl | rfl | rfl | rfl | rfl | rfl | rfl | rfl | rfl | rfl <;> (show _=_;kernel_rfl)
theorem cells12_at (b0 b1 b2 b3 b4 b5 b6 b7 b8 b9 b10 b11:Int) (k:Nat) (h:k<12):(#[.int .i64 b0,.int .i64 b1,.int .i64 b2,.int .i64 b3,.int .i64 b4,.int .i64 b5,.int .i64 b6,.int .i64 b7,.int .i64 b8,.int .i64 b9,.int .i64 b10,.int .i64 b11]:Array Value)[k]?=some (.int .i64 ([b0,b1,b2,b3,b4,b5,b6,b7,b8,b9,b10,b11].getD k 0)):=by
 have:k=0∨k=1∨k=2∨k=3∨k=4∨k=5∨k=6∨k=7∨k=8∨k=9∨k=10∨k=11:=by omega
 rcases this with rfl | rfl | rfl | rfl | rfl | rfl | rfl | rfl | rfl | rfl | rfl | rfl <;> rfl
def DifRel (w:World) (a b:List Int) (u5 u9:Value) (wr:World):Prop:=∃ k:Nat,k≤12∧u9=.int .i64 k∧u5=.int .i64 (difK a b k)∧wr=w
theorem difK_le (a b:List Int):∀ n:Nat,difK a b n≤n:=fun n=>by
 unfold difK
 exact Nat.le_trans (List.length_filter_le _ _) (by simp)
theorem list12 {l:List Int} (h:l.length=12):∃ a0 a1 a2 a3 a4 a5 a6 a7 a8 a9 a10 a11,l=[a0,a1,a2,a3,a4,a5,a6,a7,a8,a9,a10,a11]:=by
 match l,h with
 | [a0,a1,a2,a3,a4,a5,a6,a7,a8,a9,a10,a11],_=>exact ⟨a0,a1,a2,a3,a4,a5,a6,a7,a8,a9,a10,a11,rfl⟩
theorem differ_any (a b:List Int) (ha:a.length=12) (hb:b.length=12) (w:World):Calls Tryz.prog 365 #[.agg (zai a).toArray,.agg (zai b).toArray] w (zay w (difN a b)):=by
 obtain ⟨a0,a1,a2,a3,a4,a5,a6,a7,a8,a9,a10,a11,rfl⟩:=list12 ha
 obtain ⟨b0,b1,b2,b3,b4,b5,b6,b7,b8,b9,b10,b11,rfl⟩:=list12 hb
 show Calls Tryz.prog 365 #[.agg #[.int .i64 a0,.int .i64 a1,.int .i64 a2,.int .i64 a3,.int .i64 a4,.int .i64 a5,.int .i64 a6,.int .i64 a7,.int .i64 a8,.int .i64 a9,.int .i64 a10,.int .i64 a11],.agg #[.int .i64 b0,.int .i64 b1,.int .i64 b2,.int .i64 b3,.int .i64 b4,.int .i64 b5,.int .i64 b6,.int .i64 b7,.int .i64 b8,.int .i64 b9,.int .i64 b10,.int .i64 b11]] w _
 have k1:=hA2a w (.cells #[.int .i64 a0,.int .i64 a1,.int .i64 a2,.int .i64 a3,.int .i64 a4,.int .i64 a5,.int .i64 a6,.int .i64 a7,.int .i64 a8,.int .i64 a9,.int .i64 a10,.int .i64 a11] 468) (.cells #[.int .i64 b0,.int .i64 b1,.int .i64 b2,.int .i64 b3,.int .i64 b4,.int .i64 b5,.int .i64 b6,.int .i64 b7,.int .i64 b8,.int .i64 b9,.int .i64 b10,.int .i64 b11] 468)
 have k2:=hA2b w (.cells #[.int .i64 a0,.int .i64 a1,.int .i64 a2,.int .i64 a3,.int .i64 a4,.int .i64 a5,.int .i64 a6,.int .i64 a7,.int .i64 a8,.int .i64 a9,.int .i64 a10,.int .i64 a11] 468) (.cells #[.int .i64 b0,.int .i64 b1,.int .i64 b2,.int .i64 b3,.int .i64 b4,.int .i64 b5,.int .i64 b6,.int .i64 b7,.int .i64 b8,.int .i64 b9,.int .i64 b10,.int .i64 b11] 468)
 have hb0:=hB2 w (.cells #[.int .i64 a0,.int .i64 a1,.int .i64 a2,.int .i64 a3,.int .i64 a4,.int .i64 a5,.int .i64 a6,.int .i64 a7,.int .i64 a8,.int .i64 a9,.int .i64 a10,.int .i64 a11] 468) (.cells #[.int .i64 b0,.int .i64 b1,.int .i64 b2,.int .i64 b3,.int .i64 b4,.int .i64 b5,.int .i64 b6,.int .i64 b7,.int .i64 b8,.int .i64 b9,.int .i64 b10,.int .i64 b11] 468)
 have HB:=Lib.hid hb0
 have IA:=agg12_at a0 a1 a2 a3 a4 a5 a6 a7 a8 a9 a10 a11
 have CB:=cells12_at b0 b1 b2 b3 b4 b5 b6 b7 b8 b9 b10 b11
 obtain ⟨la,hla⟩:∃ la,[a0,a1,a2,a3,a4,a5,a6,a7,a8,a9,a10,a11]=la:=⟨_,rfl⟩
 obtain ⟨lb,hlb⟩:∃ lb,[b0,b1,b2,b3,b4,b5,b6,b7,b8,b9,b10,b11]=lb:=⟨_,rfl⟩
 rw [hla] at IA ⊢
 rw [hlb] at CB ⊢
 clear hb0 ha hb hla hlb
 go_enter Tryz.func365,Tryz.ntmps365
 go_upto_region 1 with (fail)
 generalize (w.alloc (.cells #[.int .i64 a0,.int .i64 a1,.int .i64 a2,.int .i64 a3,.int .i64 a4,.int .i64 a5,.int .i64 a6,.int .i64 a7,.int .i64 a8,.int .i64 a9,.int .i64 a10,.int .i64 a11] 468)).alloc (.cells #[.int .i64 b0,.int .i64 b1,.int .i64 b2,.int .i64 b3,.int .i64 b4,.int .i64 b5,.int .i64 b6,.int .i64 b7,.int .i64 b8,.int .i64 b9,.int .i64 b10,.int .i64 b11] 468)=w0 at *
 generalize hbw:w.heap.size=bw at *
 have HBW:=Lib.hid hbw
 clear hbw
 go_wp2_with (with_reducible refine zaw 468 ?_)
 unfold Stp
 refine wpList_load_row rfl 468 _ rfl bw rfl 468 _ (0,0) _ k1 Tryz.underlying468 rfl (by kernel_rfl) ?_
 clear k1
 generalize (#[.int .i64 a0,.int .i64 a1,.int .i64 a2,.int .i64 a3,.int .i64 a4,.int .i64 a5,.int .i64 a6,.int .i64 a7,.int .i64 a8,.int .i64 a9,.int .i64 a10,.int .i64 a11]:Array Value)=ca at *
 generalize (#[.int .i64 b0,.int .i64 b1,.int .i64 b2,.int .i64 b3,.int .i64 b4,.int .i64 b5,.int .i64 b6,.int .i64 b7,.int .i64 b8,.int .i64 b9,.int .i64 b10,.int .i64 b11]:Array Value)=cb at *
 go_wp2
 go_loopw [5,9] (fun u5 u9 wr=>DifRel w0 la lb u5 u9 wr) (fun _ u9 _=>12 - (intOf u9).toNat)
 case atStart=>exact ⟨0,by omega,rfl,rfl,rfl⟩
 case round =>
  obtain ⟨k,hk,rfl,rfl,hw⟩:=hrel
  replace hw:=hw.symm
  subst hw
  by_cases hlt:k<12
  · have i1:=IA k hlt
    have c1:=(cell_of_row w0 (bw+1) k _ _ _ k2).trans (CB k hlt)
    have HS:=Lib.hid (difK_succ la lb k)
    have hle:=difK_le la lb k
    generalize la.getD k 0=x at *
    generalize lb.getD k 0=y at *
    generalize difK la lb k=m at *
    clear IA CB k2
    by_cases e1:x=y
    · have q1:(x != y)=false:=by simp [e1]
      have HD:Hid (difP x y=false):=by rw [Hid,difP,q1];rfl
      clear e1
      go_wp2
      go_roundw
      case rel=>exact ⟨k+1,hlt,by go_num,by rw [HS.out,HD.out];rfl,rfl⟩
      case measure=>simp [intOf];omega
    · have q1:(x != y)=true:=by simp [e1]
      clear e1
      by_cases e2:x=2
      · have q2:(x != 2)=false:=by simp [e2]
        have HD:Hid (difP x y=false):=by rw [Hid,difP,q1,q2];rfl
        clear e2
        go_wp2
        go_roundw
        case rel=>exact ⟨k+1,hlt,by go_num,by rw [HS.out,HD.out];rfl,rfl⟩
        case measure=>simp [intOf];omega
      · have q2:(x != 2)=true:=by simp [e2]
        clear e2
        by_cases e3:y=2
        · have q3:(y != 2)=false:=by simp [e3]
          have HD:Hid (difP x y=false):=by rw [Hid,difP,q1,q2,q3];rfl
          clear e3
          go_wp2
          go_roundw
          case rel=>exact ⟨k+1,hlt,by go_num,by rw [HS.out,HD.out];rfl,rfl⟩
          case measure=>simp [intOf];omega
        · have q3:(y != 2)=true:=by simp [e3]
          have HD:Hid (difP x y=true):=by rw [Hid,difP,q1,q2,q3];rfl
          clear e3
          go_wp2
          go_roundw
          case rel=>exact ⟨k+1,hlt,by go_num,by rw [HS.out,HD.out];go_num,rfl⟩
          case measure=>simp [intOf];omega
  · obtain rfl:k=12:=by omega
    clear IA CB k2
    go_wp2
    go_ret
    exact ⟨rfl,by rw [HBW.out];exact HB.out⟩
end Go.Proofs.YtoodbfkbbchjiaaGreatDoor
