import Derived.Test.YtoodbfkbbchjiaaGreatDoorf3Q1
import Derived.Test.YtoodbfkbbchjiaaGreatDoorf3X9
import Derived.WalkSmall
import Derived.Lib.OthersKept
import Derived.Test.YtoodbfkbbchjiaaGreatDoorf3Y1
import Derived.Test.YtoodbfkbbchjiaaGreatDoorf3F3
set_option maxRecDepth 100000
set_option maxHeartbeats 16000000
namespace Go.Proofs.YtoodbfkbbchjiaaGreatDoor
open Go.RowKit
def vanCh (b:UInt8):Int:=if b.toNat=48 then 0 else if b.toNat=49 then 1 else 2
def vanB (b:UInt8):Bool:=(b.toNat == 48) || (b.toNat == 49) || (b.toNat == 63)
def zj1 (s:ByteArray):List Int:=s.data.toList.map vanCh
def RvRel (w:World) (s:ByteArray) (n:Nat) (u6:Value) (wr:World):Prop:=
 ∃ k:Nat,k≤n∧wr.heap[w.heap.size]?=some (.stringIter s k)∧wr.ownsRow (w.heap.size+1) 3 1 u6 k (zai ((zj1 s).take k))∧Below w.heap.size w wr∧w.heap.size+1≤wr.heap.size
def zhb (b n:Nat) (wr:World):Nat:=n - wr.iterPos b
def RvPost (w:World) (l:List Int) (e:Ending) (w':World):Prop:=
 ∃ A c,e=.returned (.tuple #[.slice A l.length c,.bool true])∧w'.ownsRow w.heap.size 3 1 (.slice A l.length c) l.length (zai l)∧Below w.heap.size w w'
theorem readVanes_ok (s:ByteArray) (h0:0<s.size) (h1:s.size≤1000) (hv:s.data.toList.all vanB=true) (w:World):Calls Tryz.prog 255 #[.string s,.bool true] w (RvPost w (zj1 s)):=by
 have hlen:(zj1 s).length=s.size:=by simp [zj1]
 have HV:=Lib.hid hv
 obtain ⟨n,hn⟩:∃ n,s.size=n:=⟨_,rfl⟩
 rw [hn] at h0 h1
 have HN:=Lib.hid hn
 have HL:=Lib.hid hlen
 have hne:s.toList.isEmpty=false:=by
  rw [Lib.toList_data]
  cases h9:s.data.toList with
  | nil =>
   have h8:s.size=s.data.toList.length:=Lib.size_eq s
   rw [h9,HN.out] at h8
   simp at h8
   omega
  | cons=>rfl
 have HNE:=Lib.hid hne
 clear hlen hv hn hne
 go_enter Tryz.func255,Tryz.ntmps255
 go_wp2
 go_loopw [6] (fun u6 wr=>RvRel w s n u6 wr) (fun _ wr=>zhb w.heap.size n wr)
 case atStart=>exact ⟨0,Nat.zero_le _,World.iter_heap w s 0,⟨rfl,.inl ⟨rfl,rfl⟩⟩,(Below.refl _ _).alloc (Nat.le_refl _) _,by simp [World.iter]⟩
 case round =>
  obtain ⟨k,hk,hit,hown,hb,hsz⟩:=hrel
  obtain ⟨Au,cu,rfl⟩:=zcn hown
  generalize hbw:w.heap.size=bw at *
  have HBW:=Lib.hid hbw
  clear hbw
  by_cases hlt:k<n
  · have hks:k<s.size:=by rw [HN.out];exact hlt
    have hbv:vanB (s[k]'hks)=true:=by
     have h9:=HV.out
     rw [List.all_eq_true] at h9
     exact h9 _ (by
      rw [ByteArray.getElem_eq_getElem_data]
      simp)
    have hvs:(zj1 s)[k]?=some (vanCh (s[k]'hks)):=by
     rw [zj1,List.getElem?_map,Array.getElem?_toList,Array.getElem?_eq_getElem (by simpa using hks)]
     rfl
    have ha:(s[k]'hks).toNat<128:=by
     simp only [vanB,Bool.or_eq_true,beq_iff_eq] at hbv
     omega
    have hnx0:=fun ty=>Lib.run_next_ascii_at (P:=Tryz.prog) wr bw s k ty hit hks ha
    have HT:=Lib.hid (zg4 hvs)
    have hit1:=Lib.iterAt_heap wr bw s k (k+1) hit
    have hown1:=ownsRow_iterAt hown (show bw<bw+1 by omega) s (k+1)
    have hb1:=Lib.below_iterAt hb (Nat.le_refl bw) s (k+1)
    have hsz1:bw+1≤(wr.iterAt bw s (k+1)).heap.size:=by rw [Lib.iterAt_size];exact hsz
    have HM:Hid (zhb bw n wr=n - k):=by rw [Hid,zhb,World.iterPos,hit]
    have hc:(s[k]'hks).toNat=48∧vanCh (s[k]'hks)=0∨(s[k]'hks).toNat=49∧vanCh (s[k]'hks)=1∨(s[k]'hks).toNat=63∧vanCh (s[k]'hks)=2:=by
     simp only [vanB,Bool.or_eq_true,beq_iff_eq] at hbv
     rcases hbv with (h9 | h9) | h9 <;> simp [vanCh,h9]
    obtain ⟨i1,hi1,hy0,hy1,hy2⟩:=info_parts zh8
    clear hbv hvs ha hit hown hb hsz
    generalize (s[k]'hks).toNat=c at *
    generalize vanCh (s[k]'hks)=x at *
    rcases hc with ⟨rfl,rfl⟩ | ⟨rfl,rfl⟩ | ⟨rfl,rfl⟩
    · go_upto_region 4 with (fail)
      generalize wr.iterAt bw s (k+1)=w1 at *
      clear hnx0
      go_wp2_with (at_builtin;refine stp ?_)
      unfold Stp
      refine wpList_append_lies _ rfl _ _ 32 rfl (bw+1) 3 i1 _ 1 8 Tryz.underlying32 hi1 hy0 hy1 hy2 rfl (by omega) (.slice Au k cu) k _ rfl (hown1.alloc _) ⟨w1.heap.size,0,none⟩ 1 1 [.int .i64 0] rfl rfl (zez (by simp)) (by simp [Value.oneCell']) (by omega) (by simp only [maxLen];omega) (by omega) (by simp;omega) _ rfl ?_
      intro gg cap w6 hown6 hgrow6 hat6 hlt6
      have HB7:=Lib.hid ((hb1.alloc (Nat.le_of_succ_le hsz1) _).grown hgrow6 (by simp;omega) (fun j hj=>Nat.le_of_succ_le (zbi hown1 hj).1))
      have hlb:bw<w1.heap.size:=lt_of_block hit1
      have hi6:w6.heap[bw]?=some (.stringIter s (k+1)):=(hgrow6.block bw (by simp;omega) (fun he=>by have:=(zbi hown1 he.symm).1;omega)).trans ((by rw [zae,if_neg (by omega)]:_=w1.heap[bw]?).trans hit1)
      have HI6:=Lib.hid hi6
      have hs6:bw+1≤w6.heap.size:=lt_of_block hi6
      have HO6:Hid (w6.ownsRow (bw+1) 3 1 (.slice (some ⟨gg,0,none⟩) (k+1) cap) (k+1) (zai ((zj1 s).take (k+1)))):=by
       rw [Hid,HT.out]
       exact hown6
      have HM6:Hid (zhb bw n w6=n - (k+1)):=by rw [Hid,zhb,World.iterPos,hi6]
      clear hown6 hgrow6 hat6 hlt6 hown1 hb1 hit1 hi6 hi1 hy0 hy1 hy2 hlb
      go_wp2
      go_roundw
      case rel=>exact ⟨k+1,hlt,by rw [HBW.out];exact HI6.out,by rw [HBW.out];exact HO6.out,by rw [HBW.out];exact HB7.out,by rw [HBW.out];exact hs6⟩
      case measure=>rw [HM.out,HM6.out];omega
    · go_upto_region 4 with (fail)
      generalize wr.iterAt bw s (k+1)=w1 at *
      clear hnx0
      go_wp2_with (at_builtin;refine stp ?_)
      unfold Stp
      refine wpList_append_lies _ rfl _ _ 32 rfl (bw+1) 3 i1 _ 1 8 Tryz.underlying32 hi1 hy0 hy1 hy2 rfl (by omega) (.slice Au k cu) k _ rfl (hown1.alloc _) ⟨w1.heap.size,0,none⟩ 1 1 [.int .i64 1] rfl rfl (zez (by simp)) (by simp [Value.oneCell']) (by omega) (by simp only [maxLen];omega) (by omega) (by simp;omega) _ rfl ?_
      intro gg cap w6 hown6 hgrow6 hat6 hlt6
      have HB7:=Lib.hid ((hb1.alloc (Nat.le_of_succ_le hsz1) _).grown hgrow6 (by simp;omega) (fun j hj=>Nat.le_of_succ_le (zbi hown1 hj).1))
      have hlb:bw<w1.heap.size:=lt_of_block hit1
      have hi6:w6.heap[bw]?=some (.stringIter s (k+1)):=(hgrow6.block bw (by simp;omega) (fun he=>by have:=(zbi hown1 he.symm).1;omega)).trans ((by rw [zae,if_neg (by omega)]:_=w1.heap[bw]?).trans hit1)
      have HI6:=Lib.hid hi6
      have hs6:bw+1≤w6.heap.size:=lt_of_block hi6
      have HO6:Hid (w6.ownsRow (bw+1) 3 1 (.slice (some ⟨gg,0,none⟩) (k+1) cap) (k+1) (zai ((zj1 s).take (k+1)))):=by
       rw [Hid,HT.out]
       exact hown6
      have HM6:Hid (zhb bw n w6=n - (k+1)):=by rw [Hid,zhb,World.iterPos,hi6]
      clear hown6 hgrow6 hat6 hlt6 hown1 hb1 hit1 hi6 hi1 hy0 hy1 hy2 hlb
      go_wp2
      go_roundw
      case rel=>exact ⟨k+1,hlt,by rw [HBW.out];exact HI6.out,by rw [HBW.out];exact HO6.out,by rw [HBW.out];exact HB7.out,by rw [HBW.out];exact hs6⟩
      case measure=>rw [HM.out,HM6.out];omega
    · go_upto_region 4 with (fail)
      generalize wr.iterAt bw s (k+1)=w1 at *
      clear hnx0
      go_wp2_with (at_builtin;refine stp ?_)
      unfold Stp
      refine wpList_append_lies _ rfl _ _ 32 rfl (bw+1) 3 i1 _ 1 8 Tryz.underlying32 hi1 hy0 hy1 hy2 rfl (by omega) (.slice Au k cu) k _ rfl (hown1.alloc _) ⟨w1.heap.size,0,none⟩ 1 1 [.int .i64 2] rfl rfl (zez (by simp)) (by simp [Value.oneCell']) (by omega) (by simp only [maxLen];omega) (by omega) (by simp;omega) _ rfl ?_
      intro gg cap w6 hown6 hgrow6 hat6 hlt6
      have HB7:=Lib.hid ((hb1.alloc (Nat.le_of_succ_le hsz1) _).grown hgrow6 (by simp;omega) (fun j hj=>Nat.le_of_succ_le (zbi hown1 hj).1))
      have hlb:bw<w1.heap.size:=lt_of_block hit1
      have hi6:w6.heap[bw]?=some (.stringIter s (k+1)):=(hgrow6.block bw (by simp;omega) (fun he=>by have:=(zbi hown1 he.symm).1;omega)).trans ((by rw [zae,if_neg (by omega)]:_=w1.heap[bw]?).trans hit1)
      have HI6:=Lib.hid hi6
      have hs6:bw+1≤w6.heap.size:=lt_of_block hi6
      have HO6:Hid (w6.ownsRow (bw+1) 3 1 (.slice (some ⟨gg,0,none⟩) (k+1) cap) (k+1) (zai ((zj1 s).take (k+1)))):=by
       rw [Hid,HT.out]
       exact hown6
      have HM6:Hid (zhb bw n w6=n - (k+1)):=by rw [Hid,zhb,World.iterPos,hi6]
      clear hown6 hgrow6 hat6 hlt6 hown1 hb1 hit1 hi6 hi1 hy0 hy1 hy2 hlb
      go_wp2
      go_roundw
      case rel=>exact ⟨k+1,hlt,by rw [HBW.out];exact HI6.out,by rw [HBW.out];exact HO6.out,by rw [HBW.out];exact HB7.out,by rw [HBW.out];exact hs6⟩
      case measure=>rw [HM.out,HM6.out];omega
  · obtain rfl:k=n:=by omega
    have hnx0:=fun ty=>Lib.run_next_end_at (P:=Tryz.prog) wr bw s k ty hit (by rw [HN.out];omega)
    have e:(zj1 s).take k=zj1 s:=List.take_of_length_le (by rw [HL.out,HN.out];exact Nat.le_refl _)
    rw [e] at hown
    have HO:=Lib.hid hown
    have HB:=Lib.hid hb
    have hne:=HNE.out
    clear hown hit hb
    go_wp2
    go_ret2
    refine ⟨Au,cu,?_,?_,by rw [HBW.out];exact HB.out⟩
    · rw [HL.out,HN.out]
      rfl
    · rw [HL.out,HN.out,HBW.out]
      exact za0 HO.out (Nat.le_succ _)
theorem zjv (s a b:ByteArray) (t:Bool) (cnt:Int) (hs:s.size≤1000) (hc:Lib.cut s.data.toList (⟨#[32]⟩:ByteArray).data.toList=(a.data.toList,b.data.toList,t)) (ha0:0<a.size) (ha1:a.size≤1000) (hv:a.data.toList.all vanB=true) (hb:b.size≤1000) (hn:numL b.data.toList 4=some cnt) (h0:0≤cnt) (w:World) (ht:TxtAt w) :
 Calls Tryz.prog 204 #[.string s] w fun e w'=>∃ A c,e=.returned (.tuple #[.agg #[.slice A (zj1 a).length c,.int .i64 cnt],.int .i64 0])∧Rd w' w'.heap.size A (zai (zj1 a))∧Below w.heap.size w w':=by
 have hb0:=hB1 w (.cells #[.slice none 0 0,.int .i64 0] 283)
 have k0:=hA1 w (.cells #[.slice none 0 0,.int .i64 0] 283)
 have hs0:=hS1 w (.cells #[.slice none 0 0,.int .i64 0] 283)
 have HB:=Lib.hid hb0
 have HT:=Lib.hid (ht.below hb0)
 have CT:=Cut_any s ⟨#[32]⟩ (by omega) (w.alloc (.cells #[.slice none 0 0,.int .i64 0] 283)) HT.out
 rw [hc] at CT
 simp only [ba_of] at CT
 have RV:=fun W=>readVanes_ok a ha0 ha1 hv W
 have NB:=fun W hW=>number253_ok b 4 (by omega) (by omega) cnt hn h0 W hW
 clear hb0 ht hc ha0 ha1 hv hn h0 hs hb
 go_enter Tryz.func204,Tryz.ntmps204
 go_upto_region 1 with (fail)
 generalize w.alloc (.cells #[.slice none 0 0,.int .i64 0] 283)=w0 at *
 generalize hbw:w.heap.size=bw at *
 have HBW:=Lib.hid hbw
 clear hbw
 go_upto_region 2 with (go_at_call 254;refine CT.mono ?_;rintro e w1 ⟨rfl,hb1⟩)
 clear CT
 have RV1:=RV w1
 clear RV
 go_upto_region 3 with (go_at_call 255;refine RV1.mono ?_;rintro e w2 ⟨A,c,rfl,ho2,hb2⟩)
 have hb12:=hb1.trans (hb2.mono hb1.size)
 have NB2:=NB w2 (HT.out.below hb12)
 clear RV1 NB
 go_wp2_with (first | (go_at_call 256;refine NB2.mono ?_;rintro e w3 ⟨rfl,hb3⟩) | (with_reducible refine zas 283 ?_))
 have hb13:=hb12.trans (hb3.mono hb12.size)
 have k9:=blk hb13 k0
 have HO:=Lib.hid (za7 (zaf ho2 hb3))
 have ho3:=zaf ho2 hb3
 clear NB2 ho2
 generalize hnn:(zj1 a).length=n at *
 have HNN:=Lib.hid hnn
 clear hnn
 unfold Stp
 refine wpList_store_row rfl 283 _ _ rfl bw #[.slice A n c,.int .i64 cnt] rfl rfl 283 _ k9 (by kernel_rfl) rfl (by kernel_rfl) ?_
 have kr:=setRow_heap w3 bw _ #[.slice A n c,.int .i64 cnt] 283 (0,0) k9
 have hbr:Below bw w (w3.setRow bw #[.slice A n c,.int .i64 cnt]):=below_setRow (HB.out.trans (hb13.mono (by omega))) (Nat.le_refl _) _
 have HO9:=Lib.hid (za7 (zaq ho3 #[.slice A n c,.int .i64 cnt] (zbh ho3 (show bw<w1.heap.size by have:=hb1.size;omega))))
 clear ho3
 generalize w3.setRow bw #[.slice A n c,.int .i64 cnt]=w4 at *
 go_wp2
 obtain ⟨c0,c1⟩:_∧_:=zaz kr
 refine bodyPost_ret (v:=.tuple #[.agg #[.slice A n c,.int .i64 cnt],.int .i64 0]) (by simp [results,Tryz.results204,go_sem,c0,c1]) rfl ⟨A,c,by rw [HNN.out],HO9.out,by rw [HBW.out];exact hbr⟩
theorem refMasts_any (w:World) (B:Nat) (A:Option Addr) (n c:Nat) (l:List ByteArray) (hl:l.length=n) (hr:Rd w B A (strCells l)) (hB:B≤w.heap.size) (hn:n≤1000) (hc:n≤c) (hz:∀ s∈l,s.size≤1000) :
 Calls Tryz.prog 44 #[.slice A n c] w fun e w'=>e=.returned (.tuple #[.int .i64 (zdh 6 nmE l).1,.int .i64 (zdh 6 nmE l).2])∧Below w.heap.size w w':=by
 have HL:=Lib.hid hl
 have HZ:=Lib.hid hz
 have HR:=Lib.hid hr
 obtain ⟨V,hV⟩:∃ V,zdh 6 nmE l=V:=⟨_,rfl⟩
 obtain ⟨C,hC⟩:∃ V,zfc nmE 0 [] l=V:=⟨_,rfl⟩
 rw [hV]
 have HV:Hid (V=if n=0 then (0,10) else if 6<n then (0,8) else C):=by rw [Hid,← hV,zdh,hl,hC]
 have HC:=Lib.hid hC
 clear hl hz hr hV hC
 go_enter Tryz.func44,Tryz.ntmps44
 by_cases h0:n=0
 · have HN:Hid (V=(0,10)):=by rw [Hid,HV.out,if_pos h0]
   subst h0
   go_wp2
   go_ret2
   exact ⟨by rw [HN.out];rfl,Below.refl _ _⟩
 have g0:((n:Int) == 0)=false:=beq_eq_false_iff_ne.2 (by omega)
 by_cases h6:(6:Int)<(n:Int)
 · have HN:Hid (V=(0,8)):=by rw [Hid,HV.out,if_neg h0,if_pos (by omega)]
   go_wp2
   go_ret2
   exact ⟨by rw [HN.out];rfl,Below.refl _ _⟩
 have HN:Hid (V=C):=by rw [Hid,HV.out,if_neg h0,if_neg (by omega)]
 clear HV h0
 go_wp2
 go_loopw [4] (fun u wr=>CnR w nmE l n C u wr) (fun u _=>n - (intOf u).toNat)
 case atStart=>exact ⟨0,Nat.zero_le _,rfl,HC.out,Below.refl _ _⟩
 case round =>
  clear HC
  obtain ⟨k,hk,rfl,hgo,hb⟩:=hrel
  have HGO:=Lib.hid hgo
  have HBK:=Lib.hid hb
  have hr:=HR.out.below (hb.mono hB)
  have hsk:=hb.size
  clear hgo hb
  by_cases hlt:k<n
  · have hkl:k<l.length:=by rw [HL.out];exact hlt
    obtain ⟨s,hev⟩:∃ ev,l[k]?=some ev:=⟨_,List.getElem?_eq_getElem hkl⟩
    obtain ⟨bb,off,rfl,hbB,z0⟩:=hr.at_ (k:=k) (u:=.string s) (by simp [strCells,hev])
    have HSV:=Lib.hid hev
    have hz9:=HZ.out s (List.mem_of_getElem? hev)
    have hrt:=zi3 hr k
    have HTL:Hid ((l.take k).length=k):=by rw [Hid,List.length_take];omega
    have hkc:k≤c:=by omega
    obtain ⟨bn,hbn⟩:∃ b,za3 s=b:=⟨_,rfl⟩
    obtain ⟨bt,hbt⟩:∃ b,zcu (l.take k) s=b:=⟨_,rfl⟩
    have HNM:Hid (nmE (l.take k) s=zam [zag bn 4,zag (!bt) 5]):=by rw [Hid,nmE,hbn,hbt]
    have NM:=fun W=>zbv s bn hbn (by omega) W
    have TX:=fun (y:Xt wr) (c:Nat)=>zjy (some ⟨bb,off,none⟩) k c _ (l.take k) s bt hbt y.1 (by omega) HTL.out (hrt.below (y.2.mono (by omega)))
    clear hkl hbn hbt hev hrt
    cases bn with
    | false =>
     have HN2:Hid (C=((k:Int),4)):=by
      have e:nmE (l.take k) s=4:=by rw [HNM.out];rfl
      rw [Hid,← e]
      exact (zgm HSV.out HGO.out (by rw [e];decide)).symm
     go_wp2_with (go_at_call 73;refine (NM _).mono ?_;rintro e w' ⟨rfl,rfl⟩)
     go_ret2
     exact ⟨by rw [HN.out,HN2.out];rfl,HBK.out⟩
    | true =>
     have x0:=fun y:Xt wr=>y.cell z0
     go_upto_region 10 with (go_at_call 73;refine (NM _).mono ?_;rintro e w' ⟨rfl,rfl⟩)
     refine za5 (by kernel_rfl) (by kernel_rfl) ?_
     repeat (go_big_quiet_step (first | (go_at_call 74;exact Xt.calls_same (TX _ _))))
     refine wpQuiet_nil ?_
     intro w1 hx
     have HB1:=Lib.hid (HBK.out.trans ((Xt.below hx).mono hsk))
     clear hx x0 TX NM z0 HBK
     cases bt with
     | true =>
      have HN2:Hid (C=((k:Int),5)):=by
       have e:nmE (l.take k) s=5:=by rw [HNM.out];rfl
       rw [Hid,← e]
       exact (zgm HSV.out HGO.out (by rw [e];decide)).symm
      go_wp2
      go_ret2
      exact ⟨by rw [HN.out,HN2.out];rfl,HB1.out⟩
     | false =>
      have HN2:=Lib.hid (zl7 HSV.out HGO.out (by rw [HNM.out];rfl))
      go_wp2
      go_roundw
      case rel=>exact ⟨k+1,by omega,by go_num,HN2.out,HB1.out⟩
      case measure=>simp [intOf];omega
  · have HN1:Hid (C=(0,0)):=ziq (by rw [HL.out];omega) HGO.out
    go_wp2
    go_ret2
    exact ⟨by rw [HN.out,HN1.out];rfl,HBK.out⟩
def HtRel (w0:World) (l:List ByteArray) (s:ByteArray) (k:Nat) (bt:Bool) (u:Value) (wr:World):Prop:=∃ j:Nat,j≤k∧u=.int .i64 j∧zcu ((l.take k).drop j) s=bt∧Below w0.heap.size w0 wr
theorem ht_no {l:List ByteArray} {s x:ByteArray} {k j:Nat} {bt:Bool} (hj:j<k) (hx:l[j]?=some x) (he:(x.toList == s.toList)=false) (h:zcu ((l.take k).drop j) s=bt):zcu ((l.take k).drop (j+1)) s=bt:=by
 have h9:(l.take k)[j]?=some x:=by rw [List.getElem?_take];simp [hj,hx]
 rw [za9 h9,zfn,he,Bool.false_or] at h
 exact h
theorem ht_yes {l:List ByteArray} {s x:ByteArray} {k j:Nat} {bt:Bool} (hj:j<k) (hx:l[j]?=some x) (he:(x.toList == s.toList)=true) (h:zcu ((l.take k).drop j) s=bt):bt=true:=by
 have h9:(l.take k)[j]?=some x:=by rw [List.getElem?_take];simp [hj,hx]
 rw [za9 h9,zfn,he,Bool.true_or] at h
 exact h.symm
theorem ht_end {l:List ByteArray} {s:ByteArray} {k j:Nat} {bt:Bool} (hj:¬ j<k) (h:zcu ((l.take k).drop j) s=bt):bt=false:=by
 rw [List.drop_eq_nil_iff.2 (by rw [List.length_take];omega)] at h
 exact h.symm
theorem zlp (w:World) (B:Nat) (A:Option Addr) (n c:Nat) (l:List Sw) (hl:l.length=n) (hr:Rd w B A (zbl l)) (hB:B≤w.heap.size) (hn:n≤1000) (hz:∀ s∈l,s.1.size≤1000) :
 Calls Tryz.prog 45 #[.slice A n c] w fun e w'=>e=.returned (.tuple #[.int .i64 (zdh 12 zio l).1,.int .i64 (zdh 12 zio l).2])∧Below w.heap.size w w':=by
 have HL:=Lib.hid hl
 have HZ:=Lib.hid hz
 have HR:=Lib.hid hr
 obtain ⟨V,hV⟩:∃ V,zdh 12 zio l=V:=⟨_,rfl⟩
 obtain ⟨C,hC⟩:∃ V,zfc zio 0 [] l=V:=⟨_,rfl⟩
 rw [hV]
 have HV:Hid (V=if n=0 then (0,10) else if 12<n then (0,8) else C):=by rw [Hid,← hV,zdh,hl,hC]
 have HC:=Lib.hid hC
 clear hl hz hr hV hC
 go_enter Tryz.func45,Tryz.ntmps45
 by_cases h0:n=0
 · have HN:Hid (V=(0,10)):=by rw [Hid,HV.out,if_pos h0]
   subst h0
   go_wp2
   go_ret2
   exact ⟨by rw [HN.out];rfl,Below.refl _ _⟩
 have g0:((n:Int) == 0)=false:=beq_eq_false_iff_ne.2 (by omega)
 by_cases h6:(12:Int)<(n:Int)
 · have HN:Hid (V=(0,8)):=by rw [Hid,HV.out,if_neg h0,if_pos (by omega)]
   go_wp2
   go_ret2
   exact ⟨by rw [HN.out];rfl,Below.refl _ _⟩
 have HN:Hid (V=C):=by rw [Hid,HV.out,if_neg h0,if_neg (by omega)]
 clear HV h0
 go_wp2
 go_loopw [4] (fun u wr=>CnR w zio l n C u wr) (fun u _=>n - (intOf u).toNat)
 case atStart=>exact ⟨0,Nat.zero_le _,rfl,HC.out,Below.refl _ _⟩
 case round =>
  clear HC
  obtain ⟨k,hk,rfl,hgo,hb⟩:=hrel
  have HGO:=Lib.hid hgo
  have HBK:=Lib.hid hb
  have hr:=HR.out.below (hb.mono hB)
  have hsk:=hb.size
  clear hgo hb
  by_cases hlt:k<n
  · have hkl:k<l.length:=by rw [HL.out];exact hlt
    obtain ⟨ev,hev⟩:∃ ev,l[k]?=some ev:=⟨_,List.getElem?_eq_getElem hkl⟩
    obtain ⟨bb,off,rfl,hbB,z0,z1⟩:=Rd.sw hr hev
    have HSV:=Lib.hid hev
    have hz9:=HZ.out ev (List.mem_of_getElem? hev)
    obtain ⟨s,r⟩:=ev
    simp only at z0 z1 hz9
    obtain ⟨bn,hbn⟩:∃ b,za3 s=b:=⟨_,rfl⟩
    obtain ⟨bt,hbt⟩:∃ b,zcu ((l.take k).map (·.1)) s=b:=⟨_,rfl⟩
    obtain ⟨br,hbr⟩:∃ b,zaj r 0 3=b:=⟨_,rfl⟩
    have HNM:Hid (zio (l.take k) (s,r)=zam [zag bn 4,zag (!bt) 5,zag br 15]):=by rw [Hid,zio,hbn,hbt,hbr]
    have NM:=fun W=>zbv s bn hbn (by omega) W
    have WI:=fun W=>za1 r 0 3 br hbr W
    have HBT:Hid (zcu (((l.map (·.1)).take k).drop 0) s=bt):=by rw [Hid,← List.map_take,List.drop_zero];exact hbt
    clear hkl hbn hbt hbr hev
    cases bn with
    | false =>
     have HN2:Hid (C=((k:Int),4)):=by
      have e:zio (l.take k) (s,r)=4:=by rw [HNM.out];rfl
      rw [Hid,← e]
      exact (zgm HSV.out HGO.out (by rw [e];decide)).symm
     go_wp2_with (go_at_call 73;refine (NM _).mono ?_;rintro e w' ⟨rfl,rfl⟩)
     go_ret2
     exact ⟨by rw [HN.out,HN2.out];rfl,HBK.out⟩
    | true =>
     go_wp2_with (go_at_call 73;refine (NM _).mono ?_;rintro e w' ⟨rfl,rfl⟩)
     clear NM
     obtain ⟨wq,rfl⟩:∃ wq,wq=wr:=⟨wr,rfl⟩
     go_loopw [5] (fun u wx=>HtRel wq (l.map (·.1)) s k bt u wx) (fun u _=>k - (intOf u).toNat)
     case atStart=>exact ⟨0,Nat.zero_le _,rfl,HBT.out,Below.refl _ _⟩
     case round =>
      clear HBT
      obtain ⟨j,hj,rfl,hgj,hb⟩:=hrel
      have HGJ:=Lib.hid hgj
      have HBJ:=Lib.hid hb
      have hrj:=hr.below (hb.mono (by omega))
      replace z0:=zat hb z0
      replace z1:=zat hb z1
      have hsj:=hb.size
      clear hgj hb
      by_cases hjk:j<k
      · have hjl:j<l.length:=by rw [HL.out];omega
        obtain ⟨ev,hev⟩:∃ ev,l[j]?=some ev:=⟨_,List.getElem?_eq_getElem hjl⟩
        obtain ⟨b9,off9,hA9,hb9B,y0,y1⟩:=Rd.sw hrj hev
        cases hA9
        have HEV:Hid ((l.map (·.1))[j]?=some ev.1):=by rw [Hid,List.getElem?_map,hev];rfl
        obtain ⟨x,xr⟩:=ev
        simp only at y0 y1 HEV
        have hjn:j<n:=by omega
        have x0:=fun y:Xt wr=>y.cell z0
        have x1:=fun y:Xt wr=>y.cell y0
        clear hev hjl
        go_upto_region 13 with (fail)
        refine za5 (by kernel_rfl) (by kernel_rfl) ?_
        repeat (go_big_quiet_step (fail))
        refine wpQuiet_nil ?_
        intro w1 hx
        have HB1:=Lib.hid (HBJ.out.trans ((Xt.below hx).mono hsj))
        clear hx x0 x1 z0 z1 y0 y1 HBJ
        cases he:(x.toList == s.toList) with
        | true =>
         have HE:=Lib.hid he
         have HBT:=Lib.hid (ht_yes hjk HEV.out he HGJ.out)
         have HN2:Hid (C=((k:Int),5)):=by
          have e:zio (l.take k) (s,r)=5:=by rw [HNM.out,HBT.out];rfl
          rw [Hid,← e]
          exact (zgm HSV.out HGO.out (by rw [e];decide)).symm
         go_wp2
         go_ret2
         exact ⟨by rw [HN.out,HN2.out];rfl,HBK.out.trans (HB1.out.mono hsk)⟩
        | false =>
         have HE:=Lib.hid he
         have HN3:=Lib.hid (ht_no hjk HEV.out he HGJ.out)
         go_wp2
         go_roundw
         case rel=>exact ⟨j+1,by omega,by go_num,HN3.out,HB1.out⟩
         case measure=>simp [intOf];omega
      · have HBT:=Lib.hid (ht_end hjk HGJ.out)
        have HB2:=Lib.hid (HBK.out.trans (HBJ.out.mono hsk))
        clear HGJ HBJ HBK
        cases br with
        | false =>
         have HN2:Hid (C=((k:Int),15)):=by
          have e:zio (l.take k) (s,r)=15:=by rw [HNM.out,HBT.out];rfl
          rw [Hid,← e]
          exact (zgm HSV.out HGO.out (by rw [e];decide)).symm
         go_wp2_with (go_at_call 9;refine (WI _).mono ?_;rintro e w' ⟨rfl,rfl⟩)
         go_ret2
         exact ⟨by rw [HN.out,HN2.out];rfl,HB2.out⟩
        | true =>
         have HN2:=Lib.hid (zl7 HSV.out HGO.out (by rw [HNM.out,HBT.out];rfl))
         go_wp2_with (go_at_call 9;refine (WI _).mono ?_;rintro e w' ⟨rfl,rfl⟩)
         go_roundw
         case rel=>exact ⟨k+1,by omega,by go_num,HN2.out,HB2.out⟩
         case measure=>simp [intOf];omega
  · have HN1:Hid (C=(0,0)):=ziq (by rw [HL.out];omega) HGO.out
    go_wp2
    go_ret2
    exact ⟨by rw [HN.out,HN1.out];rfl,HBK.out⟩
theorem numberOf_any (A:Option Addr) (n c B:Nat) (l:List ByteArray) (s:ByteArray) (w:World) (hn:n≤1000000000) (hl:l.length=n) (h:Rd w B A (strCells l)) :
 Calls Tryz.prog 184 #[.slice A n c,.string s] w fun e w'=>e=.returned (.int .i64 (za4 (fun a=>a.toList == s.toList) l 0))∧w=w':=by
 have HL:=Lib.hid hl;clear hl
 go_enter Tryz.func184,Tryz.ntmps184
 go_wp2
 go_loop [5] (fun i=>∃ k:Nat,k≤n∧i=.int .i64 k∧za4 (fun a=>a.toList == s.toList) (l.drop k) k=za4 (fun a=>a.toList == s.toList) l 0) (fun i=>n - (intOf i).toNat)
 case atStart=>exact ⟨0,Nat.zero_le _,rfl,rfl⟩
 case round =>
  obtain ⟨k,hk,rfl,he⟩:=hrel
  have HE:=Lib.hid he;clear he
  by_cases hlt:k<n
  · have hkl:k<l.length:=by rw [HL.out];exact hlt
    obtain ⟨b,off,rfl,_,hc⟩:=h.at_ (k:=k) (u:=.string (l[k]?.getD ⟨#[]⟩)) (by simp [strCells,hkl])
    have HS:=Lib.hid (zfq l ⟨#[]⟩ k hkl)
    clear hkl
    generalize l[k]?.getD ⟨#[]⟩=x at *
    cases hx:(x.toList == s.toList) with
    | true =>
     have HX:=Lib.hid hx
     go_wp2
     go_ret
     exact ⟨by rw [← HE.out,HS.out,za4,HX.out];rfl,rfl⟩
    | false =>
     have HX:=Lib.hid hx
     go_wp2
     go_round
     case rel=>exact ⟨k+1,by omega,by go_num,by rw [← HE.out,HS.out,za4,HX.out];rfl⟩
     case measure=>simp [intOf];omega
  · go_wp2
    go_ret
    have:l.drop k=[]:=by rw [List.drop_eq_nil_iff];rw [HL.out];omega
    exact ⟨by rw [← HE.out,this];rfl,rfl⟩
theorem numberOf_val (A:Option Addr) (n c B:Nat) (l:List ByteArray) (s:ByteArray) (ix:Int) (hx:za4 (fun a=>a.toList == s.toList) l 0=ix) (w:World) (hn:n≤1000000000) (hl:l.length=n) (h:Rd w B A (strCells l)) :
 Calls Tryz.prog 184 #[.slice A n c,.string s] w fun e w'=>e=.returned (.int .i64 ix)∧w=w':=by
 rw [← hx]
 exact numberOf_any A n c B l s w hn hl h
theorem zh2 (w:World) (B:Nat) (A:Option Addr) (n c:Nat) (l:List ByteArray) (hl:l.length=n) (hr:Rd w B A (strCells l)) (hB:B≤w.heap.size) (hn:n≤1000) (hc:n≤c) (hz:∀ s∈l,s.size≤1000) :
 Calls Tryz.prog 107 #[.slice A n c] w fun e w'=>∃ i:Int,e=.returned (.tuple #[.int .i64 i,.int .i64 (za2 nmE [] l)])∧Below w.heap.size w w':=by
 have HL:=Lib.hid hl
 have HZ:=Lib.hid hz
 have HR:=Lib.hid hr
 obtain ⟨V,hV⟩:∃ V,za2 nmE [] l=V:=⟨_,rfl⟩
 rw [hV]
 have HV:=Lib.hid hV
 clear hl hz hr hV
 go_enter Tryz.func107,Tryz.ntmps107
 go_wp2
 go_loopw [4] (fun u wr=>zkd w nmE l n V u wr) (fun u _=>n - (intOf u).toNat)
 case atStart=>exact ⟨0,Nat.zero_le _,rfl,HV.out,Below.refl _ _⟩
 case round =>
  clear HV
  obtain ⟨k,hk,rfl,hgo,hb⟩:=hrel
  have HGO:=Lib.hid hgo
  have HBK:=Lib.hid hb
  have hr:=HR.out.below (hb.mono hB)
  have hsk:=hb.size
  clear hgo hb
  by_cases hlt:k<n
  · have hkl:k<l.length:=by rw [HL.out];exact hlt
    obtain ⟨s,hev⟩:∃ ev,l[k]?=some ev:=⟨_,List.getElem?_eq_getElem hkl⟩
    obtain ⟨bb,off,rfl,hbB,z0⟩:=hr.at_ (k:=k) (u:=.string s) (by simp [strCells,hev])
    have HSV:=Lib.hid hev
    have hz9:=HZ.out s (List.mem_of_getElem? hev)
    have hrt:=zi3 hr k
    have HTL:Hid ((l.take k).length=k):=by rw [Hid,List.length_take];omega
    have hkc:k≤c:=by omega
    obtain ⟨bn,hbn⟩:∃ b,za3 s=b:=⟨_,rfl⟩
    obtain ⟨bt,hbt⟩:∃ b,zcu (l.take k) s=b:=⟨_,rfl⟩
    obtain ⟨ix,hix⟩:∃ ix,za4 (fun a=>a.toList == s.toList) (l.take k) 0=ix:=⟨_,rfl⟩
    have HIX:Hid (decide (0≤ix)=bt):=by rw [Hid,← hix,zcc,← hbt];rfl
    have HNM:Hid (nmE (l.take k) s=zam [zag bn 4,zag (!bt) 5]):=by rw [Hid,nmE,hbn,hbt]
    have NM:=fun W=>zbv s bn hbn (by omega) W
    have TX:=fun (y:Xt wr) (c:Nat)=>numberOf_val (some ⟨bb,off,none⟩) k c _ (l.take k) s ix hix y.1 (by omega) HTL.out (hrt.below (y.2.mono (by omega)))
    clear hkl hbn hbt hev hrt hix
    cases bn with
    | false =>
     have HN2:Hid (V=4):=by
      have e:nmE (l.take k) s=4:=by rw [HNM.out];rfl
      rw [Hid,← e]
      exact (zb3 HSV.out HGO.out (by rw [e];decide)).symm
     go_wp2_with (go_at_call 73;refine (NM _).mono ?_;rintro e w' ⟨rfl,rfl⟩)
     go_ret2
     exact ⟨k,by rw [HN2.out];rfl,HBK.out⟩
    | true =>
     have x0:=fun y:Xt wr=>y.cell z0
     go_upto_region 6 with (go_at_call 73;refine (NM _).mono ?_;rintro e w' ⟨rfl,rfl⟩)
     refine za5 (by kernel_rfl) (by kernel_rfl) ?_
     repeat (go_big_quiet_step (first | (go_at_call 184;exact Xt.calls_same (TX _ _))))
     refine wpQuiet_nil ?_
     intro w1 hx
     have HB1:=Lib.hid (HBK.out.trans ((Xt.below hx).mono hsk))
     clear hx x0 TX NM z0 HBK
     by_cases hix:0≤ix
     · have HBT:Hid (bt=true):=by rw [Hid,← HIX.out];simp [hix]
       have HN2:Hid (V=5):=by
        have e:nmE (l.take k) s=5:=by rw [HNM.out,HBT.out];rfl
        rw [Hid,← e]
        exact (zb3 HSV.out HGO.out (by rw [e];decide)).symm
       go_wp2
       go_ret2
       exact ⟨k,by rw [HN2.out];rfl,HB1.out⟩
     · have HBT:Hid (bt=false):=by rw [Hid,← HIX.out];simp [hix]
       have HN2:=Lib.hid (zc1 HSV.out HGO.out (by rw [HNM.out,HBT.out];rfl))
       go_wp2
       go_roundw
       case rel=>exact ⟨k+1,by omega,by go_num,HN2.out,HB1.out⟩
       case measure=>simp [intOf];omega
  · have HN1:Hid (V=0):=zb9 (by rw [HL.out];omega) HGO.out
    go_wp2
    go_ret2
    exact ⟨0,by rw [HN1.out];rfl,HBK.out⟩
end Go.Proofs.YtoodbfkbbchjiaaGreatDoor
