import Derived.Test.YtfdmeojcopkaoaaGreatDoorf3Y7
import Derived.Test.YtfdmeojcopkaoaaGreatDoorf3KC
import Derived.WalkSmall
import Derived.Lib.OthersKept
import Derived.Test.YtfdmeojcopkaoaaGreatDoorf3Y1
import Derived.WideMake
import Derived.MapKept
set_option maxRecDepth 100000
set_option maxHeartbeats 16000000
namespace Go.Proofs.YtfdmeojcopkaoaaGreatDoor
open Go.RowKit
theorem only_ok (w:World) (B:Nat) (A:Option Addr) (c:Nat) (x:Rg) (h:Rd w B A (zc3 [x])):Calls Tryz.prog 254 #[.slice A 1 c,.int .i64 0] w fun e w'=>e=.returned (.tuple #[.agg #[.int .i64 x.1,.int .i64 x.2],.int .i64 0])∧Below w.heap.size w w':=by
 have hb0:=hB2 w (.cells #[.int .i64 0,.int .i64 0] 188) (.cells #[.int .i64 0,.int .i64 0] 188)
 have k0:=hA2a w (.cells #[.int .i64 0,.int .i64 0] 188) (.cells #[.int .i64 0,.int .i64 0] 188)
 have hs0:=hS2 w (.cells #[.int .i64 0,.int .i64 0] 188) (.cells #[.int .i64 0,.int .i64 0] 188)
 obtain ⟨bb,off,rfl,hbb,z0⟩:=(h.keep hb0).at_ (k:=0) (u:=.int .i64 x.1) rfl
 have z1:=zbz (h.keep hb0) (k:=1) (u:=.int .i64 x.2) rfl
 rw [Nat.add_zero] at z0
 have HB:=Lib.hid hb0
 have U0:=fun e W=>zd7 true e 0 rfl W
 clear hb0 h
 go_enter Tryz.func254,Tryz.ntmps254
 go_upto_region 2 with (fail)
 generalize (w.alloc (.cells #[.int .i64 0,.int .i64 0] 188)).alloc (.cells #[.int .i64 0,.int .i64 0] 188)=w0 at *
 generalize hbw:w.heap.size=bw at *
 have HBW:=Lib.hid hbw
 clear hbw
 go_upto_region 3 with (first | (go_at_call 74;refine (U0 _ _).mono ?_;rintro e w' ⟨rfl,rfl⟩) | (go_at_call 73;refine (zky _ _ _ _).mono ?_;rintro e w' ⟨rfl,rfl⟩))
 have hbn:=hB1 w0 (.cells #[.int .i64 0,.int .i64 0,.int .i64 0] 50)
 have HB1:=Lib.hid (HB.out.trans (hbn.mono (by omega)))
 replace k0:=blk hbn k0
 replace z0:=zas hbn z0
 replace z1:=zas hbn z1
 clear hbn U0
 generalize w0.alloc (.cells #[.int .i64 0,.int .i64 0,.int .i64 0] 50)=w1 at *
 go_wp2_with (with_reducible refine zat 188 ?_)
 unfold Stp
 refine wpList_store_row rfl 188 _ _ rfl bw #[.int .i64 x.1,.int .i64 x.2] rfl rfl 188 _ k0 (by kernel_rfl) rfl (by kernel_rfl) ?_
 have kr:=setRow_heap w1 bw _ #[.int .i64 x.1,.int .i64 x.2] 188 (0,0) k0
 have hbr:Below bw w (w1.setRow bw #[.int .i64 x.1,.int .i64 x.2]):=below_setRow HB1.out (Nat.le_refl _) _
 generalize w1.setRow bw #[.int .i64 x.1,.int .i64 x.2]=w2 at *
 go_wp2
 obtain ⟨c0,c1⟩:_∧_:=zay kr
 refine bodyPost_ret (v:=.tuple #[.agg #[.int .i64 x.1,.int .i64 x.2],.int .i64 0]) (by simp [results,Tryz.results254,go_sem,c0,c1,zam]) rfl ⟨rfl,by rw [HBW.out];exact hbr⟩
theorem PlaceOf_ok (w:World) (B:Nat) (v:VanV) (A2:Option Addr) (m c2:Nat) (s:List Int) (cnt:Int) (x:Rg) (h:zcs w B v.vs v.vanes.length (zah v.vanes)) (hB:B≤w.heap.size) (hO:VanOk v) (hs:s.length=m) (hm:m≤12) (hr:Rd w w.heap.size A2 (zah s)) (hE:zg5 v s=0) (hc:zai cnt 0 (v.modulus - 1)=true) (hx:posL v cnt (zih v s)=[x]) :
 Calls Tryz.prog 204 #[.agg (za6 v).toArray,.agg #[.slice A2 m c2,.int .i64 cnt]] w fun e w'=>e=.returned (.tuple #[.agg #[.int .i64 x.1,.int .i64 x.2],.int .i64 0])∧Below w.heap.size w w':=by
 have hb0:Below w.heap.size w (((w.alloc (.cells (za6 v).toArray 34)).alloc (.cells #[.slice A2 m c2,.int .i64 cnt] 280)).alloc (.cells #[.int .i64 0,.int .i64 0] 188)):=(((Below.refl _ _).alloc (Nat.le_refl _) _).alloc (by simp) _).alloc (by simp;omega) _
 have k0:(((w.alloc (.cells (za6 v).toArray 34)).alloc (.cells #[.slice A2 m c2,.int .i64 cnt] 280)).alloc (.cells #[.int .i64 0,.int .i64 0] 188)).heap[w.heap.size]?=some (.cells (za6 v).toArray 34 (0,0)):=by rw [zae,if_neg (by simp;omega),zae,if_neg (by simp),zae,if_pos rfl]
 have k1:(((w.alloc (.cells (za6 v).toArray 34)).alloc (.cells #[.slice A2 m c2,.int .i64 cnt] 280)).alloc (.cells #[.int .i64 0,.int .i64 0] 188)).heap[w.heap.size+1]?=some (.cells #[.slice A2 m c2,.int .i64 cnt] 280 (0,0)):=by rw [zae,if_neg (by simp),zae,if_pos (by simp)]
 have k2:(((w.alloc (.cells (za6 v).toArray 34)).alloc (.cells #[.slice A2 m c2,.int .i64 cnt] 280)).alloc (.cells #[.int .i64 0,.int .i64 0] 188)).heap[w.heap.size+2]?=some (.cells #[.int .i64 0,.int .i64 0] 188 (0,0)):=by rw [zae,if_pos (by simp)]
 have hs0:w.heap.size+3≤(((w.alloc (.cells (za6 v).toArray 34)).alloc (.cells #[.slice A2 m c2,.int .i64 cnt] 280)).alloc (.cells #[.int .i64 0,.int .i64 0] 188)).heap.size:=by simp
 have PO:=Possible_ok (((w.alloc (.cells (za6 v).toArray 34)).alloc (.cells #[.slice A2 m c2,.int .i64 cnt] 280)).alloc (.cells #[.int .i64 0,.int .i64 0] 188)) B v A2 m c2 s cnt (h.keep hb0) (by omega) hO hs hm ((hr.keep hb0).mono (by omega)) hE hc
 rw [hx] at PO
 have HB:=Lib.hid hb0
 clear hb0 h hr hO hs hE hc hx
 go_enter Tryz.func204,Tryz.ntmps204
 go_upto_region 1 with (fail)
 generalize ((w.alloc (.cells (za6 v).toArray 34)).alloc (.cells #[.slice A2 m c2,.int .i64 cnt] 280)).alloc (.cells #[.int .i64 0,.int .i64 0] 188)=w0 at *
 generalize hbw:w.heap.size=bw at *
 have HBW:=Lib.hid hbw
 clear hbw
 go_wp2_with (with_reducible refine zaz 34 ?_)
 unfold Stp
 refine wpList_load_row rfl 34 _ rfl bw rfl 34 _ (0,0) _ k0 Tryz.underlying34 rfl (by kernel_rfl) ?_
 go_wp2_with (with_reducible refine zaz 280 ?_)
 unfold Stp
 refine wpList_load_row rfl 280 _ rfl (bw+1) rfl 280 _ (0,0) _ k1 Tryz.underlying280 rfl (by kernel_rfl) ?_
 go_wp2_with (first | (go_at_call 255;refine PO.mono ?_;rintro e w1 ⟨A1,c1,rfl,ho1,hb1⟩) | (go_at_call 254;refine stp ?_))
 unfold Stp
 have ON:=only_ok w1 w1.heap.size A1 c1 x (zbe ho1)
 refine ON.mono ?_
 rintro e w2 ⟨rfl,hb2⟩
 have hb12:=hb1.trans (hb2.mono hb1.size)
 have k9:=blk hb12 k2
 go_wp2_with (with_reducible refine zat 188 ?_)
 unfold Stp
 refine wpList_store_row rfl 188 _ _ rfl (bw+2) #[.int .i64 x.1,.int .i64 x.2] rfl rfl 188 _ k9 (by kernel_rfl) rfl (by kernel_rfl) ?_
 have kr:=setRow_heap w2 (bw+2) _ #[.int .i64 x.1,.int .i64 x.2] 188 (0,0) k9
 have hbr:Below bw w (w2.setRow (bw+2) #[.int .i64 x.1,.int .i64 x.2]):=below_setRow (HB.out.trans (hb12.mono (by omega))) (by omega) _
 generalize w2.setRow (bw+2) #[.int .i64 x.1,.int .i64 x.2]=w3 at *
 go_wp2
 obtain ⟨c0,c1⟩:_∧_:=zay kr
 refine bodyPost_ret (v:=.tuple #[.agg #[.int .i64 x.1,.int .i64 x.2],.int .i64 0]) (by simp [results,Tryz.results204,go_sem,c0,c1]) rfl ⟨rfl,by rw [HBW.out];exact hbr⟩
end Go.Proofs.YtfdmeojcopkaoaaGreatDoor
namespace Go.Proofs.YtfdmeojcopkaoaaGreatDoor
open Go.RowKit
def vanCh (b:UInt8):Int:=if b.toNat=48 then 0 else if b.toNat=49 then 1 else 2
def vanB (b:UInt8):Bool:=(b.toNat == 48) || (b.toNat == 49) || (b.toNat == 63)
def zi9 (s:ByteArray):List Int:=s.data.toList.map vanCh
def RvRel (w:World) (s:ByteArray) (n:Nat) (u6:Value) (wr:World):Prop:=
 ∃ k:Nat,k≤n∧wr.heap[w.heap.size]?=some (.stringIter s k)∧wr.ownsRow (w.heap.size+1) 3 1 u6 k (zah ((zi9 s).take k))∧Below w.heap.size w wr∧w.heap.size+1≤wr.heap.size
def zgw (b n:Nat) (wr:World):Nat:=n - wr.iterPos b
def RvPost (w:World) (l:List Int) (e:Ending) (w':World):Prop:=
 ∃ A c,e=.returned (.tuple #[.slice A l.length c,.bool true])∧w'.ownsRow w.heap.size 3 1 (.slice A l.length c) l.length (zah l)∧Below w.heap.size w w'
theorem readVanes_ok (s:ByteArray) (h0:0<s.size) (h1:s.size≤1000) (hv:s.data.toList.all vanB=true) (w:World):Calls Tryz.prog 252 #[.string s,.bool true] w (RvPost w (zi9 s)):=by
 have hlen:(zi9 s).length=s.size:=by simp [zi9]
 have HV:=Lib.hid hv
 obtain ⟨n,hn⟩:∃ n,s.size=n:=⟨_,rfl⟩
 rw [hn] at h0 h1
 have HN:=Lib.hid hn
 have HL:=Lib.hid hlen
 have hne:s.toList.isEmpty=false:=by
  rw [Lib.toList_data]
  cases h9:s.data.toList with
  | nil =>
   have h8:s.size=s.data.toList.length:=Lib.size_eq s
   rw [h9,HN.out] at h8
   simp at h8
   omega
  | cons=>rfl
 have HNE:=Lib.hid hne
 clear hlen hv hn hne
 go_enter Tryz.func252,Tryz.ntmps252
 go_wp2
 go_loopw [6] (fun u6 wr=>RvRel w s n u6 wr) (fun _ wr=>zgw w.heap.size n wr)
 case atStart=>exact ⟨0,Nat.zero_le _,World.iter_heap w s 0,⟨rfl,.inl ⟨rfl,rfl⟩⟩,(Below.refl _ _).alloc (Nat.le_refl _) _,by simp [World.iter]⟩
 case round =>
  obtain ⟨k,hk,hit,hown,hb,hsz⟩:=hrel
  obtain ⟨Au,cu,rfl⟩:=zco hown
  generalize hbw:w.heap.size=bw at *
  have HBW:=Lib.hid hbw
  clear hbw
  by_cases hlt:k<n
  · have hks:k<s.size:=by rw [HN.out];exact hlt
    have hbv:vanB (s[k]'hks)=true:=by
     have h9:=HV.out
     rw [List.all_eq_true] at h9
     exact h9 _ (by
      rw [ByteArray.getElem_eq_getElem_data]
      simp)
    have hvs:(zi9 s)[k]?=some (vanCh (s[k]'hks)):=by
     rw [zi9,List.getElem?_map,Array.getElem?_toList,Array.getElem?_eq_getElem (by simpa using hks)]
     rfl
    have ha:(s[k]'hks).toNat<128:=by
     simp only [vanB,Bool.or_eq_true,beq_iff_eq] at hbv
     omega
    have hnx0:=fun ty=>Lib.run_next_ascii_at (P:=Tryz.prog) wr bw s k ty hit hks ha
    have HT:=Lib.hid (zgo hvs)
    have hit1:=Lib.iterAt_heap wr bw s k (k+1) hit
    have hown1:=ownsRow_iterAt hown (show bw<bw+1 by omega) s (k+1)
    have hb1:=Lib.below_iterAt hb (Nat.le_refl bw) s (k+1)
    have hsz1:bw+1≤(wr.iterAt bw s (k+1)).heap.size:=by rw [Lib.iterAt_size];exact hsz
    have HM:Hid (zgw bw n wr=n - k):=by rw [Hid,zgw,World.iterPos,hit]
    have hc:(s[k]'hks).toNat=48∧vanCh (s[k]'hks)=0∨(s[k]'hks).toNat=49∧vanCh (s[k]'hks)=1∨(s[k]'hks).toNat=63∧vanCh (s[k]'hks)=2:=by
     simp only [vanB,Bool.or_eq_true,beq_iff_eq] at hbv
     rcases hbv with (h9 | h9) | h9 <;> simp [vanCh,h9]
    obtain ⟨i1,hi1,hy0,hy1,hy2⟩:=info_parts zhn
    clear hbv hvs ha hit hown hb hsz
    generalize (s[k]'hks).toNat=c at *
    generalize vanCh (s[k]'hks)=x at *
    rcases hc with ⟨rfl,rfl⟩ | ⟨rfl,rfl⟩ | ⟨rfl,rfl⟩
    · go_upto_region 4 with (fail)
      generalize wr.iterAt bw s (k+1)=w1 at *
      clear hnx0
      go_wp2_with (at_builtin;refine stp ?_)
      unfold Stp
      refine wpList_append_lies _ rfl _ _ 32 rfl (bw+1) 3 i1 _ 1 8 Tryz.underlying32 hi1 hy0 hy1 hy2 rfl (by omega) (.slice Au k cu) k _ rfl (hown1.alloc _) ⟨w1.heap.size,0,none⟩ 1 1 [.int .i64 0] rfl rfl (zey (by simp)) (by simp [Value.oneCell']) (by omega) (by simp only [maxLen];omega) (by omega) (by simp;omega) _ rfl ?_
      intro gg cap w6 hown6 hgrow6 hat6 hlt6
      have HB7:=Lib.hid ((hb1.alloc (Nat.le_of_succ_le hsz1) _).grown hgrow6 (by simp;omega) (fun j hj=>Nat.le_of_succ_le (zbf hown1 hj).1))
      have hlb:bw<w1.heap.size:=lt_of_block hit1
      have hi6:w6.heap[bw]?=some (.stringIter s (k+1)):=(hgrow6.block bw (by simp;omega) (fun he=>by have:=(zbf hown1 he.symm).1;omega)).trans ((by rw [zae,if_neg (by omega)]:_=w1.heap[bw]?).trans hit1)
      have HI6:=Lib.hid hi6
      have hs6:bw+1≤w6.heap.size:=lt_of_block hi6
      have HO6:Hid (w6.ownsRow (bw+1) 3 1 (.slice (some ⟨gg,0,none⟩) (k+1) cap) (k+1) (zah ((zi9 s).take (k+1)))):=by
       rw [Hid,HT.out]
       exact hown6
      have HM6:Hid (zgw bw n w6=n - (k+1)):=by rw [Hid,zgw,World.iterPos,hi6]
      clear hown6 hgrow6 hat6 hlt6 hown1 hb1 hit1 hi6 hi1 hy0 hy1 hy2 hlb
      go_wp2
      go_roundw
      case rel=>exact ⟨k+1,hlt,by rw [HBW.out];exact HI6.out,by rw [HBW.out];exact HO6.out,by rw [HBW.out];exact HB7.out,by rw [HBW.out];exact hs6⟩
      case measure=>rw [HM.out,HM6.out];omega
    · go_upto_region 4 with (fail)
      generalize wr.iterAt bw s (k+1)=w1 at *
      clear hnx0
      go_wp2_with (at_builtin;refine stp ?_)
      unfold Stp
      refine wpList_append_lies _ rfl _ _ 32 rfl (bw+1) 3 i1 _ 1 8 Tryz.underlying32 hi1 hy0 hy1 hy2 rfl (by omega) (.slice Au k cu) k _ rfl (hown1.alloc _) ⟨w1.heap.size,0,none⟩ 1 1 [.int .i64 1] rfl rfl (zey (by simp)) (by simp [Value.oneCell']) (by omega) (by simp only [maxLen];omega) (by omega) (by simp;omega) _ rfl ?_
      intro gg cap w6 hown6 hgrow6 hat6 hlt6
      have HB7:=Lib.hid ((hb1.alloc (Nat.le_of_succ_le hsz1) _).grown hgrow6 (by simp;omega) (fun j hj=>Nat.le_of_succ_le (zbf hown1 hj).1))
      have hlb:bw<w1.heap.size:=lt_of_block hit1
      have hi6:w6.heap[bw]?=some (.stringIter s (k+1)):=(hgrow6.block bw (by simp;omega) (fun he=>by have:=(zbf hown1 he.symm).1;omega)).trans ((by rw [zae,if_neg (by omega)]:_=w1.heap[bw]?).trans hit1)
      have HI6:=Lib.hid hi6
      have hs6:bw+1≤w6.heap.size:=lt_of_block hi6
      have HO6:Hid (w6.ownsRow (bw+1) 3 1 (.slice (some ⟨gg,0,none⟩) (k+1) cap) (k+1) (zah ((zi9 s).take (k+1)))):=by
       rw [Hid,HT.out]
       exact hown6
      have HM6:Hid (zgw bw n w6=n - (k+1)):=by rw [Hid,zgw,World.iterPos,hi6]
      clear hown6 hgrow6 hat6 hlt6 hown1 hb1 hit1 hi6 hi1 hy0 hy1 hy2 hlb
      go_wp2
      go_roundw
      case rel=>exact ⟨k+1,hlt,by rw [HBW.out];exact HI6.out,by rw [HBW.out];exact HO6.out,by rw [HBW.out];exact HB7.out,by rw [HBW.out];exact hs6⟩
      case measure=>rw [HM.out,HM6.out];omega
    · go_upto_region 4 with (fail)
      generalize wr.iterAt bw s (k+1)=w1 at *
      clear hnx0
      go_wp2_with (at_builtin;refine stp ?_)
      unfold Stp
      refine wpList_append_lies _ rfl _ _ 32 rfl (bw+1) 3 i1 _ 1 8 Tryz.underlying32 hi1 hy0 hy1 hy2 rfl (by omega) (.slice Au k cu) k _ rfl (hown1.alloc _) ⟨w1.heap.size,0,none⟩ 1 1 [.int .i64 2] rfl rfl (zey (by simp)) (by simp [Value.oneCell']) (by omega) (by simp only [maxLen];omega) (by omega) (by simp;omega) _ rfl ?_
      intro gg cap w6 hown6 hgrow6 hat6 hlt6
      have HB7:=Lib.hid ((hb1.alloc (Nat.le_of_succ_le hsz1) _).grown hgrow6 (by simp;omega) (fun j hj=>Nat.le_of_succ_le (zbf hown1 hj).1))
      have hlb:bw<w1.heap.size:=lt_of_block hit1
      have hi6:w6.heap[bw]?=some (.stringIter s (k+1)):=(hgrow6.block bw (by simp;omega) (fun he=>by have:=(zbf hown1 he.symm).1;omega)).trans ((by rw [zae,if_neg (by omega)]:_=w1.heap[bw]?).trans hit1)
      have HI6:=Lib.hid hi6
      have hs6:bw+1≤w6.heap.size:=lt_of_block hi6
      have HO6:Hid (w6.ownsRow (bw+1) 3 1 (.slice (some ⟨gg,0,none⟩) (k+1) cap) (k+1) (zah ((zi9 s).take (k+1)))):=by
       rw [Hid,HT.out]
       exact hown6
      have HM6:Hid (zgw bw n w6=n - (k+1)):=by rw [Hid,zgw,World.iterPos,hi6]
      clear hown6 hgrow6 hat6 hlt6 hown1 hb1 hit1 hi6 hi1 hy0 hy1 hy2 hlb
      go_wp2
      go_roundw
      case rel=>exact ⟨k+1,hlt,by rw [HBW.out];exact HI6.out,by rw [HBW.out];exact HO6.out,by rw [HBW.out];exact HB7.out,by rw [HBW.out];exact hs6⟩
      case measure=>rw [HM.out,HM6.out];omega
  · obtain rfl:k=n:=by omega
    have hnx0:=fun ty=>Lib.run_next_end_at (P:=Tryz.prog) wr bw s k ty hit (by rw [HN.out];omega)
    have e:(zi9 s).take k=zi9 s:=List.take_of_length_le (by rw [HL.out,HN.out];exact Nat.le_refl _)
    rw [e] at hown
    have HO:=Lib.hid hown
    have HB:=Lib.hid hb
    have hne:=HNE.out
    clear hown hit hb
    go_wp2
    go_ret2
    refine ⟨Au,cu,?_,?_,by rw [HBW.out];exact HB.out⟩
    · rw [HL.out,HN.out]
      rfl
    · rw [HL.out,HN.out,HBW.out]
      exact za1 HO.out (Nat.le_succ _)
end Go.Proofs.YtfdmeojcopkaoaaGreatDoor
namespace Go.Proofs.YtfdmeojcopkaoaaGreatDoor
open Go.RowKit
theorem zi3 (s a b:ByteArray) (t:Bool) (cnt:Int) (hs:s.size≤1000) (hc:Lib.cut s.data.toList (⟨#[32]⟩:ByteArray).data.toList=(a.data.toList,b.data.toList,t)) (ha0:0<a.size) (ha1:a.size≤1000) (hv:a.data.toList.all vanB=true) (hb:b.size≤1000) (hn:numL b.data.toList 4=some cnt) (h0:0≤cnt) (w:World) (ht:TxtAt w) :
 Calls Tryz.prog 203 #[.string s] w fun e w'=>∃ A c,e=.returned (.tuple #[.agg #[.slice A (zi9 a).length c,.int .i64 cnt],.int .i64 0])∧Rd w' w'.heap.size A (zah (zi9 a))∧Below w.heap.size w w':=by
 have hb0:=hB1 w (.cells #[.slice none 0 0,.int .i64 0] 280)
 have k0:=hA1 w (.cells #[.slice none 0 0,.int .i64 0] 280)
 have hs0:=hS1 w (.cells #[.slice none 0 0,.int .i64 0] 280)
 have HB:=Lib.hid hb0
 have HT:=Lib.hid (ht.below hb0)
 have CT:=Cut_any s ⟨#[32]⟩ (by omega) (w.alloc (.cells #[.slice none 0 0,.int .i64 0] 280)) HT.out
 rw [hc] at CT
 simp only [ba_of] at CT
 have RV:=fun W=>readVanes_ok a ha0 ha1 hv W
 have NB:=fun W hW=>number253_ok b 4 (by omega) (by omega) cnt hn h0 W hW
 clear hb0 ht hc ha0 ha1 hv hn h0 hs hb
 go_enter Tryz.func203,Tryz.ntmps203
 go_upto_region 1 with (fail)
 generalize w.alloc (.cells #[.slice none 0 0,.int .i64 0] 280)=w0 at *
 generalize hbw:w.heap.size=bw at *
 have HBW:=Lib.hid hbw
 clear hbw
 go_upto_region 2 with (go_at_call 251;refine CT.mono ?_;rintro e w1 ⟨rfl,hb1⟩)
 clear CT
 have RV1:=RV w1
 clear RV
 go_upto_region 3 with (go_at_call 252;refine RV1.mono ?_;rintro e w2 ⟨A,c,rfl,ho2,hb2⟩)
 have hb12:=hb1.trans (hb2.mono hb1.size)
 have NB2:=NB w2 (HT.out.below hb12)
 clear RV1 NB
 go_wp2_with (first | (go_at_call 253;refine NB2.mono ?_;rintro e w3 ⟨rfl,hb3⟩) | (with_reducible refine zat 280 ?_))
 have hb13:=hb12.trans (hb3.mono hb12.size)
 have k9:=blk hb13 k0
 have HO:=Lib.hid (zbe (zag ho2 hb3))
 have ho3:=zag ho2 hb3
 clear NB2 ho2
 generalize hnn:(zi9 a).length=n at *
 have HNN:=Lib.hid hnn
 clear hnn
 unfold Stp
 refine wpList_store_row rfl 280 _ _ rfl bw #[.slice A n c,.int .i64 cnt] rfl rfl 280 _ k9 (by kernel_rfl) rfl (by kernel_rfl) ?_
 have kr:=setRow_heap w3 bw _ #[.slice A n c,.int .i64 cnt] 280 (0,0) k9
 have hbr:Below bw w (w3.setRow bw #[.slice A n c,.int .i64 cnt]):=below_setRow (HB.out.trans (hb13.mono (by omega))) (Nat.le_refl _) _
 have HO9:=Lib.hid (zbe (zar ho3 #[.slice A n c,.int .i64 cnt] (zbh ho3 (show bw<w1.heap.size by have:=hb1.size;omega))))
 clear ho3
 generalize w3.setRow bw #[.slice A n c,.int .i64 cnt]=w4 at *
 go_wp2
 obtain ⟨c0,c1⟩:_∧_:=zay kr
 refine bodyPost_ret (v:=.tuple #[.agg #[.slice A n c,.int .i64 cnt],.int .i64 0]) (by simp [results,Tryz.results203,go_sem,c0,c1]) rfl ⟨A,c,by rw [HNN.out],HO9.out,by rw [HBW.out];exact hbr⟩
end Go.Proofs.YtfdmeojcopkaoaaGreatDoor
namespace Go.Proofs.YtfdmeojcopkaoaaGreatDoor
open Go.RowKit
def mapAt (w:World) (m:Nat) (es:Array MapEntry) (c:Nat):World:={ w with heap:=w.heap.setIfInBounds m (.map es c) }
theorem zdz (w:World) (m k:Nat) (es:Array MapEntry) (c:Nat) (h:k≠m):(mapAt w m es c).heap[k]?=w.heap[k]?:=by
 simp only [mapAt]
 rw [Array.getElem?_setIfInBounds_ne (Ne.symm h)]
theorem mapAt_self (w:World) (m:Nat) (es es0:Array MapEntry) (c c0:Nat) (h:w.heap[m]?=some (.map es0 c0)):(mapAt w m es c).heap[m]?=some (.map es c):=by
 have hlt:m<w.heap.size:=by
  rcases Nat.lt_or_ge m w.heap.size with h' | h'
  · exact h'
  · rw [Array.getElem?_eq_none h'] at h;cases h
 simp only [mapAt]
 rw [Array.getElem?_setIfInBounds_self_of_lt hlt]
theorem zf6 {B:Nat} {a w:World} (h:Below B a w) {m:Nat} (hm:B≤m) (es:Array MapEntry) (c:Nat):Below B a (mapAt w m es c):=
 h.trans ⟨rfl,rfl,rfl,by simp [mapAt],fun k hk=>zdz w m k es c (by omega)⟩
theorem K64.mapAt {w:World} {m:Nat} {es0 es:Array MapEntry} {c0 c:Nat} (hm:w.heap[m]?=some (.map es0 c0)):K64 w (mapAt w m es c):=fun k cs hk =>
 (zdz w m k es c (fun e=>by rw [e,hm] at hk;cases hk)).trans hk
theorem zfs (w:World) (m:Nat) (i:Int) (v:Value) (h:w.heap[m]?=some (.map #[] 0)) :
 (Instr.mapUpdate 135 (.map (some m)) (.int .i64 i) v).run Tryz.prog w=.ok () (mapAt w m #[⟨.int .i64 i,v,0⟩] 1):=by
 have hf:Instr.findNow (.int .i64) (.int .i64 i) ([]:List MapEntry) 0=some none:=rfl
 have hc:(Instr.checkKey false 10000 3 (.int .i64 i)).run Tryz.prog w=.ok () w:=MapKept.run_checkKey (k:=.int .i64 i) Tryz.underlying3 (by simp [MapKept.IsKey]) false 9999
 simp [Instr.mapUpdate,run_underlying Tryz.underlying135,MapKept.run_getObj_map h,hc,MapKept.run_findKey Tryz.underlying3 hf,MapKept.run_setObj_map _ h,Result.andThen,mapAt]
theorem zkm {t e:TypeId} (ht:Tryz.prog.underlying t=some (.map 3 e)) {w:World} {m:Nat} {es:Array MapEntry} {c:Nat} (h:w.heap[m]?=some (.map es c)) (i:Int) {z:Value} (hz:(zeroValue e).run Tryz.prog w=.ok z w) (hf:Instr.findNow (.int .i64) (.int .i64 i) es.toList 0=some none) :
 (Instr.lookup t (.map (some m)) (.int .i64 i) true).run Tryz.prog w=.ok (.tuple #[z,.bool false]) w:=by
 have hc:(Instr.checkKey es.isEmpty 10000 3 (.int .i64 i)).run Tryz.prog w=.ok () w:=MapKept.run_checkKey (k:=.int .i64 i) Tryz.underlying3 (by simp [MapKept.IsKey]) _ 9999
 simp [Instr.lookup,run_underlying ht,MapKept.run_getObj_map h,hc,MapKept.run_findKey Tryz.underlying3 hf,Result.andThen,hz]
theorem run_look1 {t e:TypeId} (ht:Tryz.prog.underlying t=some (.map 3 e)) {w:World} {m:Nat} {es:Array MapEntry} {c:Nat} (h:w.heap[m]?=some (.map es c)) (i:Int) {j:Nat} {v:Value} (hf:Instr.findNow (.int .i64) (.int .i64 i) es.toList 0=some (some (j,v))) :
 (Instr.lookup t (.map (some m)) (.int .i64 i) true).run Tryz.prog w=.ok (.tuple #[v,.bool true]) w:=by
 have hc:(Instr.checkKey es.isEmpty 10000 3 (.int .i64 i)).run Tryz.prog w=.ok () w:=MapKept.run_checkKey (k:=.int .i64 i) Tryz.underlying3 (by simp [MapKept.IsKey]) _ 9999
 simp [Instr.lookup,run_underlying ht,MapKept.run_getObj_map h,hc,MapKept.run_findKey Tryz.underlying3 hf,Result.andThen]
theorem BkAt.mapped {w:World} {x b:Nat} {V:BookV} (h:BkAt w x b V) (p:PlV):BkAt (mapAt w V.mp #[⟨.int .i64 p.train,.agg #[.int .i64 p.train,.int .i64 p.day,.int .i64 p.lo,.int .i64 p.hi],0⟩] 1) x b { V with pl:=some p }:=by
 obtain ⟨m0,c0,hm⟩:=plObj_map V.pl
 have hpl:=h.r.pl
 rw [hm] at hpl
 have hk:∀ (k:Nat) (cs:Array Value) (t:Nat),w.heap[k]?=some (.cells cs t (0,0))→(mapAt w V.mp #[⟨.int .i64 p.train,.agg #[.int .i64 p.train,.int .i64 p.day,.int .i64 p.lo,.int .i64 p.hi],0⟩] 1).heap[k]?=w.heap[k]?:=fun k cs t hc=>zdz _ _ _ _ _ (fun e=>by rw [e,hpl] at hc;cases hc)
 refine ⟨(hk _ _ _ h.blk).trans h.blk,h.xb,⟨h.log.1,zbj h.log.2 fun k cur hc=>hk k _ _ hc⟩,⟨h.r.house.belowC (zf6 (Below.refl _ _) h.r.ne.1 _ _),h.r.lk.other fun k t cur _ hc=>hk k _ _ hc,?_,?_,?_,h.r.ne,h.r.wk.1,zbj h.r.wk.2 fun k cur hc=>hk k _ _ hc⟩⟩
 · exact mapAt_self _ _ _ _ _ _ hpl
 · exact (zdz _ _ _ _ _ (Ne.symm h.r.ne.2.2.2.1)).trans h.r.rn
 · exact (zdz _ _ _ _ _ (Ne.symm h.r.ne.2.2.2.2)).trans h.r.se
theorem read_ok (w:World) (x b:Nat) (V:BookV) (h:BkAt w x b V) (hS:HouseS V.h) (ht:TxtAt w) (hxw:x≤w.heap.size) (hpl:V.pl=none) (A:Option Addr) (c B:Nat) (s r:ByteArray) (hr:Rd w B A (strCells [s,r])) (i:Int) (hi:idxT V.h.plant.trains s=i) (h0:0≤i)
 (hs:r.size≤1000) (a bt:ByteArray) (tt:Bool) (cnt:Int) (hcut:Lib.cut r.data.toList (⟨#[32]⟩:ByteArray).data.toList=(a.data.toList,bt.data.toList,tt)) (ha0:0<a.size) (ha1:a.size≤12) (hv:a.data.toList.all vanB=true) (hb:bt.size≤1000) (hn:numL bt.data.toList 4=some cnt) (hc0:0≤cnt)
 (hO:VanOk V.h.vanes) (hE:zg5 V.h.vanes (zi9 a)=0) (hcc:zai cnt 0 (V.h.vanes.modulus - 1)=true) (g:Rg) (hg:posL V.h.vanes cnt (zih V.h.vanes (zi9 a))=[g]) :
 Calls Tryz.prog 173 #[.pointer (some ⟨b,0,none⟩),.slice A 2 c] w (DoPost w x b { V with pl:=some ⟨i,V.day,g.1,g.2⟩ }):=by
 have TR:=zh3 w x b V h hS s
 rw [hi] at TR
 obtain ⟨hh,lg,log,day,q,mp,pl,mr,ms,se,wk,works⟩:=V
 simp only at hpl hO hE hcc hg hS ⊢
 subst hpl
 have PR:=zi3 r a bt tt cnt hs hcut ha0 (by omega) hv hb hn hc0 w ht
 have hva:(zi9 a).length=a.size:=by simp [zi9]
 obtain ⟨m,hm⟩:∃ m,(zi9 a).length=m:=⟨_,rfl⟩
 have hm12:m≤12:=by omega
 have PO:=fun (W:World) (A2:Option Addr) (c2:Nat) (hW:HouseAt W x hh) (hxW:x≤W.heap.size) (hrW:Rd W W.heap.size A2 (zah (zi9 a)))=>PlaceOf_ok W x hh.vanes A2 m c2 (zi9 a) cnt g hW.vanes hxW hO hm hm12 hrW hE hcc hg
 rw [hm] at PR
 obtain ⟨sb,so,rfl,hsb,z0⟩:=hr.at_ (k:=0) (u:=.string s) rfl
 have z1:=zbz hr (k:=1) (u:=.string r) rfl
 rw [Nat.add_zero] at z0
 have HH:=Lib.hid h
 have HM:=Lib.hid hm
 clear hr h hi hs hcut ha0 ha1 hv hb hn hc0 hva hm
 go_enter Tryz.func173,Tryz.ntmps173
 go_upto_region 2 with (go_at_call 141;refine TR.mono ?_;rintro e w' ⟨rfl,rfl⟩)
 have hneg:¬ i<0:=by omega
 go_wp2_with (first | (go_at_call 203;refine PR.mono ?_;rintro e w1 ⟨A3,c3,rfl,hr3,hb1⟩) | (with_reducible refine zat 280 ?_))
 have hba:=hB1 w1 (.cells #[.slice none 0 0,.int .i64 0] 280)
 have k3:=hA1 w1 (.cells #[.slice none 0 0,.int .i64 0] 280)
 unfold Stp
 refine wpList_store_row rfl 280 _ _ rfl w1.heap.size #[.slice A3 m c3,.int .i64 cnt] rfl rfl 280 _ k3 (by kernel_rfl) rfl (by kernel_rfl) ?_
 have k4:=setRow_heap _ w1.heap.size _ #[.slice A3 m c3,.int .i64 cnt] 280 (0,0) k3
 have hb14:Below w1.heap.size w1 ((w1.alloc (.cells #[.slice none 0 0,.int .i64 0] 280)).setRow w1.heap.size #[.slice A3 m c3,.int .i64 cnt]):=below_setRow hba (Nat.le_refl _) _
 have hb4:=hb1.trans (hb14.mono hb1.size)
 have hr4:=(hr3.keep hb14).mono hb14.size
 clear k3 hba PR
 go_upto_region 5 with (fail)
 generalize (w1.alloc (.cells #[.slice none 0 0,.int .i64 0] 280)).setRow w1.heap.size #[.slice A3 m c3,.int .i64 cnt]=w2 at *
 generalize w1.heap.size=y at *
 have H2:=HH.out.keep hb4
 clear TR z0 z1
 go_upto_region 7 with (fail)
 obtain ⟨e0,e1⟩:_∧_:=zay k4
 have d0:=H2.house 7 (u:=hh.vanes.vs.v) rfl
 have d1:=H2.house 8 (u:=.int .i64 hh.vanes.window) rfl
 have d2:=H2.house 9 (u:=.int .i64 hh.vanes.tooth) rfl
 have d3:=H2.house 10 (u:=.int .i64 hh.vanes.per) rfl
 have d4:=H2.house 11 (u:=.int .i64 hh.vanes.first) rfl
 have d5:=H2.house 12 (u:=.int .i64 hh.vanes.modulus) rfl
 have d6:=H2.house 13 (u:=.int .i64 hh.vanes.slack) rfl
 have d7:=H2.house 14 (u:=.int .i64 hh.vanes.errors) rfl
 have d8:=H2.house 15 (u:=.bool hh.vanes.round) rfl
 have x0:=fun y:Xt w2=>y.cell d0
 have x1:=fun y:Xt w2=>y.cell d1
 have x2:=fun y:Xt w2=>y.cell d2
 have x3:=fun y:Xt w2=>y.cell d3
 have x4:=fun y:Xt w2=>y.cell d4
 have x5:=fun y:Xt w2=>y.cell d5
 have x6:=fun y:Xt w2=>y.cell d6
 have x7:=fun y:Xt w2=>y.cell d7
 have x8:=fun y:Xt w2=>y.cell d8
 have x9:=fun y:Xt w2=>y.cell e0
 have xa:=fun y:Xt w2=>y.cell e1
 refine zaj [12] (fun w'=>∃ y:Xt w2,w'=y.1) (by kernel_rfl) ⟨⟨w2.drew,(Below.refl _ _).drew⟩,rfl⟩ ?_
 refine zao [0,1,2,3,4,5] 7 rfl (by kernel_rfl) ?_
 simp only [zad,zac,zaa,zX1,zX2,zX3]
 repeat (go_big_quiet_step (fail))
 refine wpQuiet_nil ?_
 have hbd:Below w2.heap.size w2 w2.drew:=(Below.refl _ _).drew
 show wpE _ _ _ _ _ _ _ _ _ w2.drew
 generalize w2.drew=wd at *
 clear x0 x1 x2 x3 x4 x5 x6 x7 x8 x9 xa e0 e1 d0 d1 d2 d3 d4 d5 d6 d7 d8
 have VV:=(za6 hh.vanes)
 have PO1:=PO wd A3 c3 ((H2.keep hbd).r.house) (by have:=hbd.size;have:=hb4.size;omega) ((hr4.keep hbd).mono hbd.size)
 change Calls Tryz.prog 204 #[.agg #[hh.vanes.vs.v,.int .i64 hh.vanes.window,.int .i64 hh.vanes.tooth,.int .i64 hh.vanes.per,.int .i64 hh.vanes.first,.int .i64 hh.vanes.modulus,.int .i64 hh.vanes.slack,.int .i64 hh.vanes.errors,.bool hh.vanes.round],.agg #[.slice A3 m c3,.int .i64 cnt]] wd _ at PO1
 have hba:=hB1 wd (.cells #[.int .i64 0,.int .i64 0] 188)
 have PO2:=PO (wd.alloc (.cells #[.int .i64 0,.int .i64 0] 188)) A3 c3 (((H2.keep hbd).keep hba).r.house) (by have:=hbd.size;have:=hb4.size;have:=hba.size;omega) (((hr4.keep hbd).keep hba).mono (Nat.le_trans hbd.size hba.size))
 change Calls Tryz.prog 204 #[.agg #[hh.vanes.vs.v,.int .i64 hh.vanes.window,.int .i64 hh.vanes.tooth,.int .i64 hh.vanes.per,.int .i64 hh.vanes.first,.int .i64 hh.vanes.modulus,.int .i64 hh.vanes.slack,.int .i64 hh.vanes.errors,.bool hh.vanes.round],.agg #[.slice A3 m c3,.int .i64 cnt]] (wd.alloc (.cells #[.int .i64 0,.int .i64 0] 188)) _ at PO2
 clear PO VV
 refine zka (i:=6) (k:=10) rfl (by kernel_rfl) rfl rfl ?_ ?_
 all_goals unfold zap
 all_goals simp only [zad,zac,zaa,zX1,zX2,zX3]
 · go_wp2_with (go_at_call 204;refine PO1.mono ?_;rintro e w5 ⟨rfl,hb5⟩)
   have hbe:=hbd.trans (hb5.mono hbd.size)
   refine zab ⟨⟨⟨_,hbe⟩,rfl⟩,?_⟩
   refine zao [7,8,9] 3 rfl (by kernel_rfl) ?_
   simp only [zad,zac,zaa,zX1,zX2,zX3]
   repeat (go_big_quiet_step (fail))
   refine wpQuiet_nil ?_
   have hbn:=hB1 w5 (.cells #[.int .i64 0,.int .i64 0] 188)
   have k5:=hA1 w5 (.cells #[.int .i64 0,.int .i64 0] 188)
   have hbf:=hbe.trans (hbn.mono hbe.size)
   refine zak (i:=10) rfl (by kernel_rfl) rfl ?_
   unfold zap
   simp only [zad,zac,zaa,zX1,zX2,zX3]
   go_wp2
   refine zab ⟨⟨⟨_,hbf⟩,rfl⟩,?_⟩
   refine zak (i:=11) rfl (by kernel_rfl) rfl ?_
   unfold zap
   simp only [zad,zac,zaa,zX1,zX2,zX3]
   refine wpList_store_row rfl 188 _ _ rfl (w5.heap.size) #[.int .i64 g.1,.int .i64 g.2] rfl rfl 188 _ k5 (by kernel_rfl) rfl (by kernel_rfl) ?_
   have k6:=setRow_heap (w5.alloc (.cells #[.int .i64 0,.int .i64 0] 188)) (w5.heap.size) _ #[.int .i64 g.1,.int .i64 g.2] 188 (0,0) k5
   have hbz:Below w2.heap.size w2 ((w5.alloc (.cells #[.int .i64 0,.int .i64 0] 188)).setRow (w5.heap.size) #[.int .i64 g.1,.int .i64 g.2]):=below_setRow hbf hbe.size _
   generalize hyy:(w5.heap.size)=y2 at *
   clear hyy
   generalize (w5.alloc (.cells #[.int .i64 0,.int .i64 0] 188)).setRow y2 #[.int .i64 g.1,.int .i64 g.2]=wz at *
   go_wp2
   refine zab ⟨⟨⟨_,hbz⟩,rfl⟩,?_⟩
   refine zau rfl (by kernel_rfl) ?_
   simp only [zad,zac,zaa,zX1,zX2,zX3]
   have HBZ:=Lib.hid (hb4.trans (hbz.mono hb4.size))
   have H9:=H2.keep hbz
   clear hbz hbf k5
   go_wp2
   refine zab ?_
   go_upto_region 9 with (fail)
   obtain ⟨e0,e1⟩:_∧_:=zay k6
   have d31:=H9.cell (i:=31) (u:=.map (some mp)) rfl
   have d26:=H9.cell (i:=26) (u:=.int .i64 day) rfl
   have x0:=fun y:Xt wz=>y.cell e0
   have x1:=fun y:Xt wz=>y.cell e1
   have x2:=fun y:Xt wz=>y.cell d31
   have x3:=fun y:Xt wz=>y.cell d26
   refine zaj [12] (fun w'=>∃ y:Xt wz,w'=y.1) (by kernel_rfl) ⟨⟨wz.drew,(Below.refl _ _).drew⟩,rfl⟩ ?_
   refine zao [0,1,2,3,4,5,6,7,8,9,10] 2 rfl (by kernel_rfl) ?_
   simp only [zad,zac,zaa,zX1,zX2,zX3]
   repeat (go_big_quiet_step (fail))
   refine wpQuiet_nil ?_
   have hbv:Below wz.heap.size wz wz.drew:=(Below.refl _ _).drew
   show wpE _ _ _ _ _ _ _ _ _ wz.drew
   generalize wz.drew=wv at *
   clear x0 x1 x2 x3 e0 e1 d31 d26
   have H10:=H9.keep hbv
   have hmu:=zfs wv mp i (.agg #[.int .i64 i,.int .i64 day,.int .i64 g.1,.int .i64 g.2]) H10.r.pl
   have HM9:=Lib.hid (H10.mapped ⟨i,day,g.1,g.2⟩)
   have HK9:=Lib.hid ((K64.below (HBZ.out.trans (hbv.mono HBZ.out.size))).trans (K64.mapAt H10.r.pl (es:=#[⟨.int .i64 i,.agg #[.int .i64 i,.int .i64 day,.int .i64 g.1,.int .i64 g.2],0⟩]) (c:=1)))
   have HBV:=Lib.hid (zf6 ((HBZ.out.trans (hbv.mono HBZ.out.size)).mono hxw) H10.r.ne.1 #[⟨.int .i64 i,.agg #[.int .i64 i,.int .i64 day,.int .i64 g.1,.int .i64 g.2],0⟩] 1)
   clear H10
   refine zak (i:=11) rfl (by kernel_rfl) rfl ?_
   unfold zap
   simp only [zad,zac,zaa,zX1,zX2,zX3]
   go_wp2
   refine zab ⟨⟨⟨_,hbv⟩,rfl⟩,?_⟩
   refine zau rfl (by kernel_rfl) ?_
   simp only [zad,zac,zaa,zX1,zX2,zX3]
   clear hbv
   go_wp2
   refine zab ?_
   go_wp2
   go_ret
   exact ⟨rfl,HM9.out,HBV.out,HK9.out⟩
 · go_wp2
   have k5:=hA1 wd (.cells #[.int .i64 0,.int .i64 0] 188)
   have hbg:=hbd.trans (hba.mono hbd.size)
   refine zab ⟨⟨⟨_,hbg⟩,rfl⟩,?_⟩
   refine zak (i:=6) rfl (by kernel_rfl) rfl ?_
   unfold zap
   simp only [zad,zac,zaa,zX1,zX2,zX3]
   go_wp2_with (go_at_call 204;refine PO2.mono ?_;rintro e w5 ⟨rfl,hb5⟩)
   have hbf:=hbg.trans (hb5.mono hbg.size)
   replace k5:=zcd hb5 k5
   refine zab ⟨⟨⟨_,hbf⟩,rfl⟩,?_⟩
   refine zao [7,8,9] 2 rfl (by kernel_rfl) ?_
   simp only [zad,zac,zaa,zX1,zX2,zX3]
   repeat (go_big_quiet_step (fail))
   refine wpQuiet_nil ?_
   refine zak (i:=11) rfl (by kernel_rfl) rfl ?_
   unfold zap
   simp only [zad,zac,zaa,zX1,zX2,zX3]
   refine wpList_store_row rfl 188 _ _ rfl (wd.heap.size) #[.int .i64 g.1,.int .i64 g.2] rfl rfl 188 _ k5 (by kernel_rfl) rfl (by kernel_rfl) ?_
   have k6:=setRow_heap w5 (wd.heap.size) _ #[.int .i64 g.1,.int .i64 g.2] 188 (0,0) k5
   have hbz:Below w2.heap.size w2 (w5.setRow (wd.heap.size) #[.int .i64 g.1,.int .i64 g.2]):=below_setRow hbf hbd.size _
   generalize hyy:(wd.heap.size)=y2 at *
   clear hyy
   generalize w5.setRow y2 #[.int .i64 g.1,.int .i64 g.2]=wz at *
   go_wp2
   refine zab ⟨⟨⟨_,hbz⟩,rfl⟩,?_⟩
   refine zau rfl (by kernel_rfl) ?_
   simp only [zad,zac,zaa,zX1,zX2,zX3]
   have HBZ:=Lib.hid (hb4.trans (hbz.mono hb4.size))
   have H9:=H2.keep hbz
   clear hbz hbf k5
   go_wp2
   refine zab ?_
   go_upto_region 9 with (fail)
   obtain ⟨e0,e1⟩:_∧_:=zay k6
   have d31:=H9.cell (i:=31) (u:=.map (some mp)) rfl
   have d26:=H9.cell (i:=26) (u:=.int .i64 day) rfl
   have x0:=fun y:Xt wz=>y.cell e0
   have x1:=fun y:Xt wz=>y.cell e1
   have x2:=fun y:Xt wz=>y.cell d31
   have x3:=fun y:Xt wz=>y.cell d26
   refine zaj [12] (fun w'=>∃ y:Xt wz,w'=y.1) (by kernel_rfl) ⟨⟨wz.drew,(Below.refl _ _).drew⟩,rfl⟩ ?_
   refine zao [0,1,2,3,4,5,6,7,8,9,10] 2 rfl (by kernel_rfl) ?_
   simp only [zad,zac,zaa,zX1,zX2,zX3]
   repeat (go_big_quiet_step (fail))
   refine wpQuiet_nil ?_
   have hbv:Below wz.heap.size wz wz.drew:=(Below.refl _ _).drew
   show wpE _ _ _ _ _ _ _ _ _ wz.drew
   generalize wz.drew=wv at *
   clear x0 x1 x2 x3 e0 e1 d31 d26
   have H10:=H9.keep hbv
   have hmu:=zfs wv mp i (.agg #[.int .i64 i,.int .i64 day,.int .i64 g.1,.int .i64 g.2]) H10.r.pl
   have HM9:=Lib.hid (H10.mapped ⟨i,day,g.1,g.2⟩)
   have HK9:=Lib.hid ((K64.below (HBZ.out.trans (hbv.mono HBZ.out.size))).trans (K64.mapAt H10.r.pl (es:=#[⟨.int .i64 i,.agg #[.int .i64 i,.int .i64 day,.int .i64 g.1,.int .i64 g.2],0⟩]) (c:=1)))
   have HBV:=Lib.hid (zf6 ((HBZ.out.trans (hbv.mono HBZ.out.size)).mono hxw) H10.r.ne.1 #[⟨.int .i64 i,.agg #[.int .i64 i,.int .i64 day,.int .i64 g.1,.int .i64 g.2],0⟩] 1)
   clear H10
   refine zak (i:=11) rfl (by kernel_rfl) rfl ?_
   unfold zap
   simp only [zad,zac,zaa,zX1,zX2,zX3]
   go_wp2
   refine zab ⟨⟨⟨_,hbv⟩,rfl⟩,?_⟩
   refine zau rfl (by kernel_rfl) ?_
   simp only [zad,zac,zaa,zX1,zX2,zX3]
   clear hbv
   go_wp2
   refine zab ?_
   go_wp2
   go_ret
   exact ⟨rfl,HM9.out,HBV.out,HK9.out⟩
end Go.Proofs.YtfdmeojcopkaoaaGreatDoor
namespace Go.Proofs.YtfdmeojcopkaoaaGreatDoor
open Go.RowKit
theorem zeh (y:Sw) (by_ tx:ByteArray) (q:Nat) (w:World) (hq:w.heap[q]?=some (.cells #[.string by_,.string tx] 64 (0,0))) :
 Calls Tryz.prog 145 #[.agg #[.string y.1,.int .i64 y.2],.pointer (some ⟨q,0,none⟩)] w fun e w'=>e=.returned (.bool (decide (y.1=by_)))∧Below w.heap.size w w':=by
 have hb0:=hB1 w (.cells #[.string y.1,.int .i64 y.2] 77)
 have k0:=hA1 w (.cells #[.string y.1,.int .i64 y.2] 77)
 have hq0:=zcd hb0 hq
 have HB:=Lib.hid hb0
 have HE:Hid ((y.1.toList == by_.toList)=decide (y.1=by_)):=eqT
 clear hb0 hq
 go_enter Tryz.func145,Tryz.ntmps145
 go_upto_region 1 with (fail)
 generalize w.alloc (.cells #[.string y.1,.int .i64 y.2] 77)=w0 at *
 generalize hbw:w.heap.size=bw at *
 have HBW:=Lib.hid hbw
 clear hbw
 obtain ⟨c0,c1⟩:_∧_:=zay k0
 obtain ⟨d0,d1⟩:_∧_:=zay hq0
 clear k0 hq0 c1 d1
 go_wp2
 go_ret
 exact ⟨by rw [← HE.out];rfl,by rw [HBW.out];exact HB.out⟩
end Go.Proofs.YtfdmeojcopkaoaaGreatDoor
