import Derived.Test.YtoodbfkbbchjiaaGreatDoorf3B7
import Derived.Test.YtoodbfkbbchjiaaGreatDoorf3Q5
import Derived.Test.YtoodbfkbbchjiaaGreatDoorf3M4
import Derived.Test.YtoodbfkbbchjiaaGreatDoorf3S3
import Derived.Test.YtoodbfkbbchjiaaGreatDoorf3K4
import Derived.Test.YtoodbfkbbchjiaaGreatDoorf3M7
set_option maxRecDepth 100000
set_option maxHeartbeats 16000000
namespace Go.Proofs.YtoodbfkbbchjiaaGreatDoor
open Go.RowKit
def hK (n:Nat):HouseV where
 plant:=⟨⟨some ⟨n+1,0,none⟩,3,3⟩,[⟨#[97]⟩,⟨#[98]⟩,⟨#[99]⟩],⟨some ⟨n+2,0,none⟩,2,2⟩,[⟨#[116]⟩,⟨#[117]⟩],⟨some ⟨n+3,0,none⟩,1,1⟩,[(⟨#[119]⟩,0)],⟨some ⟨n+10,0,none⟩,3,3⟩,[⟨⟨#[97,98]⟩,⟨some ⟨n+4,0,none⟩,2,2⟩,[0,1],⟨some ⟨n+5,0,none⟩,1,1⟩,[0]⟩,⟨⟨#[97,99]⟩,⟨some ⟨n+6,0,none⟩,2,2⟩,[0,2],⟨some ⟨n+7,0,none⟩,1,1⟩,[1]⟩,⟨⟨#[98,99]⟩,⟨some ⟨n+8,0,none⟩,2,2⟩,[1,2],⟨some ⟨n+9,0,none⟩,1,1⟩,[-1]⟩]⟩
 net:=⟨⟨some ⟨n+11,0,none⟩,1,1⟩,[(⟨#[115]⟩,3000,false)],⟨some ⟨n+12,0,none⟩,1,1⟩,[⟨0,-1,1000,0⟩],⟨some ⟨n+14,0,none⟩,1,1⟩,[⟨⟨#[116]⟩,0,5,⟨some ⟨n+13,0,none⟩,1,1⟩,[(0,2000)]⟩]⟩
 vanes:=⟨⟨some ⟨n+15,0,none⟩,7,7⟩,[0,0,1,1,1,0,1],3,100,2,1000,5,0,0,true⟩
 tn:=⟨#[116]⟩
 ps:=⟨some ⟨n+16,0,none⟩,4,4⟩
 pcs:=[⟨100,0,10000,false⟩,⟨100,0,8000,true⟩,⟨50,-10,10000,false⟩,⟨200,0,10000,true⟩]
 sys:=⟨100,10,50⟩
 es:=⟨some ⟨n+17,0,none⟩,4,4⟩
 evs:=[⟨#[97]⟩,⟨#[98]⟩,⟨#[99]⟩,⟨#[100]⟩]
 acs:=⟨some ⟨n+18,0,none⟩,4,4⟩
 acts:=[⟨0,0,1,10,20,0⟩,⟨1,1,2,5,-1,0⟩,⟨2,2,3,3,-1,4⟩,⟨3,0,3,30,40,0⟩]
 ms:=⟨some ⟨n+19,0,none⟩,3,3⟩
 masts:=[⟨#[109]⟩,⟨#[110]⟩,⟨#[111]⟩]
 pp:=⟨some ⟨n+20,0,none⟩,2,2⟩
 people:=[(⟨#[97,110,110]⟩,3),(⟨#[98,111,98]⟩,0)]
def zfu (w:World) (l:List Obj):World:=l.foldl (fun w o=>w.alloc o) w
theorem zk2:∀ (l:List Obj) (w:World) (k:Nat),k<w.heap.size→(zfu w l).heap[k]?=w.heap[k]?
 | [],_,_,_=>rfl
 | o :: l,w,k,h=>by
  have:=zk2 l (w.alloc o) k (by simp;omega)
  simp only [zfu,List.foldl_cons] at this ⊢
  rw [this,zae,if_neg (by omega)]
theorem zg9:∀ (l:List Obj) (w:World) (i:Nat) (o:Obj),l[i]?=some o→(zfu w l).heap[w.heap.size+i]?=some o
 | [],_,_,_,h=>by simp at h
 | o :: l,w,0,o',h=>by
  obtain rfl:o=o':=by simpa using h
  have:=zk2 l (w.alloc o) w.heap.size (by simp)
  simp only [zfu,List.foldl_cons,Nat.add_zero] at this ⊢
  rw [this,zae,if_pos rfl]
 | o :: l,w,i+1,o',h=>by
  have:=zg9 l (w.alloc o) i o' (by simpa using h)
  simp only [zfu,List.foldl_cons] at this ⊢
  rw [show w.heap.size+(i+1)=(w.alloc o).heap.size+i by simp;omega]
  exact this
theorem zic:∀ (l:List Obj) (w:World),Below w.heap.size w (zfu w l)
 | [],_=>Below.refl _ _
 | o :: l,w=>((Below.refl w.heap.size w).alloc (Nat.le_refl _) o).trans ((zic l (w.alloc o)).mono (by simp))
def zdp (n:Nat):List Obj:=[.cells #[.slice none 0 0,.slice none 0 0,.slice none 0 0,.slice none 0 0,.slice none 0 0,.slice none 0 0,.slice none 0 0,.slice none 0 0,.int .i64 0,.int .i64 0,.int .i64 0,.int .i64 0,.int .i64 0,.int .i64 0,.int .i64 0,.bool false,.string ⟨#[]⟩,.slice none 0 0,.int .i64 0,.int .i64 0,.int .i64 0,.slice none 0 0,.slice none 0 0,.slice none 0 0,.slice none 0 0] 45,
 .cells #[.string ⟨#[97]⟩,.string ⟨#[98]⟩,.string ⟨#[99]⟩] 9,
 .cells #[.string ⟨#[116]⟩,.string ⟨#[117]⟩] 9,
 .cells #[.string ⟨#[119]⟩,.int .i64 0] 76,
 .cells #[.int .i64 0,.int .i64 1] 3,
 .cells #[.int .i64 0] 3,
 .cells #[.int .i64 0,.int .i64 2] 3,
 .cells #[.int .i64 1] 3,
 .cells #[.int .i64 1,.int .i64 2] 3,
 .cells #[.int .i64 (-1)] 3,
 .cells #[.string ⟨#[97,98]⟩,.slice (some ⟨n+4,0,none⟩) 2 2,.slice (some ⟨n+5,0,none⟩) 1 1,.string ⟨#[97,99]⟩,.slice (some ⟨n+6,0,none⟩) 2 2,.slice (some ⟨n+7,0,none⟩) 1 1,.string ⟨#[98,99]⟩,.slice (some ⟨n+8,0,none⟩) 2 2,.slice (some ⟨n+9,0,none⟩) 1 1] 78,
 .cells #[.string ⟨#[115]⟩,.int .i64 3000,.bool false] 80,
 .cells #[.int .i64 0,.int .i64 (-1),.int .i64 1000,.int .i64 0] 116,
 .cells #[.int .i64 0,.int .i64 2000] 118,
 .cells #[.string ⟨#[116]⟩,.int .i64 0,.int .i64 5,.slice (some ⟨n+13,0,none⟩) 1 1] 83,
 .cells #[.int .i64 0,.int .i64 0,.int .i64 1,.int .i64 1,.int .i64 1,.int .i64 0,.int .i64 1] 3,
 .cells #[.int .i64 100,.int .i64 0,.int .i64 10000,.bool false,.int .i64 100,.int .i64 0,.int .i64 8000,.bool true,.int .i64 50,.int .i64 (-10),.int .i64 10000,.bool false,.int .i64 200,.int .i64 0,.int .i64 10000,.bool true] 120,
 .cells #[.string ⟨#[97]⟩,.string ⟨#[98]⟩,.string ⟨#[99]⟩,.string ⟨#[100]⟩] 9,
 .cells #[.int .i64 0,.int .i64 0,.int .i64 1,.int .i64 10,.int .i64 20,.int .i64 0,.int .i64 1,.int .i64 1,.int .i64 2,.int .i64 5,.int .i64 (-1),.int .i64 0,.int .i64 2,.int .i64 2,.int .i64 3,.int .i64 3,.int .i64 (-1),.int .i64 4,.int .i64 3,.int .i64 0,.int .i64 3,.int .i64 30,.int .i64 40,.int .i64 0] 122,
 .cells #[.string ⟨#[109]⟩,.string ⟨#[110]⟩,.string ⟨#[111]⟩] 9,
 .cells #[.string ⟨#[97,110,110]⟩,.int .i64 3,.string ⟨#[98,111,98]⟩,.int .i64 0] 53]
theorem houseK_err (n:Nat):zcg (hK n)=(0,0,0):=by kernel_rfl
theorem zfm (n:Nat):zb7 (hK n).plant=0:=by kernel_rfl
theorem zbg (n:Nat):HouseS (hK n):=by
 refine ⟨⟨?_,?_,?_,?_⟩,⟨?_,?_,?_⟩,?_,?_,?_,?_,?_,?_,?_⟩ <;> simp [hK] <;> decide
theorem houseK_at (w:World) (n:Nat) (hF:∀ (i:Nat) (o:Obj),0<i→(zdp n)[i]?=some o→w.heap[n+i]?=some o):HouseAt w w.heap.size (hK n):=by
 have F:=fun (i:Nat) (hi:0<i) (cs:Array Value) (t:Nat) (h:(zdp n)[i]?=some (.cells cs t))=>zbq (hF i _ hi h)
 refine ⟨⟨⟨rfl,F 1 (by decide) _ _ rfl⟩,⟨rfl,F 2 (by decide) _ _ rfl⟩,⟨rfl,F 3 (by decide) _ _ rfl⟩,⟨rfl,F 10 (by decide) _ _ rfl⟩,?_,?_⟩,⟨⟨rfl,F 11 (by decide) _ _ rfl⟩,⟨rfl,F 12 (by decide) _ _ rfl⟩,⟨rfl,F 14 (by decide) _ _ rfl⟩,?_⟩,⟨rfl,F 15 (by decide) _ _ rfl⟩,⟨rfl,F 16 (by decide) _ _ rfl⟩,⟨rfl,F 17 (by decide) _ _ rfl⟩,⟨rfl,F 18 (by decide) _ _ rfl⟩,⟨rfl,F 19 (by decide) _ _ rfl⟩,⟨rfl,F 20 (by decide) _ _ rfl⟩,?_⟩
 · intro r hr
   simp only [hK,List.mem_cons,List.not_mem_nil,or_false] at hr
   rcases hr with rfl | rfl | rfl
   · exact ⟨⟨rfl,F 4 (by decide) _ _ rfl⟩,⟨rfl,F 5 (by decide) _ _ rfl⟩⟩
   · exact ⟨⟨rfl,F 6 (by decide) _ _ rfl⟩,⟨rfl,F 7 (by decide) _ _ rfl⟩⟩
   · exact ⟨⟨rfl,F 8 (by decide) _ _ rfl⟩,⟨rfl,F 9 (by decide) _ _ rfl⟩⟩
 · refine ⟨Nat.le_refl _,Nat.le_refl _,Nat.le_refl _,Nat.le_refl _,fun r hr=>?_⟩
   simp only [hK,List.mem_cons,List.not_mem_nil,or_false] at hr
   rcases hr with rfl | rfl | rfl <;> exact Nat.le_refl _
 · intro t ht
   simp only [hK,List.mem_cons,List.not_mem_nil,or_false] at ht
   subst ht
   exact ⟨rfl,F 13 (by decide) _ _ rfl⟩
 · exact ⟨Nat.le_refl _,Nat.le_refl _,Nat.le_refl _⟩
theorem zir (w:World):Calls Tryz.prog 16 #[] w fun e w'=>e=.returned (.agg (zah (hK w.heap.size)).toArray)∧HouseAt w' w'.heap.size (hK w.heap.size)∧Below w.heap.size w w':=by
 go_enter Tryz.func16,Tryz.ntmps16
 go_wp2_with (with_reducible refine zas 45 ?_)
 unfold Stp
 refine wpList_store_row rfl 45 _ _ rfl w.heap.size (zah (hK w.heap.size)).toArray rfl rfl 45 _ (zg9 (zdp w.heap.size) w 0 _ rfl) (by kernel_rfl) rfl (by kernel_rfl) ?_
 show wpList Tryz.prog _ _ [] _ ((zfu w (zdp w.heap.size)).setRow w.heap.size (zah (hK w.heap.size)).toArray)
 have k0:=setRow_heap (zfu w (zdp w.heap.size)) w.heap.size _ (zah (hK w.heap.size)).toArray 45 (0,0) (zg9 (zdp w.heap.size) w 0 _ rfl)
 have hbr:Below w.heap.size w ((zfu w (zdp w.heap.size)).setRow w.heap.size (zah (hK w.heap.size)).toArray):=below_setRow (zic _ w) (Nat.le_refl _) _
 have hH:=houseK_at ((zfu w (zdp w.heap.size)).setRow w.heap.size (zah (hK w.heap.size)).toArray) w.heap.size (fun i o hi ho=>(setRow_other _ _ _ _ (by omega)).trans (zg9 _ w i o ho))
 generalize (zfu w (zdp w.heap.size)).setRow w.heap.size (zah (hK w.heap.size)).toArray=W at *
 go_wp2
 refine bodyPost_ret (v:=.agg (zah (hK w.heap.size)).toArray) (results_cell_row rfl _ W w.heap.size 45 _ (0,0) _ rfl k0 Tryz.underlying45 rfl (by kernel_rfl)) rfl ⟨rfl,hH,hbr⟩
def HiRel (w0:World) (l:List Int) (s:Int) (k:Nat) (bt:Bool) (u:Value) (wr:World):Prop:=∃ j:Nat,j≤k∧u=.int .i64 j∧ze1 ((l.take k).drop j) s=bt∧Below w0.heap.size w0 wr
theorem zg6 (a s:Int) (l:List Int):ze1 (a :: l) s=((a == s) || ze1 l s):=by simp [ze1]
theorem hi_no {l:List Int} {s x:Int} {k j:Nat} {bt:Bool} (hj:j<k) (hx:l[j]?=some x) (he:(x == s)=false) (h:ze1 ((l.take k).drop j) s=bt):ze1 ((l.take k).drop (j+1)) s=bt:=by
 have h9:(l.take k)[j]?=some x:=by rw [List.getElem?_take];simp [hj,hx]
 rw [za9 h9,zg6,he,Bool.false_or] at h
 exact h
theorem hi_yes {l:List Int} {s x:Int} {k j:Nat} {bt:Bool} (hj:j<k) (hx:l[j]?=some x) (he:(x == s)=true) (h:ze1 ((l.take k).drop j) s=bt):bt=true:=by
 have h9:(l.take k)[j]?=some x:=by rw [List.getElem?_take];simp [hj,hx]
 rw [za9 h9,zg6,he,Bool.true_or] at h
 exact h.symm
theorem hi_end {l:List Int} {s:Int} {k j:Nat} {bt:Bool} (hj:¬ j<k) (h:ze1 ((l.take k).drop j) s=bt):bt=false:=by
 rw [List.drop_eq_nil_iff.2 (by rw [List.length_take];omega)] at h
 exact h.symm
theorem zlo (w:World) (B:Nat) (As At Aw Ar:Option Addr) (ns nt nw nr cs ct cw cr:Nat) (l:List Sw) (hl:l.length=nw) (hr:Rd w B Aw (zbl l)) (hB:B≤w.heap.size) (hn:nw≤1000) (hs:ns≤1000) (hz:∀ s∈l,s.1.size≤1000) (k:Nat) (x:Sw) (hk:l[k]?=some x) :
 Calls Tryz.prog 108 #[.agg #[.slice As ns cs,.slice At nt ct,.slice Aw nw cw,.slice Ar nr cr],.int .i64 k] w (zay w (swE ns (l.take k) x)):=by
 have hkl:k<l.length:=(List.getElem?_eq_some_iff.1 hk).1
 have hkn:k<nw:=by rw [← hl];exact hkl
 have hz9:=hz x (List.mem_of_getElem? hk)
 obtain ⟨s,i⟩:=x
 simp only at hz9
 obtain ⟨V,hV⟩:∃ V,swE ns (l.take k) (s,i)=V:=⟨_,rfl⟩
 rw [hV]
 obtain ⟨bn,hbn⟩:∃ b,za3 s=b:=⟨_,rfl⟩
 obtain ⟨bt,hbt⟩:∃ b,zcu ((l.take k).map (·.1)) s=b:=⟨_,rfl⟩
 obtain ⟨b1,hb1⟩:∃ b,zaj i 0 ((ns:Int) - 1)=b:=⟨_,rfl⟩
 obtain ⟨b2,hb2⟩:∃ b,ze1 ((l.take k).map (·.2)) i=b:=⟨_,rfl⟩
 have HV:Hid (V=zam [zag bn 4,zag (!bt) 5,zag b1 6,zag (!b2) 26]):=by rw [Hid,← hV,swE,hbn,hbt,hb1,hb2]
 have HBT:Hid (zcu (((l.map (·.1)).take k).drop 0) s=bt):=by rw [Hid,← List.map_take,List.drop_zero];exact hbt
 have HBI:Hid (ze1 (((l.map (·.2)).take k).drop 0) i=b2):=by rw [Hid,← List.map_take,List.drop_zero];exact hb2
 have NM:=fun W=>zbv s bn hbn (by omega) W
 have WI:=fun W=>za1 i 0 ((ns:Int) - 1) b1 hb1 W
 have k0:=hA1 w (.cells #[.slice As ns cs,.slice At nt ct,.slice Aw nw cw,.slice Ar nr cr] 26)
 have hb0:=hB1 w (.cells #[.slice As ns cs,.slice At nt ct,.slice Aw nw cw,.slice Ar nr cr] 26)
 have hr0:=hr.below (hb0.mono hB)
 have HB:=Lib.hid hb0
 have hs0:=hb0.size
 have HL:=Lib.hid hl
 obtain ⟨bb,off,hA,hbB,z0,z1⟩:=Rd.sw hr0 hk
 simp only at z0 z1
 subst hA
 clear hb0 hr hV hb1 hbn hbt hb2 hl hz
 go_enter Tryz.func108,Tryz.ntmps108
 go_upto_region 1 with (fail)
 generalize (w.alloc (.cells #[.slice As ns cs,.slice At nt ct,.slice (some ⟨bb,off,none⟩) nw cw,.slice Ar nr cr] 26))=w0 at *
 have c0:=(cell_of_row w0 _ 0 _ _ _ k0).trans (by rfl:_=some (.slice As ns cs))
 have c2:=(cell_of_row w0 _ 2 _ _ _ k0).trans (by rfl:_=some (.slice (some ⟨bb,off,none⟩) nw cw))
 obtain ⟨d0,d1⟩:_∧_:=zaz (W:=w0.alloc (.cells #[.string s,.int .i64 i] 76)) (by rw [zae,if_pos rfl])
 have hba:=hB1 w0 (.cells #[.string s,.int .i64 i] 76)
 have HBA:=Lib.hid (HB.out.trans (hba.mono hs0))
 have hsa:=Nat.le_trans hs0 hba.size
 have hra:=hr0.below (hba.mono (by omega))
 have e0:=zat hba c0
 have e2:=zat hba c2
 clear hba k0 hr0 HB
 go_upto_region 2 with (fail)
 clear z0 z1 c0 c2
 generalize w0.alloc (.cells #[.string s,.int .i64 i] 76)=wa at *
 generalize w0.heap.size=xb at *
 generalize hbw:w.heap.size=bw at *
 have HBW:=Lib.hid hbw
 clear hbw
 cases bn with
 | false =>
  have HN:Hid (V=4):=by rw [Hid,HV.out];rfl
  go_wp2_with (go_at_call 73;refine (NM _).mono ?_;rintro e w' ⟨rfl,rfl⟩)
  go_ret
  exact ⟨by rw [HN.out];rfl,by rw [HBW.out];exact HBA.out⟩
 | true =>
  go_wp2_with (go_at_call 73;refine (NM _).mono ?_;rintro e w' ⟨rfl,rfl⟩)
  clear NM
  go_loopw [6] (fun u wx=>HtRel wa (l.map (·.1)) s k bt u wx) (fun u _=>k - (intOf u).toNat)
  case atStart=>exact ⟨0,Nat.zero_le _,rfl,HBT.out,Below.refl _ _⟩
  case round =>
   clear HBT
   obtain ⟨j,hj,rfl,hgj,hb⟩:=hrel
   have HGJ:=Lib.hid hgj
   have HBJ:=Lib.hid hb
   have hrj:=hra.below (hb.mono (by omega))
   replace d0:=zat hb d0
   replace d1:=zat hb d1
   replace e0:=zat hb e0
   replace e2:=zat hb e2
   have hsj:=hb.size
   clear hgj hb
   by_cases hjk:j<k
   · have hjl:j<l.length:=by omega
     obtain ⟨ev,hev⟩:∃ ev,l[j]?=some ev:=⟨_,List.getElem?_eq_getElem hjl⟩
     obtain ⟨b9,off9,hA9,hb9B,y0,y1⟩:=Rd.sw hrj hev
     cases hA9
     have HEV:Hid ((l.map (·.1))[j]?=some ev.1):=by rw [Hid,List.getElem?_map,hev];rfl
     obtain ⟨x,xr⟩:=ev
     simp only at y0 y1 HEV
     have hjn:j<nw:=by omega
     have x0:=fun y:Xt wr=>y.cell d0
     have x1:=fun y:Xt wr=>y.cell y0
     have x2:=fun y:Xt wr=>y.cell e2
     clear hev hjl
     go_upto_region 7 with (fail)
     refine za5 (by kernel_rfl) (by kernel_rfl) ?_
     repeat (go_big_quiet_step (fail))
     refine wpQuiet_nil ?_
     intro w1 hx
     have HB1:=Lib.hid (HBJ.out.trans ((Xt.below hx).mono hsj))
     clear hx x0 x1 x2 y0 y1 HBJ d0 d1 e0 e2
     cases he:(x.toList == s.toList) with
     | true =>
      have HE:=Lib.hid he
      have HBT:=Lib.hid (ht_yes hjk HEV.out he HGJ.out)
      have HN:Hid (V=5):=by rw [Hid,HV.out,HBT.out];rfl
      go_wp2
      go_ret
      exact ⟨by rw [HN.out];rfl,by rw [HBW.out];exact HBA.out.trans (HB1.out.mono (by omega))⟩
     | false =>
      have HE:=Lib.hid he
      have HN3:=Lib.hid (ht_no hjk HEV.out he HGJ.out)
      go_wp2
      go_roundw
      case rel=>exact ⟨j+1,by omega,by go_num,HN3.out,HB1.out⟩
      case measure=>simp [intOf];omega
   · have HBT:=Lib.hid (ht_end hjk HGJ.out)
     have HB2:=Lib.hid (HBA.out.trans (HBJ.out.mono (by omega)))
     have hs2:=Nat.le_trans hsa hsj
     clear HGJ HBJ HBA
     cases b1 with
     | false =>
      have HN:Hid (V=6):=by rw [Hid,HV.out,HBT.out];rfl
      go_wp2_with (go_at_call 9;refine (WI _).mono ?_;rintro e w' ⟨rfl,rfl⟩)
      go_ret
      exact ⟨by rw [HN.out];rfl,by rw [HBW.out];exact HB2.out⟩
     | true =>
      obtain ⟨wq,rfl⟩:∃ wq,wq=wr:=⟨wr,rfl⟩
      go_wp2_with (go_at_call 9;refine (WI _).mono ?_;rintro e w' ⟨rfl,rfl⟩)
      clear WI
      go_loopw [7] (fun u wx=>HiRel wq (l.map (·.2)) i k b2 u wx) (fun u _=>k - (intOf u).toNat)
      case atStart=>exact ⟨0,Nat.zero_le _,rfl,HBI.out,Below.refl _ _⟩
      case round =>
       clear HBI
       obtain ⟨m,hm,rfl,hgm,hb⟩:=hrel
       have HGM:=Lib.hid hgm
       have HBM:=Lib.hid hb
       have hrm:=hrj.below (hb.mono (by omega))
       replace d0:=zat hb d0
       replace d1:=zat hb d1
       replace e0:=zat hb e0
       replace e2:=zat hb e2
       have hsm:=hb.size
       clear hgm hb
       by_cases hmk:m<k
       · have hml:m<l.length:=by omega
         obtain ⟨ev,hev⟩:∃ ev,l[m]?=some ev:=⟨_,List.getElem?_eq_getElem hml⟩
         obtain ⟨b9,off9,hA9,hb9B,y0,y1⟩:=Rd.sw hrm hev
         cases hA9
         have HEV:Hid ((l.map (·.2))[m]?=some ev.2):=by rw [Hid,List.getElem?_map,hev];rfl
         obtain ⟨x,xr⟩:=ev
         simp only at y0 y1 HEV
         have hmn:m<nw:=by omega
         have x0:=fun y:Xt wr=>y.cell d1
         have x1:=fun y:Xt wr=>y.cell y1
         have x2:=fun y:Xt wr=>y.cell e2
         clear hev hml
         go_upto_region 14 with (fail)
         refine za5 (by kernel_rfl) (by kernel_rfl) ?_
         repeat (go_big_quiet_step (fail))
         refine wpQuiet_nil ?_
         intro w1 hx
         have HB1:=Lib.hid (HBM.out.trans ((Xt.below hx).mono hsm))
         clear hx x0 x1 x2 y0 y1 HBM d0 d1 e0 e2
         by_cases he:xr=i
         · have HBI:=Lib.hid (hi_yes hmk HEV.out (by simp [he]) HGM.out)
           have HN:Hid (V=26):=by rw [Hid,HV.out,HBT.out,HBI.out];rfl
           subst he
           go_wp2
           go_ret
           exact ⟨by rw [HN.out];rfl,by rw [HBW.out];exact HB2.out.trans (HB1.out.mono (by omega))⟩
         · have he1:(xr == i)=false:=by simp [he]
           have HN3:=Lib.hid (hi_no hmk HEV.out he1 HGM.out)
           clear he
           go_wp2
           go_roundw
           case rel=>exact ⟨m+1,by omega,by go_num,HN3.out,HB1.out⟩
           case measure=>simp [intOf];omega
       · have HBI:=Lib.hid (hi_end hmk HGM.out)
         have HN:Hid (V=0):=by rw [Hid,HV.out,HBT.out,HBI.out];rfl
         go_wp2
         go_ret
         exact ⟨by rw [HN.out];rfl,by rw [HBW.out];exact HB2.out.trans (HBM.out.mono (by omega))⟩
theorem zk1 (x:Int):zaj x 0 1=zf4 x:=by
 unfold zaj zf4
 by_cases h0:x=0
 · subst h0;rfl
 · by_cases h1:x=1
   · subst h1;rfl
   · have e:¬ (0≤x∧x≤1):=by omega
     simp [h0,h1]
     intro h
     omega
def VbRel (w0:World) (l:List Int) (n:Nat) (V:Bool) (u:Value) (wr:World):Prop:=∃ k:Nat,k≤n∧u=.int .i64 k∧(l.drop k).all zf4=V∧Below w0.heap.size w0 wr
theorem refVanes_any (w:World) (B:Nat) (v:VanV) (h:zcs w B v.vs v.vanes.length (zai v.vanes)) (hB:B≤w.heap.size) (hn:v.vanes.length≤1000) :
 Calls Tryz.prog 70 #[.agg (za8 v).toArray] w fun e w'=>∃ i:Int,e=.returned (.tuple #[.int .i64 i,.int .i64 (zj2 v)])∧Below w.heap.size w w':=by
 obtain ⟨⟨A,n,c⟩,l,wi,tqo,pe,fi,mo,sl,er,ro⟩:=v
 show Calls Tryz.prog 70 #[.agg #[.slice A n c,.int .i64 wi,.int .i64 tqo,.int .i64 pe,.int .i64 fi,.int .i64 mo,.int .i64 sl,.int .i64 er,.bool ro]] w _
 obtain ⟨hl,hr⟩:=h
 simp only at hl hr hn
 rw [hl] at hn
 have HL:=Lib.hid hl
 have k0:=hA1 w (.cells #[.slice A n c,.int .i64 wi,.int .i64 tqo,.int .i64 pe,.int .i64 fi,.int .i64 mo,.int .i64 sl,.int .i64 er,.bool ro] 34)
 have hb0:=hB1 w (.cells #[.slice A n c,.int .i64 wi,.int .i64 tqo,.int .i64 pe,.int .i64 fi,.int .i64 mo,.int .i64 sl,.int .i64 er,.bool ro] 34)
 have HR:=Lib.hid (hr.below (hb0.mono hB))
 have HB:=Lib.hid hb0
 have hs0:=hS1 w (.cells #[.slice A n c,.int .i64 wi,.int .i64 tqo,.int .i64 pe,.int .i64 fi,.int .i64 mo,.int .i64 sl,.int .i64 er,.bool ro] 34)
 obtain ⟨q0,hq0⟩:∃ q,zaj wi 1 12=q:=⟨_,rfl⟩
 obtain ⟨q1,hq1⟩:∃ q,zaj tqo 1 1000=q:=⟨_,rfl⟩
 obtain ⟨q2,hq2⟩:∃ q,zaj pe 1 12=q:=⟨_,rfl⟩
 obtain ⟨q3,hq3⟩:∃ q,zaj fi 0 999000000=q:=⟨_,rfl⟩
 obtain ⟨q4,hq4⟩:∃ q,zaj mo 1 1000=q:=⟨_,rfl⟩
 obtain ⟨q5,hq5⟩:∃ q,zaj sl 0 mo=q:=⟨_,rfl⟩
 obtain ⟨q6,hq6⟩:∃ q,zaj er 0 wi=q:=⟨_,rfl⟩
 have D0:=fun W=>za1 wi 1 12 q0 hq0 W
 have D1:=fun W=>za1 tqo 1 1000 q1 hq1 W
 have D2:=fun W=>za1 pe 1 12 q2 hq2 W
 have D3:=fun W=>za1 fi 0 999000000 q3 hq3 W
 have D4:=fun W=>za1 mo 1 1000 q4 hq4 W
 have D5:=fun W=>za1 sl 0 mo q5 hq5 W
 have D6:=fun W=>za1 er 0 wi q6 hq6 W
 obtain ⟨V,hV⟩:∃ V,zj2 ⟨⟨A,n,c⟩,l,wi,tqo,pe,fi,mo,sl,er,ro⟩=V:=⟨_,rfl⟩
 rw [hV]
 obtain ⟨VB,hVB⟩:∃ b,l.all zf4=b:=⟨_,rfl⟩
 have HV:Hid (V=if zam [zag q0 2,zag (decide (wi≤(n:Int))) 10,zag (decide ((n:Int)≤40)) 8]=0 then (if VB=true then zag (q1 && q2 && q3 && q4 && q5 && q6) 2 else 15) else zam [zag q0 2,zag (decide (wi≤(n:Int))) 10,zag (decide ((n:Int)≤40)) 8]):=by
  rw [Hid,← hV,← hq0,← hq1,← hq2,← hq3,← hq4,← hq5,← hq6,← hVB,zj2]
  simp only [HL.out]
  rfl
 have HVB:=Lib.hid hVB
 clear hl hr hb0 hq0 hq1 hq2 hq3 hq4 hq5 hq6 hV hVB
 go_enter Tryz.func70,Tryz.ntmps70
 go_upto_region 1 with (fail)
 generalize (w.alloc (.cells #[.slice A n c,.int .i64 wi,.int .i64 tqo,.int .i64 pe,.int .i64 fi,.int .i64 mo,.int .i64 sl,.int .i64 er,.bool ro] 34))=w0 at *
 generalize hbw:w.heap.size=bw at *
 have HBW:=Lib.hid hbw
 clear hbw
 have c0:=(cell_of_row w0 bw 0 _ _ _ k0).trans (by rfl:_=some (.slice A n c))
 have c1:=(cell_of_row w0 bw 1 _ _ _ k0).trans (by rfl:_=some (.int .i64 wi))
 cases q0 with
 | false =>
  have HN:Hid (V=2):=by rw [Hid,HV.out];rfl
  go_wp2_with (go_at_call 9;refine (D0 _).mono ?_;rintro e w' ⟨rfl,rfl⟩)
  go_ret2
  exact ⟨0,by rw [HN.out];rfl,by rw [HBW.out];exact HB.out⟩
 | true =>
  by_cases h1:(n:Int)<wi
  · have HN:Hid (V=10):=by
     have g:¬ wi≤(n:Int):=by omega
     rw [Hid,HV.out]
     simp only [g,decide_false]
     rfl
    go_wp2_with (go_at_call 9;refine (D0 _).mono ?_;rintro e w' ⟨rfl,rfl⟩)
    go_ret2
    exact ⟨0,by rw [HN.out];rfl,by rw [HBW.out];exact HB.out⟩
  by_cases h2:(40:Int)<(n:Int)
  · have HN:Hid (V=8):=by
     have g:wi≤(n:Int):=by omega
     have g2:¬ (n:Int)≤40:=by omega
     rw [Hid,HV.out]
     simp only [g,g2,decide_true,decide_false]
     rfl
    go_wp2_with (go_at_call 9;refine (D0 _).mono ?_;rintro e w' ⟨rfl,rfl⟩)
    go_ret2
    exact ⟨0,by rw [HN.out];rfl,by rw [HBW.out];exact HB.out⟩
  have HN:Hid (V=if VB=true then zag (q1 && q2 && q3 && q4 && q5 && q6) 2 else 15):=by
   have g:wi≤(n:Int):=by omega
   have g2:(n:Int)≤40:=by omega
   rw [Hid,HV.out]
   simp only [g,g2,decide_true]
   rfl
  clear HV
  go_wp2_with (go_at_call 9;refine (D0 _).mono ?_;rintro e w' ⟨rfl,rfl⟩)
  clear D0
  go_loopw [4] (fun u wr=>VbRel w0 l n VB u wr) (fun u _=>n - (intOf u).toNat)
  case atStart=>exact ⟨0,Nat.zero_le _,rfl,HVB.out,Below.refl _ _⟩
  case round =>
   clear HVB
   obtain ⟨k,hk,rfl,hgo,hb⟩:=hrel
   have HGO:=Lib.hid hgo
   have HBK:=Lib.hid hb
   have hr:=HR.out.below (hb.mono (by omega))
   have hsk:=hb.size
   replace k0:=blk hb k0
   clear hgo hb c0 c1
   have c0:=(cell_of_row wr bw 0 _ _ _ k0).trans (by rfl:_=some (.slice A n c))
   by_cases hlt:k<n
   · have hkl:k<l.length:=by rw [HL.out];exact hlt
     obtain ⟨x,hev⟩:∃ ev,l[k]?=some ev:=⟨_,List.getElem?_eq_getElem hkl⟩
     obtain ⟨bb,off,rfl,hbB,z0⟩:=hr.at_ (k:=k) (u:=.int .i64 x) (by simp [zai,hev])
     have HST:=Lib.hid (za9 hev)
     obtain ⟨b,hb⟩:∃ b,zf4 x=b:=⟨_,rfl⟩
     have WI:=fun W=>za1 x 0 1 b ((zk1 x).trans hb) W
     have HBI:=Lib.hid hb
     clear hkl hev hb D1 D2 D3 D4 D5 D6
     cases b with
     | true =>
      have HN2:Hid ((l.drop (k+1)).all zf4=VB):=by
       have h9:=HGO.out
       rw [HST.out,List.all_cons,HBI.out] at h9
       exact h9
      go_wp2_with (go_at_call 9;refine (WI _).mono ?_;rintro e w' ⟨rfl,rfl⟩)
      go_roundw
      case rel=>exact ⟨k+1,by omega,by go_num,HN2.out,HBK.out⟩
      case measure=>simp [intOf];omega
     | false =>
      have HV6:Hid (V=15):=by
       have h9:=HGO.out
       rw [HST.out,List.all_cons,HBI.out] at h9
       rw [Hid,HN.out,← h9]
       rfl
      go_wp2_with (go_at_call 9;refine (WI _).mono ?_;rintro e w' ⟨rfl,rfl⟩)
      go_ret2
      exact ⟨k,by rw [HV6.out];rfl,by rw [HBW.out];exact HB.out.trans (HBK.out.mono (by omega))⟩
   · have HV5:Hid (VB=true):=by
      have h9:=HGO.out
      rw [List.drop_eq_nil_iff.2 (by rw [HL.out];omega)] at h9
      rw [Hid,← h9]
      rfl
     have HV6:Hid ((if VB=true then zag (q1 && q2 && q3 && q4 && q5 && q6) 2 else (15:Int))=zag (q1 && q2 && q3 && q4 && q5 && q6) 2):=if_pos HV5.out
     clear HV5 HGO
     have c1:=(cell_of_row wr bw 1 _ _ _ k0).trans (by rfl:_=some (.int .i64 wi))
     have c2:=(cell_of_row wr bw 2 _ _ _ k0).trans (by rfl:_=some (.int .i64 tqo))
     have c3:=(cell_of_row wr bw 3 _ _ _ k0).trans (by rfl:_=some (.int .i64 pe))
     have c4:=(cell_of_row wr bw 4 _ _ _ k0).trans (by rfl:_=some (.int .i64 fi))
     have c5:=(cell_of_row wr bw 5 _ _ _ k0).trans (by rfl:_=some (.int .i64 mo))
     have c6:=(cell_of_row wr bw 6 _ _ _ k0).trans (by rfl:_=some (.int .i64 sl))
     have c7:=(cell_of_row wr bw 7 _ _ _ k0).trans (by rfl:_=some (.int .i64 er))
     go_upto_region 12 with (fail)
     cases q1 with
     | false =>
      go_wp2_with (first | (go_at_call_of 9 (Value.int .i64 sl);refine (D5 _).mono ?_;rintro e w' ⟨rfl,rfl⟩) | (go_at_call_of 9 (Value.int .i64 er);refine (D6 _).mono ?_;rintro e w' ⟨rfl,rfl⟩) | (go_at_call_of 9 (Value.int .i64 tqo);refine (D1 _).mono ?_;rintro e w' ⟨rfl,rfl⟩) | (go_at_call_of 9 (Value.int .i64 pe);refine (D2 _).mono ?_;rintro e w' ⟨rfl,rfl⟩) | (go_at_call_of 9 (Value.int .i64 fi);refine (D3 _).mono ?_;rintro e w' ⟨rfl,rfl⟩) | (go_at_call_of 9 (Value.int .i64 mo);refine (D4 _).mono ?_;rintro e w' ⟨rfl,rfl⟩))
      go_ret2
      exact ⟨0,by rw [HN.out,HV6.out];rfl,by rw [HBW.out];exact HB.out.trans (HBK.out.mono (by omega))⟩
     | true =>
      cases q2 with
      | false =>
       go_wp2_with (first | (go_at_call_of 9 (Value.int .i64 sl);refine (D5 _).mono ?_;rintro e w' ⟨rfl,rfl⟩) | (go_at_call_of 9 (Value.int .i64 er);refine (D6 _).mono ?_;rintro e w' ⟨rfl,rfl⟩) | (go_at_call_of 9 (Value.int .i64 tqo);refine (D1 _).mono ?_;rintro e w' ⟨rfl,rfl⟩) | (go_at_call_of 9 (Value.int .i64 pe);refine (D2 _).mono ?_;rintro e w' ⟨rfl,rfl⟩) | (go_at_call_of 9 (Value.int .i64 fi);refine (D3 _).mono ?_;rintro e w' ⟨rfl,rfl⟩) | (go_at_call_of 9 (Value.int .i64 mo);refine (D4 _).mono ?_;rintro e w' ⟨rfl,rfl⟩))
       go_ret2
       exact ⟨0,by rw [HN.out,HV6.out];rfl,by rw [HBW.out];exact HB.out.trans (HBK.out.mono (by omega))⟩
      | true =>
       cases q3 with
       | false =>
        go_wp2_with (first | (go_at_call_of 9 (Value.int .i64 sl);refine (D5 _).mono ?_;rintro e w' ⟨rfl,rfl⟩) | (go_at_call_of 9 (Value.int .i64 er);refine (D6 _).mono ?_;rintro e w' ⟨rfl,rfl⟩) | (go_at_call_of 9 (Value.int .i64 tqo);refine (D1 _).mono ?_;rintro e w' ⟨rfl,rfl⟩) | (go_at_call_of 9 (Value.int .i64 pe);refine (D2 _).mono ?_;rintro e w' ⟨rfl,rfl⟩) | (go_at_call_of 9 (Value.int .i64 fi);refine (D3 _).mono ?_;rintro e w' ⟨rfl,rfl⟩) | (go_at_call_of 9 (Value.int .i64 mo);refine (D4 _).mono ?_;rintro e w' ⟨rfl,rfl⟩))
        go_ret2
        exact ⟨0,by rw [HN.out,HV6.out];rfl,by rw [HBW.out];exact HB.out.trans (HBK.out.mono (by omega))⟩
       | true =>
        cases q4 with
        | false =>
         go_wp2_with (first | (go_at_call_of 9 (Value.int .i64 sl);refine (D5 _).mono ?_;rintro e w' ⟨rfl,rfl⟩) | (go_at_call_of 9 (Value.int .i64 er);refine (D6 _).mono ?_;rintro e w' ⟨rfl,rfl⟩) | (go_at_call_of 9 (Value.int .i64 tqo);refine (D1 _).mono ?_;rintro e w' ⟨rfl,rfl⟩) | (go_at_call_of 9 (Value.int .i64 pe);refine (D2 _).mono ?_;rintro e w' ⟨rfl,rfl⟩) | (go_at_call_of 9 (Value.int .i64 fi);refine (D3 _).mono ?_;rintro e w' ⟨rfl,rfl⟩) | (go_at_call_of 9 (Value.int .i64 mo);refine (D4 _).mono ?_;rintro e w' ⟨rfl,rfl⟩))
         go_ret2
         exact ⟨0,by rw [HN.out,HV6.out];rfl,by rw [HBW.out];exact HB.out.trans (HBK.out.mono (by omega))⟩
        | true =>
         cases q5 with
         | false =>
          go_wp2_with (first | (go_at_call_of 9 (Value.int .i64 sl);refine (D5 _).mono ?_;rintro e w' ⟨rfl,rfl⟩) | (go_at_call_of 9 (Value.int .i64 er);refine (D6 _).mono ?_;rintro e w' ⟨rfl,rfl⟩) | (go_at_call_of 9 (Value.int .i64 tqo);refine (D1 _).mono ?_;rintro e w' ⟨rfl,rfl⟩) | (go_at_call_of 9 (Value.int .i64 pe);refine (D2 _).mono ?_;rintro e w' ⟨rfl,rfl⟩) | (go_at_call_of 9 (Value.int .i64 fi);refine (D3 _).mono ?_;rintro e w' ⟨rfl,rfl⟩) | (go_at_call_of 9 (Value.int .i64 mo);refine (D4 _).mono ?_;rintro e w' ⟨rfl,rfl⟩))
          go_ret2
          exact ⟨0,by rw [HN.out,HV6.out];rfl,by rw [HBW.out];exact HB.out.trans (HBK.out.mono (by omega))⟩
         | true =>
          cases q6 with
          | false =>
           go_wp2_with (first | (go_at_call_of 9 (Value.int .i64 sl);refine (D5 _).mono ?_;rintro e w' ⟨rfl,rfl⟩) | (go_at_call_of 9 (Value.int .i64 er);refine (D6 _).mono ?_;rintro e w' ⟨rfl,rfl⟩) | (go_at_call_of 9 (Value.int .i64 tqo);refine (D1 _).mono ?_;rintro e w' ⟨rfl,rfl⟩) | (go_at_call_of 9 (Value.int .i64 pe);refine (D2 _).mono ?_;rintro e w' ⟨rfl,rfl⟩) | (go_at_call_of 9 (Value.int .i64 fi);refine (D3 _).mono ?_;rintro e w' ⟨rfl,rfl⟩) | (go_at_call_of 9 (Value.int .i64 mo);refine (D4 _).mono ?_;rintro e w' ⟨rfl,rfl⟩))
           go_ret2
           exact ⟨0,by rw [HN.out,HV6.out];rfl,by rw [HBW.out];exact HB.out.trans (HBK.out.mono (by omega))⟩
          | true =>
           go_wp2_with (first | (go_at_call_of 9 (Value.int .i64 sl);refine (D5 _).mono ?_;rintro e w' ⟨rfl,rfl⟩) | (go_at_call_of 9 (Value.int .i64 er);refine (D6 _).mono ?_;rintro e w' ⟨rfl,rfl⟩) | (go_at_call_of 9 (Value.int .i64 tqo);refine (D1 _).mono ?_;rintro e w' ⟨rfl,rfl⟩) | (go_at_call_of 9 (Value.int .i64 pe);refine (D2 _).mono ?_;rintro e w' ⟨rfl,rfl⟩) | (go_at_call_of 9 (Value.int .i64 fi);refine (D3 _).mono ?_;rintro e w' ⟨rfl,rfl⟩) | (go_at_call_of 9 (Value.int .i64 mo);refine (D4 _).mono ?_;rintro e w' ⟨rfl,rfl⟩))
           go_ret2
           exact ⟨0,by rw [HN.out,HV6.out];rfl,by rw [HBW.out];exact HB.out.trans (HBK.out.mono (by omega))⟩
theorem zix (w:World) (B:Nat) (v:VanV) (h:zcs w B v.vs v.vanes.length (zai v.vanes)) (hB:B≤w.heap.size) (hn:v.vanes.length≤1000) :
 Calls Tryz.prog 40 #[.agg (za8 v).toArray] w (zay w (zj2 v)):=by
 obtain ⟨⟨A,n,c⟩,l,wi,tqo,pe,fi,mo,sl,er,ro⟩:=v
 show Calls Tryz.prog 40 #[.agg #[.slice A n c,.int .i64 wi,.int .i64 tqo,.int .i64 pe,.int .i64 fi,.int .i64 mo,.int .i64 sl,.int .i64 er,.bool ro]] w _
 have hb0:=hB1 w (.cells #[.slice A n c,.int .i64 wi,.int .i64 tqo,.int .i64 pe,.int .i64 fi,.int .i64 mo,.int .i64 sl,.int .i64 er,.bool ro] 34)
 have k0:=hA1 w (.cells #[.slice A n c,.int .i64 wi,.int .i64 tqo,.int .i64 pe,.int .i64 fi,.int .i64 mo,.int .i64 sl,.int .i64 er,.bool ro] 34)
 have RT:Calls Tryz.prog 70 #[.agg #[.slice A n c,.int .i64 wi,.int .i64 tqo,.int .i64 pe,.int .i64 fi,.int .i64 mo,.int .i64 sl,.int .i64 er,.bool ro]] (w.alloc (.cells #[.slice A n c,.int .i64 wi,.int .i64 tqo,.int .i64 pe,.int .i64 fi,.int .i64 mo,.int .i64 sl,.int .i64 er,.bool ro] 34)) _:=refVanes_any (w.alloc (.cells #[.slice A n c,.int .i64 wi,.int .i64 tqo,.int .i64 pe,.int .i64 fi,.int .i64 mo,.int .i64 sl,.int .i64 er,.bool ro] 34)) B ⟨⟨A,n,c⟩,l,wi,tqo,pe,fi,mo,sl,er,ro⟩ (h.keep hb0) (Nat.le_trans hB hb0.size) hn
 have HB:=Lib.hid hb0
 have hs0:=hb0.size
 generalize zj2 ⟨⟨A,n,c⟩,l,wi,tqo,pe,fi,mo,sl,er,ro⟩=V at *
 clear h hb0
 go_enter Tryz.func40,Tryz.ntmps40
 go_upto_region 1 with (fail)
 generalize (w.alloc (.cells #[.slice A n c,.int .i64 wi,.int .i64 tqo,.int .i64 pe,.int .i64 fi,.int .i64 mo,.int .i64 sl,.int .i64 er,.bool ro] 34))=w0 at *
 generalize hbw:w.heap.size=bw at *
 have HBW:=Lib.hid hbw
 clear hbw
 have c0:=(cell_of_row w0 bw 0 _ _ _ k0).trans (by rfl:_=some (.slice A n c))
 have c1:=(cell_of_row w0 bw 1 _ _ _ k0).trans (by rfl:_=some (.int .i64 wi))
 have c2:=(cell_of_row w0 bw 2 _ _ _ k0).trans (by rfl:_=some (.int .i64 tqo))
 have c3:=(cell_of_row w0 bw 3 _ _ _ k0).trans (by rfl:_=some (.int .i64 pe))
 have c4:=(cell_of_row w0 bw 4 _ _ _ k0).trans (by rfl:_=some (.int .i64 fi))
 have c5:=(cell_of_row w0 bw 5 _ _ _ k0).trans (by rfl:_=some (.int .i64 mo))
 have c6:=(cell_of_row w0 bw 6 _ _ _ k0).trans (by rfl:_=some (.int .i64 sl))
 have c7:=(cell_of_row w0 bw 7 _ _ _ k0).trans (by rfl:_=some (.int .i64 er))
 have c8:=(cell_of_row w0 bw 8 _ _ _ k0).trans (by rfl:_=some (.bool ro))
 go_wp2_with (go_at_call 70;refine RT.mono ?_;rintro e w9 ⟨i,rfl,hb9⟩)
 go_ret
 exact ⟨rfl,by rw [HBW.out];exact HB.out.trans (hb9.mono hs0)⟩
theorem Has_val (A:Option Addr) (n c B:Nat) (l:List Int) (s:Int) (b:Bool) (hb:ze1 l s=b) (w:World) (hn:n≤1000000000) (hl:l.length=n) (h:Rd w B A (zai l)) :
 Calls Tryz.prog 185 #[.slice A n c,.int .i64 s] w fun e w'=>e=.returned (.bool b)∧w=w':=by
 have HL:=Lib.hid hl
 have HB:=Lib.hid hb
 clear hl hb
 go_enter Tryz.func185,Tryz.ntmps185
 go_wp2
 go_loop [5] (fun i=>∃ k:Nat,k≤n∧i=.int .i64 k∧ze1 (l.drop k) s=b) (fun i=>n - (intOf i).toNat)
 case atStart=>exact ⟨0,Nat.zero_le _,rfl,HB.out⟩
 case round =>
  clear HB
  obtain ⟨k,hk,rfl,he⟩:=hrel
  have HE:=Lib.hid he;clear he
  by_cases hlt:k<n
  · have hkl:k<l.length:=by rw [HL.out];exact hlt
    obtain ⟨bb,off,rfl,_,hc⟩:=h.at_ (k:=k) (u:=.int .i64 (l[k]?.getD 0)) (by simp [zai,hkl])
    have HS:=Lib.hid (zfq l 0 k hkl)
    clear hkl
    generalize l[k]?.getD 0=x at *
    by_cases hx:x=s
    · have HV:Hid (b=true):=by rw [Hid,← HE.out,HS.out,zg6];simp [hx]
      subst hx
      go_wp2
      go_ret
      exact ⟨by rw [HV.out];rfl,rfl⟩
    · have hx1:(x == s)=false:=by simp [hx]
      have HN:Hid (ze1 (l.drop (k+1)) s=b):=by
       have h9:=HE.out
       rw [HS.out,zg6,hx1,Bool.false_or] at h9
       exact h9
      clear hx
      go_wp2
      go_round
      case rel=>exact ⟨k+1,by omega,by go_num,HN.out⟩
      case measure=>simp [intOf];omega
  · have HV:Hid (b=false):=by
     rw [Hid,← HE.out,List.drop_eq_nil_iff.2 (by rw [HL.out];omega)]
     rfl
    go_wp2
    go_ret
    exact ⟨by rw [HV.out];rfl,rfl⟩
theorem refRoute_any (w:World) (B:Nat) (As At Aw Ar:Option Addr) (ns nt nw nr cs ct cw cr:Nat) (l:List RtV) (sws:List Sw) (hl:l.length=nr) (hr:Rd w B Ar (zd1 l)) (hlw:sws.length=nw) (hrw:Rd w B Aw (zbl sws)) (hB:B≤w.heap.size) (hn:nr≤1000) (hs:ns≤1000) (hnw:nw≤1000) (hz:∀ s∈l,s.nm.size≤1000) (k:Nat) (x:RtV) (hk:l[k]?=some x)
 (hs1:zcs w B x.s x.secs.length (zai x.secs)) (hs2:zcs w B x.d x.needs.length (zai x.needs)) (hcap:x.s.n≤x.s.c) (hz1:x.secs.length≤1000) (hz2:x.needs.length≤1000) :
 Calls Tryz.prog 109 #[.agg #[.slice As ns cs,.slice At nt ct,.slice Aw nw cw,.slice Ar nr cr],.int .i64 k] w (zay w (rtE ns sws (l.take k) x)):=by
 have hkl:k<l.length:=(List.getElem?_eq_some_iff.1 hk).1
 have hkn:k<nr:=by rw [← hl];exact hkl
 have hz9:=hz x (List.mem_of_getElem? hk)
 have k0:=hA1 w (.cells #[.slice As ns cs,.slice At nt ct,.slice Aw nw cw,.slice Ar nr cr] 26)
 have hb0:=hB1 w (.cells #[.slice As ns cs,.slice At nt ct,.slice Aw nw cw,.slice Ar nr cr] 26)
 have hr0:=hr.below (hb0.mono hB)
 have HRW:=Lib.hid (hrw.below (hb0.mono hB))
 have HR1:=Lib.hid (hs1.2.below (hb0.mono hB))
 have HR2:=Lib.hid (hs2.2.below (hb0.mono hB))
 have HB:=Lib.hid hb0
 have hs0:=hb0.size
 obtain ⟨bb,off,hA,hbB,z0,z1,z2⟩:=Rd.rt hr0 hk
 obtain ⟨hl1,_⟩:=hs1
 obtain ⟨hl2,_⟩:=hs2
 obtain ⟨s,⟨Aq,nq,cq⟩,secs,⟨Ad,nd,cd⟩,needs⟩:=x
 simp only at z0 z1 z2 hl1 hl2 hcap hz1 hz2 HR1 HR2 hz9
 rw [hl1] at hz1
 rw [hl2] at hz2
 obtain ⟨bn,hbn⟩:∃ b,za3 s=b:=⟨_,rfl⟩
 obtain ⟨bt,hbt⟩:∃ b,zcu ((l.take k).map (·.nm)) s=b:=⟨_,rfl⟩
 obtain ⟨V1,hV1⟩:∃ V,za2 (scE ns) [] secs=V:=⟨_,rfl⟩
 obtain ⟨VB,hVB⟩:∃ V,ndB secs sws needs=V:=⟨_,rfl⟩
 obtain ⟨E2,hE2⟩:∃ V,rtE1 ns sws ⟨s,⟨Aq,nq,cq⟩,secs,⟨Ad,nd,cd⟩,needs⟩=V:=⟨_,rfl⟩
 obtain ⟨V,hV⟩:∃ V,rtE ns sws (l.take k) ⟨s,⟨Aq,nq,cq⟩,secs,⟨Ad,nd,cd⟩,needs⟩=V:=⟨_,rfl⟩
 rw [hV]
 have HV:Hid (V=zam [zag bn 4,zag (!bt) 5,E2]):=by rw [Hid,← hV,rtE,hbn,hbt,hE2]
 have HE2:Hid (E2=if nq<2 then 10 else if ns<nq then 8 else if V1≠0 then V1 else if nd≠nw then 10 else if VB=true then 0 else 2):=by
  rw [Hid,← hE2,rtE1]
  simp only [hl1,hl2,hlw,hV1,hVB]
 have HV1:=Lib.hid hV1
 have HVB:=Lib.hid hVB
 have HL1:=Lib.hid hl1
 have HL2:=Lib.hid hl2
 have HLW:=Lib.hid hlw
 have HL:=Lib.hid hl
 have HBT:Hid (zcu (((l.map (·.nm)).take k).drop 0) s=bt):=by rw [Hid,← List.map_take,List.drop_zero];exact hbt
 have NM:=fun W=>zbv s bn hbn (by omega) W
 subst hA
 clear hb0 hr hV hE2 hV1 hVB hrw hl1 hl2 hlw hbn hbt hz
 go_enter Tryz.func109,Tryz.ntmps109
 go_upto_region 1 with (fail)
 generalize (w.alloc (.cells #[.slice As ns cs,.slice At nt ct,.slice Aw nw cw,.slice (some ⟨bb,off,none⟩) nr cr] 26))=w0 at *
 have c0:=(cell_of_row w0 _ 0 _ _ _ k0).trans (by rfl:_=some (.slice As ns cs))
 have c2:=(cell_of_row w0 _ 2 _ _ _ k0).trans (by rfl:_=some (.slice Aw nw cw))
 have c3:=(cell_of_row w0 _ 3 _ _ _ k0).trans (by rfl:_=some (.slice (some ⟨bb,off,none⟩) nr cr))
 obtain ⟨d0,d1,d2⟩:_∧_∧_:=zba (W:=w0.alloc (.cells #[.string s,.slice Aq nq cq,.slice Ad nd cd] 78)) (by rw [zae,if_pos rfl])
 have hba:=hB1 w0 (.cells #[.string s,.slice Aq nq cq,.slice Ad nd cd] 78)
 have HBA:=Lib.hid (HB.out.trans (hba.mono hs0))
 have hsa:=Nat.le_trans hs0 hba.size
 replace HR1:=Lib.hid (HR1.out.below (hba.mono (by omega)))
 replace HR2:=Lib.hid (HR2.out.below (hba.mono (by omega)))
 replace HRW:=Lib.hid (HRW.out.below (hba.mono (by omega)))
 have hra:=hr0.below (hba.mono (by omega))
 have e0:=zat hba c0
 have e2:=zat hba c2
 have e3:=zat hba c3
 clear hba k0 hr0 HB
 go_upto_region 2 with (fail)
 clear z0 z1 z2 c0 c2 c3
 generalize w0.alloc (.cells #[.string s,.slice Aq nq cq,.slice Ad nd cd] 78)=wa at *
 generalize w0.heap.size=xb at *
 generalize hbw:w.heap.size=bw at *
 have HBW:=Lib.hid hbw
 clear hbw
 cases bn with
 | false =>
  have HN:Hid (V=4):=by rw [Hid,HV.out];rfl
  go_wp2_with (go_at_call 73;refine (NM _).mono ?_;rintro e w' ⟨rfl,rfl⟩)
  go_ret
  exact ⟨by rw [HN.out];rfl,by rw [HBW.out];exact HBA.out⟩
 | true =>
  go_wp2_with (go_at_call 73;refine (NM _).mono ?_;rintro e w' ⟨rfl,rfl⟩)
  clear NM
  go_loopw [6] (fun u wx=>HtRel wa (l.map (·.nm)) s k bt u wx) (fun u _=>k - (intOf u).toNat)
  case atStart=>exact ⟨0,Nat.zero_le _,rfl,HBT.out,Below.refl _ _⟩
  case round =>
   clear HBT
   obtain ⟨j,hj,rfl,hgj,hb⟩:=hrel
   have HGJ:=Lib.hid hgj
   have HBJ:=Lib.hid hb
   have hrj:=hra.below (hb.mono (by omega))
   replace d0:=zat hb d0
   replace d1:=zat hb d1
   replace d2:=zat hb d2
   replace e0:=zat hb e0
   replace e2:=zat hb e2
   replace e3:=zat hb e3
   have hsj:=hb.size
   clear hgj hb
   by_cases hjk:j<k
   · have hjl:j<l.length:=by omega
     obtain ⟨ev,hev⟩:∃ ev,l[j]?=some ev:=⟨_,List.getElem?_eq_getElem hjl⟩
     obtain ⟨b9,off9,hA9,hb9B,y0,y1,y2⟩:=Rd.rt hrj hev
     cases hA9
     have HEV:Hid ((l.map (·.nm))[j]?=some ev.nm):=by rw [Hid,List.getElem?_map,hev];rfl
     generalize ev.nm=x at *
     have hjn:j<nr:=by omega
     have x0:=fun y:Xt wr=>y.cell d0
     have x1:=fun y:Xt wr=>y.cell y0
     have x2:=fun y:Xt wr=>y.cell e3
     clear hev hjl
     go_upto_region 7 with (fail)
     refine za5 (by kernel_rfl) (by kernel_rfl) ?_
     repeat (go_big_quiet_step (fail))
     refine wpQuiet_nil ?_
     intro w1 hx
     have HB1:=Lib.hid (HBJ.out.trans ((Xt.below hx).mono hsj))
     clear hx x0 x1 x2 y0 y1 y2 HBJ d0 d1 d2 e0 e2 e3
     cases he:(x.toList == s.toList) with
     | true =>
      have HE:=Lib.hid he
      have HBT:=Lib.hid (ht_yes hjk HEV.out he HGJ.out)
      have HN:Hid (V=5):=by rw [Hid,HV.out,HBT.out];rfl
      go_wp2
      go_ret
      exact ⟨by rw [HN.out];rfl,by rw [HBW.out];exact HBA.out.trans (HB1.out.mono (by omega))⟩
     | false =>
      have HE:=Lib.hid he
      have HN3:=Lib.hid (ht_no hjk HEV.out he HGJ.out)
      go_wp2
      go_roundw
      case rel=>exact ⟨j+1,by omega,by go_num,HN3.out,HB1.out⟩
      case measure=>simp [intOf];omega
   · have HBT:=Lib.hid (ht_end hjk HGJ.out)
     have HVE:Hid (V=E2):=by
      rw [Hid,HV.out,HBT.out]
      by_cases h9:E2=0 <;> simp [zam,zag,h9]
     have HB2:=Lib.hid (HBA.out.trans (HBJ.out.mono (by omega)))
     have hs2:=Nat.le_trans hsa hsj
     replace HR1:=Lib.hid (HR1.out.below (HBJ.out.mono (by omega)))
     replace HR2:=Lib.hid (HR2.out.below (HBJ.out.mono (by omega)))
     replace HRW:=Lib.hid (HRW.out.below (HBJ.out.mono (by omega)))
     clear HGJ HBJ HBA HV hra hrj
     by_cases hq2:(nq:Int)<2
     · have HN:Hid (V=10):=by rw [Hid,HVE.out,HE2.out,if_pos (by omega)]
       go_wp2
       go_ret
       exact ⟨by rw [HN.out];rfl,by rw [HBW.out];exact HB2.out⟩
     by_cases hqs:ns<nq
     · have HN:Hid (V=8):=by rw [Hid,HVE.out,HE2.out,if_neg (by omega),if_pos hqs]
       go_wp2
       go_ret
       exact ⟨by rw [HN.out];rfl,by rw [HBW.out];exact HB2.out⟩
     have HVF:Hid (V=if V1≠0 then V1 else if nd≠nw then 10 else if VB=true then 0 else 2):=by
      rw [Hid,HVE.out,HE2.out,if_neg (by omega),if_neg hqs]
     clear HVE HE2
     obtain ⟨wq,rfl⟩:∃ wq,wq=wr:=⟨wr,rfl⟩
     go_wp2
     go_loopw [7] (fun u wx=>zkd wq (scE ns) secs nq V1 u wx) (fun u _=>nq - (intOf u).toNat)
     case atStart=>exact ⟨0,Nat.zero_le _,rfl,HV1.out,Below.refl _ _⟩
     case round =>
      clear HV1
      obtain ⟨m,hm,rfl,hgo,hb⟩:=hrel
      have HGO:=Lib.hid hgo
      have HBK:=Lib.hid hb
      have hr1:=HR1.out.below (hb.mono (by omega))
      replace d0:=zat hb d0
      replace d1:=zat hb d1
      replace d2:=zat hb d2
      replace e0:=zat hb e0
      replace e2:=zat hb e2
      replace e3:=zat hb e3
      have hsk:=hb.size
      clear hgo hb
      by_cases hlt:m<nq
      · have hml:m<secs.length:=by rw [HL1.out];exact hlt
        obtain ⟨q,hev⟩:∃ ev,secs[m]?=some ev:=⟨_,List.getElem?_eq_getElem hml⟩
        obtain ⟨b9,off9,hA9,hb9B,z0⟩:=hr1.at_ (k:=m) (u:=.int .i64 q) (by simp [zai,hev])
        subst hA9
        have HSV:=Lib.hid hev
        have hrt:=rd_takeI hr1 m
        have HTL:Hid ((secs.take m).length=m):=by rw [Hid,List.length_take];omega
        have hmc:m≤cq:=by omega
        obtain ⟨b1,hb1⟩:∃ b,zaj q 0 ((ns:Int) - 1)=b:=⟨_,rfl⟩
        obtain ⟨b2,hb2⟩:∃ b,ze1 (secs.take m) q=b:=⟨_,rfl⟩
        have HSC:Hid (scE ns (secs.take m) q=zam [zag b1 6,zag (!b2) 26]):=by rw [Hid,scE,hb1,hb2]
        have WI:=fun W=>za1 q 0 ((ns:Int) - 1) b1 hb1 W
        have TX:=fun (y:Xt wr) (c:Nat)=>Has_val (some ⟨b9,off9,none⟩) m c _ (secs.take m) q b2 hb2 y.1 (by omega) HTL.out (hrt.below (y.2.mono (by omega)))
        clear hml hb1 hb2 hev
        have x0:=fun y:Xt wr=>y.cell e0
        have x1:=fun y:Xt wr=>y.cell d1
        have x2:=fun y:Xt wr=>y.cell z0
        go_upto_region 16 with (fail)
        refine za5 (by kernel_rfl) (by kernel_rfl) ?_
        repeat (go_big_quiet_step (first | (go_at_call 9;exact Xt.calls_same (WI _))))
        refine wpQuiet_nil ?_
        intro w1 hx
        have hb5:=Xt.below hx
        have HB1:=Lib.hid (HBK.out.trans (hb5.mono hsk))
        clear hx x0 x2 WI
        cases b1 with
        | false =>
         have HN:Hid (V=6):=by
          have e:scE ns (secs.take m) q=6:=by rw [HSC.out];rfl
          have h9:=zb3 HSV.out HGO.out (by rw [e];decide)
          rw [Hid,HVF.out,← h9,e]
          rfl
         go_wp2
         go_ret
         exact ⟨by rw [HN.out];rfl,by rw [HBW.out];exact HB2.out.trans (HB1.out.mono (by omega))⟩
        | true =>
         have hs9:=hb5.size
         have TX2:=fun (y:Xt w1) (c:Nat)=>TX ⟨y.1,hb5.trans (y.2.mono hs9)⟩ c
         have x3:=fun y:Xt w1=>y.cell (zat hb5 d1)
         have x4:=fun y:Xt w1=>y.cell (zat hb5 z0)
         simp only at TX2
         clear TX x1
         go_upto_region 18 with (fail)
         refine za5 (by kernel_rfl) (by kernel_rfl) ?_
         repeat (go_big_quiet_step (first | (go_at_call 185;exact Xt.calls_same (TX2 _ _))))
         refine wpQuiet_nil ?_
         intro w3 hx
         have HB3:=Lib.hid (HB1.out.trans ((Xt.below hx).mono (by omega)))
         clear hx x3 x4 TX2 hb5
         cases b2 with
         | true =>
          have HN:Hid (V=26):=by
           have e:scE ns (secs.take m) q=26:=by rw [HSC.out];rfl
           have h9:=zb3 HSV.out HGO.out (by rw [e];decide)
           rw [Hid,HVF.out,← h9,e]
           rfl
          go_wp2
          go_ret
          exact ⟨by rw [HN.out];rfl,by rw [HBW.out];exact HB2.out.trans (HB3.out.mono (by omega))⟩
         | false =>
          have HN3:=Lib.hid (zc1 HSV.out HGO.out (by rw [HSC.out];rfl))
          go_wp2
          go_roundw
          case rel=>exact ⟨m+1,by omega,by go_num,HN3.out,HB3.out⟩
          case measure=>simp [intOf];omega
      · have HN1:Hid (V1=0):=zb9 (by rw [HL1.out];omega) HGO.out
        have HVG:Hid (V=if nd≠nw then 10 else if VB=true then 0 else 2):=by rw [Hid,HVF.out,HN1.out,if_neg (fun h=>h rfl)]
        have HB4:=Lib.hid (HB2.out.trans (HBK.out.mono (by omega)))
        have hs4:=Nat.le_trans hs2 hsk
        replace HR1:=Lib.hid hr1
        replace HR2:=Lib.hid (HR2.out.below (HBK.out.mono (by omega)))
        replace HRW:=Lib.hid (HRW.out.below (HBK.out.mono (by omega)))
        clear HN1 HVF HGO HBK HB2 hr1
        by_cases hnd:nd=nw
        · subst hnd
          have HVH:Hid (V=if VB=true then 0 else 2):=by rw [Hid,HVG.out,if_neg (fun h=>h rfl)]
          clear HVG
          obtain ⟨wp,rfl⟩:∃ wp,wp=wr:=⟨wr,rfl⟩
          go_wp2
          go_loopw [8] (fun u wx=>NdR wp secs sws needs nd VB u wx) (fun u _=>nd - (intOf u).toNat)
          case atStart=>exact ⟨0,Nat.zero_le _,rfl,HVB.out,Below.refl _ _⟩
          case round =>
           clear HVB
           obtain ⟨i,hi,rfl,hgo,hb⟩:=hrel
           have HGO:=Lib.hid hgo
           have HBK:=Lib.hid hb
           have hr1:=HR1.out.below (hb.mono (by omega))
           have hr2:=HR2.out.below (hb.mono (by omega))
           have hrw:=HRW.out.below (hb.mono (by omega))
           have hsi:=hb.size
           replace d0:=zat hb d0
           replace d1:=zat hb d1
           replace d2:=zat hb d2
           replace e0:=zat hb e0
           replace e2:=zat hb e2
           replace e3:=zat hb e3
           clear hgo hb
           by_cases hlt2:i<nd
           · have hil:i<needs.length:=by rw [HL2.out];exact hlt2
             have hiw:i<sws.length:=by rw [HLW.out];exact hlt2
             obtain ⟨q,hev⟩:∃ ev,needs[i]?=some ev:=⟨_,List.getElem?_eq_getElem hil⟩
             obtain ⟨⟨snm,sq⟩,hew⟩:∃ ev,sws[i]?=some ev:=⟨_,List.getElem?_eq_getElem hiw⟩
             obtain ⟨b9,off9,hA9,hb9B,z0⟩:=hr2.at_ (k:=i) (u:=.int .i64 q) (by simp [zai,hev])
             obtain ⟨b8,off8,hA8,hb8B,y0,y1⟩:=Rd.sw hrw hew
             simp only at y0 y1
             subst hA9 hA8
             obtain ⟨bh,hbh⟩:∃ b,ze1 secs sq=b:=⟨_,rfl⟩
             have TX:=fun (y:Xt wr)=>Has_val Aq nq cq _ secs sq bh hbh y.1 (by omega) HL1.out (hr1.below (y.2.mono (by omega)))
             have HST:Hid (((if bh=true then zf4 q else decide (q=-1)) && ndB secs (sws.drop (i+1)) (needs.drop (i+1)))=VB):=by
              have h9:=HGO.out
              rw [za9 hev,za9 hew,ndB] at h9
              rw [Hid,← h9,hbh]
              cases bh <;> rfl
             clear hil hiw hev hew hbh HGO
             go_upto_region 25 with (fail)
             have x1:=fun y:Xt wr=>y.cell d1
             have x2:=fun y:Xt wr=>y.cell e2
             have x3:=fun y:Xt wr=>y.cell y1
             refine za5 (by kernel_rfl) (by kernel_rfl) ?_
             repeat (go_big_quiet_step (first | (go_at_call 185;exact Xt.calls_same (TX _))))
             refine wpQuiet_nil ?_
             intro wb hx
             have hb3:=Xt.below hx
             have HB6:=Lib.hid (HBK.out.trans (hb3.mono hsi))
             replace z0:=zat hb3 z0
             replace d2:=zat hb3 d2
             clear x1 x2 x3 hx TX y0 y1 HBK e0 e2 e3 d0 d1 hb3 hr1 hr2 hrw
             cases bh with
             | true =>
              obtain ⟨bq,hbq⟩:∃ b,zf4 q=b:=⟨_,rfl⟩
              have IP:=fun W=>za1 q 0 1 bq (by rw [zk1];exact hbq) W
              have HST2:Hid ((bq && ndB secs (sws.drop (i+1)) (needs.drop (i+1)))=VB):=by rw [Hid,← HST.out,← hbq];rfl
              clear hbq HST
              cases bq with
              | true =>
               go_wp2_with (go_at_call 9;refine (IP _).mono ?_;rintro e w' ⟨rfl,rfl⟩)
               go_roundw
               case rel=>exact ⟨i+1,by omega,by go_num,HST2.out,HB6.out⟩
               case measure=>simp [intOf];omega
              | false =>
               have HV9:Hid (V=2):=by rw [Hid,HVH.out,← HST2.out];rfl
               go_wp2_with (go_at_call 9;refine (IP _).mono ?_;rintro e w' ⟨rfl,rfl⟩)
               go_ret
               exact ⟨by rw [HV9.out];rfl,by rw [HBW.out];exact HB4.out.trans (HB6.out.mono (by omega))⟩
             | false =>
              by_cases hq:q=-1
              · have HST2:Hid (ndB secs (sws.drop (i+1)) (needs.drop (i+1))=VB):=by rw [Hid,← HST.out];simp [hq]
                subst hq
                go_wp2
                go_roundw
                case rel=>exact ⟨i+1,by omega,by go_num,HST2.out,HB6.out⟩
                case measure=>simp [intOf];omega
              · have hq1:(q != -1)=true:=by simp [hq]
                have HV9:Hid (V=2):=by
                 have h9:=HST.out
                 simp [hq] at h9
                 rw [Hid,HVH.out,h9]
                 rfl
                clear hq HST
                go_wp2
                go_ret
                exact ⟨by rw [HV9.out];rfl,by rw [HBW.out];exact HB4.out.trans (HB6.out.mono (by omega))⟩
           · have HN1:Hid (VB=true):=by
              have h9:=HGO.out
              rw [List.drop_eq_nil_iff.2 (show sws.length≤i by rw [HLW.out];omega),List.drop_eq_nil_iff.2 (show needs.length≤i by rw [HL2.out];omega)] at h9
              rw [Hid,← h9]
              rfl
             have HV9:Hid (V=0):=by rw [Hid,HVH.out,HN1.out];rfl
             go_wp2
             go_ret
             exact ⟨by rw [HV9.out];rfl,by rw [HBW.out];exact HB4.out.trans (HBK.out.mono (by omega))⟩
        · have hnd1:((nd:Int) != (nw:Int))=true:=by simp;omega
          have HV9:Hid (V=10):=by rw [Hid,HVG.out,if_pos hnd]
          clear hnd HVG
          go_wp2
          go_ret
          exact ⟨by rw [HV9.out];rfl,by rw [HBW.out];exact HB4.out⟩
end Go.Proofs.YtoodbfkbbchjiaaGreatDoor
