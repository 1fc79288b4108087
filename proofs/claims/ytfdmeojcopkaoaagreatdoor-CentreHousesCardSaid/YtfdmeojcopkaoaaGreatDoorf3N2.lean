import Derived.Test.YtfdmeojcopkaoaaGreatDoorf3Q6
import Derived.Test.YtfdmeojcopkaoaaGreatDoorf3K3
set_option maxRecDepth 100000
set_option maxHeartbeats 16000000
namespace Go.Proofs.YtfdmeojcopkaoaaGreatDoor
open Go.RowKit
theorem role_val (w:World) (B x:Nat) (A:Option Addr) (n c:Nat) (l:List Sw) (hl:l.length=n) (hr:Rd w B A (zbk l)) (hp:w.cell? ⟨x,24,none⟩=some (.slice A n c)) (k:Nat) (y:Sw) (hk:l[k]?=some y) :
 Calls Tryz.prog 26 #[.int .i64 k,.pointer (some ⟨x,0,none⟩)] w (zax w (zaf (zai y.2 0 3) 15)):=by
 have hkl:k<l.length:=(List.getElem?_eq_some_iff.1 hk).1
 have hkn:k<n:=by rw [← hl];exact hkl
 obtain ⟨bb,off,rfl,hbB,z0,z1⟩:=Rd.sw hr hk
 obtain ⟨s,r⟩:=y
 simp only at z0 z1
 obtain ⟨b,hb⟩:∃ b,zai r 0 3=b:=⟨_,rfl⟩
 have WI:=fun W=>cnWithin_val r 0 3 b hb W
 have HB:=Lib.hid hb
 clear hb hr hl hk hkl
 go_enter Tryz.func26,Tryz.ntmps26
 go_wp2_with (first | (go_at_call 27;refine (WI _).mono ?_;rintro e w' ⟨rfl,rfl⟩) | (go_at_call 23;refine (zcr _ _ _).mono ?_;rintro e w' ⟨rfl,rfl⟩))
 go_ret
 exact ⟨by rw [HB.out];rfl,Below.refl _ _⟩
theorem isChief_val (s:ByteArray) (r:Int) (w:World):Calls Tryz.prog 29 #[.agg #[.string s,.int .i64 r]] w fun e w'=>e=.returned (.bool (r == 3))∧Below w.heap.size w w':=by
 obtain ⟨c0,c1⟩:_∧_:=zay (W:=w.alloc (.cells #[.string s,.int .i64 r] 77)) (by rw [zae,if_pos rfl])
 have hb0:=hB1 w (.cells #[.string s,.int .i64 r] 77)
 go_enter Tryz.func29,Tryz.ntmps29
 go_wp2
 go_ret
 exact ⟨rfl,hb0⟩
def PcRel (w0:World) (l:List Sw) (n:Nat) (V:Int) (u:Value) (wr:World):Prop:=∃ k:Nat,k≤n∧u=.int .i64 k∧za0 (fun x:Sw=>x.2 == 3) (l.drop k) k=V∧Below w0.heap.size w0 wr
theorem IndexCh_any (A:Option Addr) (n c B:Nat) (l:List Sw) (w:World) (hn:n≤1000000000) (hl:l.length=n) (h:Rd w B A (zbk l)) (hB:B≤w.heap.size) :
 Calls Tryz.prog 90 #[.slice A n c,.func (.func 29) #[] #[]] w (zax w (za0 (fun x:Sw=>x.2 == 3) l 0)):=by
 have HL:=Lib.hid hl;clear hl
 obtain ⟨V,hV⟩:∃ V,za0 (fun x:Sw=>x.2 == 3) l 0=V:=⟨_,rfl⟩
 rw [hV]
 have HV:=Lib.hid hV
 clear hV
 go_enter Tryz.func90,Tryz.ntmps90
 go_wp2
 go_loopw [5,8] (fun _ i wr=>PcRel w l n V i wr) (fun _ i _=>n - (intOf i).toNat)
 case atStart=>exact ⟨0,Nat.zero_le _,rfl,HV.out,Below.refl _ _⟩
 case round =>
  obtain ⟨k,hk,rfl,he,hb⟩:=hrel
  have HE:=Lib.hid he
  have HB:=Lib.hid hb
  have hr:=h.below (hb.mono hB)
  have hsk:=hb.size
  clear he hb
  by_cases hlt:k<n
  · have hkl:k<l.length:=by rw [HL.out];exact hlt
    obtain ⟨ev,hev⟩:∃ ev,l[k]?=some ev:=⟨_,List.getElem?_eq_getElem hkl⟩
    obtain ⟨bb,off,rfl,hbB,z0,z1⟩:=Rd.sw hr hev
    have HS:=Lib.hid (za5 hev)
    obtain ⟨nm,x⟩:=ev
    simp only at z0 z1
    have SS:=isChief_val nm x wr
    clear hkl hev
    by_cases hx:x=3
    · subst hx
      have HV9:Hid (V=k):=by rw [Hid,← HE.out,HS.out,za0];simp
      rw [show ((3:Int) == 3)=true from rfl] at SS
      go_wp2_with (go_at_call 29;refine SS.mono ?_;rintro e w9 ⟨rfl,hb9⟩)
      go_ret
      exact ⟨by rw [HV9.out];rfl,HB.out.trans (hb9.mono hsk)⟩
    · have hx1:(x == 3)=false:=by simp [hx]
      rw [hx1] at SS
      have HN:Hid (za0 (fun x:Sw=>x.2 == 3) (l.drop (k+1)) (k+1)=V):=by
       have h9:=HE.out
       rw [HS.out,za0] at h9
       simp only [hx1] at h9
       exact h9
      go_wp2_with (go_at_call 29;refine SS.mono ?_;rintro e w9 ⟨rfl,hb9⟩)
      go_roundw
      case rel=>exact ⟨k+1,by omega,by go_num,HN.out,HB.out.trans (hb9.mono hsk)⟩
      case measure=>simp [intOf];omega
  · have HV9:Hid (V=-1):=by
     have h9:=HE.out
     rw [List.drop_eq_nil_iff.2 (by rw [HL.out];omega),za0] at h9
     exact h9.symm
    go_wp2
    go_ret
    exact ⟨by rw [HV9.out];rfl,HB.out⟩
theorem zjl (A:Option Addr) (n c B:Nat) (l:List Sw) (b:Bool) (hb:(l.any fun p=>decide (p.2=3))=b) (w:World) (hn:n≤1000000000) (hl:l.length=n) (h:Rd w B A (zbk l)) (hB:B≤w.heap.size) :
 Calls Tryz.prog 28 #[.slice A n c,.func (.func 29) #[] #[]] w fun e w'=>e=.returned (.bool b)∧Below w.heap.size w w':=by
 have HV:Hid (decide (0≤za0 (fun x:Sw=>x.2 == 3) l 0)=b):=by
  rw [Hid,zbv,← hb]
  exact congrArg (fun f=>l.any f) (funext fun a=>by by_cases h:a.2=3 <;> simp [h])
 clear hb
 have IX:=IndexCh_any A n c B l w hn hl h hB
 unfold zax at IX
 generalize za0 (fun x:Sw=>x.2 == 3) l 0=ix at *
 go_enter Tryz.func28,Tryz.ntmps28
 go_wp2_with (go_at_call 90;refine IX.mono ?_;rintro e w9 ⟨rfl,hb9⟩)
 go_ret
 exact ⟨by rw [← HV.out];rfl,hb9⟩
theorem ziy (l0:List Sw) (mE:Nat→Int) (hm:∀ k y,l0[k]?=some y→mE k=zaf (zai y.2 0 3) 15):∀ (l pre:List Sw),pre++l=l0→zfp (nkE mE) pre.length (pre.map (·.1)) (l.map (·.1))=zfp zi8 pre.length pre l
 | [],_,_=>rfl
 | x :: l,pre,he=>by
  have hx:l0[pre.length]?=some x:=by rw [← he];simp
  have e:nkE mE (pre.map (·.1)) x.1=zi8 pre x:=by
   unfold nkE zi8
   rw [List.length_map,hm _ _ hx]
  have ih:=ziy l0 mE hm l (pre++[x]) (by rw [← he];simp)
  rw [List.map_cons,zfp,zfp,e]
  simp only [List.length_append,List.length_cons,List.length_nil,List.map_append,List.map_cons,List.map_nil,Nat.zero_add] at ih
  rw [ih]
theorem zj3:∀ (l pre:List ByteArray) (k:Nat),zfp (nkE fun _=>0) k pre l=zfp nmE k pre l
 | [],_,_=>rfl
 | x :: l,pre,k=>by
  have e:nkE (fun _=>0) pre x=nmE pre x:=by
   unfold nkE nmE
   generalize zaf (zba x) 4=a
   generalize zaf (!zcy pre x) 5=b
   by_cases h:a=0 <;> by_cases g:b=0 <;> simp [zam,h,g]
  rw [zfp,zfp,e,zj3 l]
end Go.Proofs.YtfdmeojcopkaoaaGreatDoor
