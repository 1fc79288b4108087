import Derived.Test.YtfdmeojcopkaoaaGreatDoorf3KC
import Derived.Test.YtfdmeojcopkaoaaGreatDoorf3K3
import Derived.Test.YtfdmeojcopkaoaaGreatDoorf3S3
set_option maxRecDepth 100000
set_option maxHeartbeats 16000000
namespace Go.Proofs.YtfdmeojcopkaoaaGreatDoor
open Go.RowKit
def IxRel {α:Type} (w0:World) (l:List α) (p:α→Bool) (n:Nat) (V:Int) (u:Value) (wr:World):Prop:=∃ k:Nat,k≤n∧u=.int .i64 k∧za0 p (l.drop k) k=V∧Below w0.heap.size w0 wr
theorem Rd.lt {w:World} {B:Nat} {A:Option Addr} {l:List LtV} (h:Rd w B A (zbo l)) {i:Nat} {x:LtV} (hi:l[i]?=some x) :
 ∃ b off,A=some ⟨b,off,none⟩∧b<B∧w.cell? ⟨b,off+i * 2,none⟩=some (.slice x.s.A x.s.n x.s.c)∧w.cell? ⟨b,off+i * 2+1,none⟩=some (.int .i64 x.under):=by
 obtain ⟨b,off,e,hb,c⟩:=Rd.row (k:=2) (vals:=zgk) h (fun _=>rfl) (by decide) hi
 exact ⟨b,off,e,hb,c 0 _ rfl,c 1 _ rfl⟩
theorem Index76_314 (A:Option Addr) (n c B:Nat) (l:List Int) (p:Int→Bool) (w:World) (hn:n≤1000000000) (hl:l.length=n) (h:Rd w B A (zah l)) (hB:B≤w.heap.size)
 (hp:∀ (W:World) (x:Int),Below w.heap.size w W→x∈l→Calls Tryz.prog 314 #[.int .i64 x] W fun e w'=>e=.returned (.bool (p x))∧Below W.heap.size W w') :
 Calls Tryz.prog 76 #[.slice A n c,.func (.func 314) #[] #[]] w (zax w (za0 p l 0)):=by
 have HL:=Lib.hid hl
 have HP:=Lib.hid hp
 clear hl hp
 obtain ⟨V,hV⟩:∃ V,za0 p l 0=V:=⟨_,rfl⟩
 rw [hV]
 have HV:=Lib.hid hV
 clear hV
 go_enter Tryz.func76,Tryz.ntmps76
 go_wp2
 go_loopw [5,8] (fun _ i wr=>IxRel w l p n V i wr) (fun _ i _=>n - (intOf i).toNat)
 case atStart=>exact ⟨0,Nat.zero_le _,rfl,HV.out,Below.refl _ _⟩
 case round =>
  obtain ⟨k,hk,rfl,he,hb⟩:=hrel
  have HE:=Lib.hid he
  have HB:=Lib.hid hb
  have hr:=h.below (hb.mono hB)
  have hsk:=hb.size
  clear he
  by_cases hlt:k<n
  · have hkl:k<l.length:=by rw [HL.out];exact hlt
    obtain ⟨x,hx⟩:∃ x,l[k]?=some x:=⟨_,List.getElem?_eq_getElem hkl⟩
    obtain ⟨bb,off,rfl,hbB,z0⟩:=hr.at_ (k:=k) (u:=.int .i64 x) (by simp only [zah,List.getElem?_map,hx,Option.map_some])
    have HS:=Lib.hid (za5 hx)
    have SS:=HP.out wr x hb (List.mem_of_getElem? hx)
    clear hkl hx hb hr
    cases hpx:p x with
    | true =>
     have HV9:Hid (V=k):=by rw [Hid,← HE.out,HS.out,za0];simp [hpx]
     rw [hpx] at SS
     clear hpx
     go_wp2_with (go_at_call 314;refine SS.mono ?_;rintro e w9 ⟨rfl,hb9⟩)
     go_ret
     exact ⟨by rw [HV9.out];rfl,HB.out.trans (hb9.mono hsk)⟩
    | false =>
     rw [hpx] at SS
     have HN:Hid (za0 p (l.drop (k+1)) (k+1)=V):=by
      have h9:=HE.out
      rw [HS.out,za0] at h9
      simp only [hpx] at h9
      exact h9
     clear hpx
     go_wp2_with (go_at_call 314;refine SS.mono ?_;rintro e w9 ⟨rfl,hb9⟩)
     go_roundw
     case rel=>exact ⟨k+1,by omega,by go_num,HN.out,HB.out.trans (hb9.mono hsk)⟩
     case measure=>simp [intOf];omega
  · have HV9:Hid (V=-1):=by
     have h9:=HE.out
     rw [List.drop_eq_nil_iff.2 (by rw [HL.out];omega),za0] at h9
     exact h9.symm
    clear hb hr
    go_wp2
    go_ret
    exact ⟨by rw [HV9.out];rfl,HB.out⟩
theorem zi7 (A:Option Addr) (n c B:Nat) (l:List Int) (p:Int→Bool) (b:Bool) (hb:l.any p=b) (w:World) (hn:n≤1000000000) (hl:l.length=n) (h:Rd w B A (zah l)) (hB:B≤w.heap.size)
 (hp:∀ (W:World) (x:Int),Below w.heap.size w W→x∈l→Calls Tryz.prog 314 #[.int .i64 x] W fun e w'=>e=.returned (.bool (p x))∧Below W.heap.size W w') :
 Calls Tryz.prog 209 #[.slice A n c,.func (.func 314) #[] #[]] w fun e w'=>e=.returned (.bool b)∧Below w.heap.size w w':=by
 have HV:Hid (decide (0≤za0 p l 0)=b):=by rw [Hid,zbv,hb]
 have IX:=Index76_314 A n c B l p w hn hl h hB hp
 unfold zax at IX
 clear hb hp h
 generalize za0 p l 0=ix at *
 go_enter Tryz.func209,Tryz.ntmps209
 go_wp2_with (go_at_call 76;refine IX.mono ?_;rintro e w9 ⟨rfl,hb9⟩)
 go_ret
 exact ⟨by rw [← HV.out];rfl,hb9⟩
theorem Index76_359 (A:Option Addr) (n c B:Nat) (l:List Int) (p:Int→Bool) (q:Nat) (w:World) (hn:n≤1000000000) (hl:l.length=n) (h:Rd w B A (zah l)) (hB:B≤w.heap.size)
 (hp:∀ (W:World) (x:Int),Below w.heap.size w W→x∈l→Calls Tryz.prog 359 #[.int .i64 x,.pointer (some ⟨q,0,none⟩)] W fun e w'=>e=.returned (.bool (p x))∧Below W.heap.size W w') :
 Calls Tryz.prog 76 #[.slice A n c,.func (.func 359) #[] #[.pointer (some ⟨q,0,none⟩)]] w (zax w (za0 p l 0)):=by
 have HL:=Lib.hid hl
 have HP:=Lib.hid hp
 clear hl hp
 obtain ⟨V,hV⟩:∃ V,za0 p l 0=V:=⟨_,rfl⟩
 rw [hV]
 have HV:=Lib.hid hV
 clear hV
 go_enter Tryz.func76,Tryz.ntmps76
 go_wp2
 go_loopw [5,8] (fun _ i wr=>IxRel w l p n V i wr) (fun _ i _=>n - (intOf i).toNat)
 case atStart=>exact ⟨0,Nat.zero_le _,rfl,HV.out,Below.refl _ _⟩
 case round =>
  obtain ⟨k,hk,rfl,he,hb⟩:=hrel
  have HE:=Lib.hid he
  have HB:=Lib.hid hb
  have hr:=h.below (hb.mono hB)
  have hsk:=hb.size
  clear he
  by_cases hlt:k<n
  · have hkl:k<l.length:=by rw [HL.out];exact hlt
    obtain ⟨x,hx⟩:∃ x,l[k]?=some x:=⟨_,List.getElem?_eq_getElem hkl⟩
    obtain ⟨bb,off,rfl,hbB,z0⟩:=hr.at_ (k:=k) (u:=.int .i64 x) (by simp only [zah,List.getElem?_map,hx,Option.map_some])
    have HS:=Lib.hid (za5 hx)
    have SS:=HP.out wr x hb (List.mem_of_getElem? hx)
    clear hkl hx hb hr
    cases hpx:p x with
    | true =>
     have HV9:Hid (V=k):=by rw [Hid,← HE.out,HS.out,za0];simp [hpx]
     rw [hpx] at SS
     clear hpx
     go_wp2_with (go_at_call 359;refine SS.mono ?_;rintro e w9 ⟨rfl,hb9⟩)
     go_ret
     exact ⟨by rw [HV9.out];rfl,HB.out.trans (hb9.mono hsk)⟩
    | false =>
     rw [hpx] at SS
     have HN:Hid (za0 p (l.drop (k+1)) (k+1)=V):=by
      have h9:=HE.out
      rw [HS.out,za0] at h9
      simp only [hpx] at h9
      exact h9
     clear hpx
     go_wp2_with (go_at_call 359;refine SS.mono ?_;rintro e w9 ⟨rfl,hb9⟩)
     go_roundw
     case rel=>exact ⟨k+1,by omega,by go_num,HN.out,HB.out.trans (hb9.mono hsk)⟩
     case measure=>simp [intOf];omega
  · have HV9:Hid (V=-1):=by
     have h9:=HE.out
     rw [List.drop_eq_nil_iff.2 (by rw [HL.out];omega),za0] at h9
     exact h9.symm
    clear hb hr
    go_wp2
    go_ret
    exact ⟨by rw [HV9.out];rfl,HB.out⟩
theorem zi6 (A:Option Addr) (n c B:Nat) (l:List Int) (p:Int→Bool) (b:Bool) (hb:l.any p=b) (q:Nat) (w:World) (hn:n≤1000000000) (hl:l.length=n) (h:Rd w B A (zah l)) (hB:B≤w.heap.size)
 (hp:∀ (W:World) (x:Int),Below w.heap.size w W→x∈l→Calls Tryz.prog 359 #[.int .i64 x,.pointer (some ⟨q,0,none⟩)] W fun e w'=>e=.returned (.bool (p x))∧Below W.heap.size W w') :
 Calls Tryz.prog 209 #[.slice A n c,.func (.func 359) #[] #[.pointer (some ⟨q,0,none⟩)]] w fun e w'=>e=.returned (.bool b)∧Below w.heap.size w w':=by
 have HV:Hid (decide (0≤za0 p l 0)=b):=by rw [Hid,zbv,hb]
 have IX:=Index76_359 A n c B l p q w hn hl h hB hp
 unfold zax at IX
 clear hb hp h
 generalize za0 p l 0=ix at *
 go_enter Tryz.func209,Tryz.ntmps209
 go_wp2_with (go_at_call 76;refine IX.mono ?_;rintro e w9 ⟨rfl,hb9⟩)
 go_ret
 exact ⟨by rw [← HV.out];rfl,hb9⟩
theorem Index76_210 (A:Option Addr) (n c B:Nat) (l:List Int) (p:Int→Bool) (q:Nat) (w:World) (hn:n≤1000000000) (hl:l.length=n) (h:Rd w B A (zah l)) (hB:B≤w.heap.size)
 (hp:∀ (W:World) (x:Int),Below w.heap.size w W→x∈l→Calls Tryz.prog 210 #[.int .i64 x,.pointer (some ⟨q,0,none⟩)] W fun e w'=>e=.returned (.bool (p x))∧Below W.heap.size W w') :
 Calls Tryz.prog 76 #[.slice A n c,.func (.func 210) #[] #[.pointer (some ⟨q,0,none⟩)]] w (zax w (za0 p l 0)):=by
 have HL:=Lib.hid hl
 have HP:=Lib.hid hp
 clear hl hp
 obtain ⟨V,hV⟩:∃ V,za0 p l 0=V:=⟨_,rfl⟩
 rw [hV]
 have HV:=Lib.hid hV
 clear hV
 go_enter Tryz.func76,Tryz.ntmps76
 go_wp2
 go_loopw [5,8] (fun _ i wr=>IxRel w l p n V i wr) (fun _ i _=>n - (intOf i).toNat)
 case atStart=>exact ⟨0,Nat.zero_le _,rfl,HV.out,Below.refl _ _⟩
 case round =>
  obtain ⟨k,hk,rfl,he,hb⟩:=hrel
  have HE:=Lib.hid he
  have HB:=Lib.hid hb
  have hr:=h.below (hb.mono hB)
  have hsk:=hb.size
  clear he
  by_cases hlt:k<n
  · have hkl:k<l.length:=by rw [HL.out];exact hlt
    obtain ⟨x,hx⟩:∃ x,l[k]?=some x:=⟨_,List.getElem?_eq_getElem hkl⟩
    obtain ⟨bb,off,rfl,hbB,z0⟩:=hr.at_ (k:=k) (u:=.int .i64 x) (by simp only [zah,List.getElem?_map,hx,Option.map_some])
    have HS:=Lib.hid (za5 hx)
    have SS:=HP.out wr x hb (List.mem_of_getElem? hx)
    clear hkl hx hb hr
    cases hpx:p x with
    | true =>
     have HV9:Hid (V=k):=by rw [Hid,← HE.out,HS.out,za0];simp [hpx]
     rw [hpx] at SS
     clear hpx
     go_wp2_with (go_at_call 210;refine SS.mono ?_;rintro e w9 ⟨rfl,hb9⟩)
     go_ret
     exact ⟨by rw [HV9.out];rfl,HB.out.trans (hb9.mono hsk)⟩
    | false =>
     rw [hpx] at SS
     have HN:Hid (za0 p (l.drop (k+1)) (k+1)=V):=by
      have h9:=HE.out
      rw [HS.out,za0] at h9
      simp only [hpx] at h9
      exact h9
     clear hpx
     go_wp2_with (go_at_call 210;refine SS.mono ?_;rintro e w9 ⟨rfl,hb9⟩)
     go_roundw
     case rel=>exact ⟨k+1,by omega,by go_num,HN.out,HB.out.trans (hb9.mono hsk)⟩
     case measure=>simp [intOf];omega
  · have HV9:Hid (V=-1):=by
     have h9:=HE.out
     rw [List.drop_eq_nil_iff.2 (by rw [HL.out];omega),za0] at h9
     exact h9.symm
    clear hb hr
    go_wp2
    go_ret
    exact ⟨by rw [HV9.out];rfl,HB.out⟩
theorem zc9 (A:Option Addr) (n c B:Nat) (l:List Int) (p:Int→Bool) (b:Bool) (hb:l.any p=b) (q:Nat) (w:World) (hn:n≤1000000000) (hl:l.length=n) (h:Rd w B A (zah l)) (hB:B≤w.heap.size)
 (hp:∀ (W:World) (x:Int),Below w.heap.size w W→x∈l→Calls Tryz.prog 210 #[.int .i64 x,.pointer (some ⟨q,0,none⟩)] W fun e w'=>e=.returned (.bool (p x))∧Below W.heap.size W w') :
 Calls Tryz.prog 209 #[.slice A n c,.func (.func 210) #[] #[.pointer (some ⟨q,0,none⟩)]] w fun e w'=>e=.returned (.bool b)∧Below w.heap.size w w':=by
 have HV:Hid (decide (0≤za0 p l 0)=b):=by rw [Hid,zbv,hb]
 have IX:=Index76_210 A n c B l p q w hn hl h hB hp
 unfold zax at IX
 clear hb hp h
 generalize za0 p l 0=ix at *
 go_enter Tryz.func209,Tryz.ntmps209
 go_wp2_with (go_at_call 76;refine IX.mono ?_;rintro e w9 ⟨rfl,hb9⟩)
 go_ret
 exact ⟨by rw [← HV.out];rfl,hb9⟩
theorem Index236_392 (A:Option Addr) (n c B:Nat) (l:List LtV) (p:LtV→Bool) (q:Nat) (w:World) (hn:n≤1000000000) (hl:l.length=n) (h:Rd w B A (zbo l)) (hB:B≤w.heap.size)
 (hp:∀ (W:World) (x:LtV),Below w.heap.size w W→x∈l→Calls Tryz.prog 392 #[.agg #[.slice x.s.A x.s.n x.s.c,.int .i64 x.under],.pointer (some ⟨q,0,none⟩)] W fun e w'=>e=.returned (.bool (p x))∧Below W.heap.size W w') :
 Calls Tryz.prog 236 #[.slice A n c,.func (.func 392) #[] #[.pointer (some ⟨q,0,none⟩)]] w (zax w (za0 p l 0)):=by
 have HL:=Lib.hid hl
 have HP:=Lib.hid hp
 clear hl hp
 obtain ⟨V,hV⟩:∃ V,za0 p l 0=V:=⟨_,rfl⟩
 rw [hV]
 have HV:=Lib.hid hV
 clear hV
 go_enter Tryz.func236,Tryz.ntmps236
 go_wp2
 go_loopw [5,8] (fun _ i wr=>IxRel w l p n V i wr) (fun _ i _=>n - (intOf i).toNat)
 case atStart=>exact ⟨0,Nat.zero_le _,rfl,HV.out,Below.refl _ _⟩
 case round =>
  obtain ⟨k,hk,rfl,he,hb⟩:=hrel
  have HE:=Lib.hid he
  have HB:=Lib.hid hb
  have hr:=h.below (hb.mono hB)
  have hsk:=hb.size
  clear he
  by_cases hlt:k<n
  · have hkl:k<l.length:=by rw [HL.out];exact hlt
    obtain ⟨x,hx⟩:∃ x,l[k]?=some x:=⟨_,List.getElem?_eq_getElem hkl⟩
    obtain ⟨bb,off,rfl,hbB,z0,z1⟩:=Rd.lt hr hx
    have HS:=Lib.hid (za5 hx)
    have SS:=HP.out wr x hb (List.mem_of_getElem? hx)
    clear hkl hx hb hr
    cases hpx:p x with
    | true =>
     have HV9:Hid (V=k):=by rw [Hid,← HE.out,HS.out,za0];simp [hpx]
     rw [hpx] at SS
     clear hpx
     go_wp2_with (go_at_call 392;refine SS.mono ?_;rintro e w9 ⟨rfl,hb9⟩)
     go_ret
     exact ⟨by rw [HV9.out];rfl,HB.out.trans (hb9.mono hsk)⟩
    | false =>
     rw [hpx] at SS
     have HN:Hid (za0 p (l.drop (k+1)) (k+1)=V):=by
      have h9:=HE.out
      rw [HS.out,za0] at h9
      simp only [hpx] at h9
      exact h9
     clear hpx
     go_wp2_with (go_at_call 392;refine SS.mono ?_;rintro e w9 ⟨rfl,hb9⟩)
     go_roundw
     case rel=>exact ⟨k+1,by omega,by go_num,HN.out,HB.out.trans (hb9.mono hsk)⟩
     case measure=>simp [intOf];omega
  · have HV9:Hid (V=-1):=by
     have h9:=HE.out
     rw [List.drop_eq_nil_iff.2 (by rw [HL.out];omega),za0] at h9
     exact h9.symm
    clear hb hr
    go_wp2
    go_ret
    exact ⟨by rw [HV9.out];rfl,HB.out⟩
theorem Index236_237 (A:Option Addr) (n c B:Nat) (l:List LtV) (p:LtV→Bool) (q:Nat) (w:World) (hn:n≤1000000000) (hl:l.length=n) (h:Rd w B A (zbo l)) (hB:B≤w.heap.size)
 (hp:∀ (W:World) (x:LtV),Below w.heap.size w W→x∈l→Calls Tryz.prog 237 #[.agg #[.slice x.s.A x.s.n x.s.c,.int .i64 x.under],.pointer (some ⟨q,0,none⟩)] W fun e w'=>e=.returned (.bool (p x))∧Below W.heap.size W w') :
 Calls Tryz.prog 236 #[.slice A n c,.func (.func 237) #[] #[.pointer (some ⟨q,0,none⟩)]] w (zax w (za0 p l 0)):=by
 have HL:=Lib.hid hl
 have HP:=Lib.hid hp
 clear hl hp
 obtain ⟨V,hV⟩:∃ V,za0 p l 0=V:=⟨_,rfl⟩
 rw [hV]
 have HV:=Lib.hid hV
 clear hV
 go_enter Tryz.func236,Tryz.ntmps236
 go_wp2
 go_loopw [5,8] (fun _ i wr=>IxRel w l p n V i wr) (fun _ i _=>n - (intOf i).toNat)
 case atStart=>exact ⟨0,Nat.zero_le _,rfl,HV.out,Below.refl _ _⟩
 case round =>
  obtain ⟨k,hk,rfl,he,hb⟩:=hrel
  have HE:=Lib.hid he
  have HB:=Lib.hid hb
  have hr:=h.below (hb.mono hB)
  have hsk:=hb.size
  clear he
  by_cases hlt:k<n
  · have hkl:k<l.length:=by rw [HL.out];exact hlt
    obtain ⟨x,hx⟩:∃ x,l[k]?=some x:=⟨_,List.getElem?_eq_getElem hkl⟩
    obtain ⟨bb,off,rfl,hbB,z0,z1⟩:=Rd.lt hr hx
    have HS:=Lib.hid (za5 hx)
    have SS:=HP.out wr x hb (List.mem_of_getElem? hx)
    clear hkl hx hb hr
    cases hpx:p x with
    | true =>
     have HV9:Hid (V=k):=by rw [Hid,← HE.out,HS.out,za0];simp [hpx]
     rw [hpx] at SS
     clear hpx
     go_wp2_with (go_at_call 237;refine SS.mono ?_;rintro e w9 ⟨rfl,hb9⟩)
     go_ret
     exact ⟨by rw [HV9.out];rfl,HB.out.trans (hb9.mono hsk)⟩
    | false =>
     rw [hpx] at SS
     have HN:Hid (za0 p (l.drop (k+1)) (k+1)=V):=by
      have h9:=HE.out
      rw [HS.out,za0] at h9
      simp only [hpx] at h9
      exact h9
     clear hpx
     go_wp2_with (go_at_call 237;refine SS.mono ?_;rintro e w9 ⟨rfl,hb9⟩)
     go_roundw
     case rel=>exact ⟨k+1,by omega,by go_num,HN.out,HB.out.trans (hb9.mono hsk)⟩
     case measure=>simp [intOf];omega
  · have HV9:Hid (V=-1):=by
     have h9:=HE.out
     rw [List.drop_eq_nil_iff.2 (by rw [HL.out];omega),za0] at h9
     exact h9.symm
    clear hb hr
    go_wp2
    go_ret
    exact ⟨by rw [HV9.out];rfl,HB.out⟩
theorem zd2 (A:Option Addr) (n c B:Nat) (l:List Sw) (p:Sw→Bool) (q:Nat) (w:World) (hn:n≤1000000000) (hl:l.length=n) (h:Rd w B A (zbk l)) (hB:B≤w.heap.size)
 (hp:∀ (W:World) (x:Sw),Below w.heap.size w W→x∈l→Calls Tryz.prog 145 #[.agg #[.string x.1,.int .i64 x.2],.pointer (some ⟨q,0,none⟩)] W fun e w'=>e=.returned (.bool (p x))∧Below W.heap.size W w') :
 Calls Tryz.prog 90 #[.slice A n c,.func (.func 145) #[] #[.pointer (some ⟨q,0,none⟩)]] w (zax w (za0 p l 0)):=by
 have HL:=Lib.hid hl
 have HP:=Lib.hid hp
 clear hl hp
 obtain ⟨V,hV⟩:∃ V,za0 p l 0=V:=⟨_,rfl⟩
 rw [hV]
 have HV:=Lib.hid hV
 clear hV
 go_enter Tryz.func90,Tryz.ntmps90
 go_wp2
 go_loopw [5,8] (fun _ i wr=>IxRel w l p n V i wr) (fun _ i _=>n - (intOf i).toNat)
 case atStart=>exact ⟨0,Nat.zero_le _,rfl,HV.out,Below.refl _ _⟩
 case round =>
  obtain ⟨k,hk,rfl,he,hb⟩:=hrel
  have HE:=Lib.hid he
  have HB:=Lib.hid hb
  have hr:=h.below (hb.mono hB)
  have hsk:=hb.size
  clear he
  by_cases hlt:k<n
  · have hkl:k<l.length:=by rw [HL.out];exact hlt
    obtain ⟨x,hx⟩:∃ x,l[k]?=some x:=⟨_,List.getElem?_eq_getElem hkl⟩
    obtain ⟨bb,off,rfl,hbB,z0,z1⟩:=Rd.sw hr hx
    have HS:=Lib.hid (za5 hx)
    have SS:=HP.out wr x hb (List.mem_of_getElem? hx)
    clear hkl hx hb hr
    cases hpx:p x with
    | true =>
     have HV9:Hid (V=k):=by rw [Hid,← HE.out,HS.out,za0];simp [hpx]
     rw [hpx] at SS
     clear hpx
     go_wp2_with (go_at_call 145;refine SS.mono ?_;rintro e w9 ⟨rfl,hb9⟩)
     go_ret
     exact ⟨by rw [HV9.out];rfl,HB.out.trans (hb9.mono hsk)⟩
    | false =>
     rw [hpx] at SS
     have HN:Hid (za0 p (l.drop (k+1)) (k+1)=V):=by
      have h9:=HE.out
      rw [HS.out,za0] at h9
      simp only [hpx] at h9
      exact h9
     clear hpx
     go_wp2_with (go_at_call 145;refine SS.mono ?_;rintro e w9 ⟨rfl,hb9⟩)
     go_roundw
     case rel=>exact ⟨k+1,by omega,by go_num,HN.out,HB.out.trans (hb9.mono hsk)⟩
     case measure=>simp [intOf];omega
  · have HV9:Hid (V=-1):=by
     have h9:=HE.out
     rw [List.drop_eq_nil_iff.2 (by rw [HL.out];omega),za0] at h9
     exact h9.symm
    clear hb hr
    go_wp2
    go_ret
    exact ⟨by rw [HV9.out];rfl,HB.out⟩
end Go.Proofs.YtfdmeojcopkaoaaGreatDoor
namespace Go.Proofs.YtfdmeojcopkaoaaGreatDoor
open Go.RowKit
structure LnAt (w:World) (B b:Nat) (p:PlantV) (q:LsV):Prop where
 blk:w.heap[b]?=some (.cells #[p.ss.v,p.ts.v,p.ws.v,p.rs.v,q.sw.v,q.tr.v,.int .i64 q.ctr] 427 (0,0))
 plant:PlantAt w B p
 st:LsAt w B q
theorem LsAt.keep {w w':World} {B:Nat} {q:LsV} (h:LsAt w B q) (hb:Below w.heap.size w w'):LsAt w' B q:=
 ⟨h.sws.keep hb,h.trs.keep hb,fun t ht=>(h.t t ht).keep hb,h.cap⟩
theorem LnAt.keep {w w':World} {B b:Nat} {p:PlantV} {q:LsV} (h:LnAt w B b p q) (hb:Below w.heap.size w w'):LnAt w' B b p q:=
 ⟨(hb.block b (lt_of_block h.blk)).trans h.blk,h.plant.keep hb,h.st.keep hb⟩
theorem zdb {W:World} {r t:Nat} {a0 a1 a2 a3 a4 a5 a6:Value} (h:W.heap[r]?=some (.cells #[a0,a1,a2,a3,a4,a5,a6] t (0,0))) :
 W.cell? ⟨r,0,none⟩=some a0∧W.cell? ⟨r,1,none⟩=some a1∧W.cell? ⟨r,2,none⟩=some a2∧W.cell? ⟨r,3,none⟩=some a3∧W.cell? ⟨r,4,none⟩=some a4∧W.cell? ⟨r,5,none⟩=some a5∧W.cell? ⟨r,6,none⟩=some a6:=by
 refine ⟨?_,?_,?_,?_,?_,?_,?_⟩ <;> rw [cell_of_row _ _ _ _ _ _ h] <;> rfl
theorem notPos_val (x:Int) (b:Bool) (h:zfq x=b) (w:World):Calls Tryz.prog 314 #[.int .i64 x] w fun e w'=>e=.returned (.bool (!b))∧w=w':=by
 have I:=fun W=>isPos_val x b h W
 clear h
 go_enter Tryz.func314,Tryz.ntmps314
 go_wp2_with (go_at_call 122;refine (I _).mono ?_;rintro e w' ⟨rfl,rfl⟩)
 go_ret
 exact ⟨rfl,rfl⟩
theorem isByte_val (x:Int) (b:Bool) (h:zai x 0 250=b) (w:World):Calls Tryz.prog 315 #[.int .i64 x] w fun e w'=>e=.returned (.bool b)∧w=w':=by
 have I:=fun W=>zb1 x 0 250 b h W
 clear h
 go_enter Tryz.func315,Tryz.ntmps315
 go_wp2_with (go_at_call 120;refine (I _).mono ?_;rintro e w' ⟨rfl,rfl⟩)
 go_ret
 exact ⟨rfl,rfl⟩
theorem zjz (x:Int) (b:Bool) (h:zai x 0 6=b) (w:World):Calls Tryz.prog 317 #[.int .i64 x] w fun e w'=>e=.returned (.bool b)∧w=w':=by
 have I:=fun W=>zb1 x 0 6 b h W
 clear h
 go_enter Tryz.func317,Tryz.ntmps317
 go_wp2_with (go_at_call 120;refine (I _).mono ?_;rintro e w' ⟨rfl,rfl⟩)
 go_ret
 exact ⟨rfl,rfl⟩
def secE (p:PlantV) (x:Int):Int:=zaf (zai x 0 ((p.ss.n:Int) - 1)) 6
theorem secE_any (w:World) (p:PlantV) (x:Int) (hn:p.ss.n≤1000):Calls Tryz.prog 318 #[.agg (zan p).toArray,.int .i64 x] w (zax w (secE p x)):=by
 have hb0:=hB1 w (.cells (zan p).toArray 26)
 have k0:(w.alloc (.cells (zan p).toArray 26)).heap[w.heap.size]?=some (.cells #[p.ss.v,p.ts.v,p.ws.v,p.rs.v] 26 (0,0)):=by rw [zae,if_pos rfl];rfl
 obtain ⟨b1,hb1⟩:∃ b,zai x 0 ((p.ss.n:Int) - 1)=b:=⟨_,rfl⟩
 have W1:=fun W=>zb1 x 0 ((p.ss.n:Int) - 1) b1 hb1 W
 obtain ⟨E,hE⟩:∃ E,zaf b1 6=E:=⟨_,rfl⟩
 have U1:=fun W=>zbp b1 6 E hE W
 have HE:Hid (secE p x=E):=by rw [Hid,secE,hb1,hE]
 have HB:=Lib.hid hb0
 clear hb0 hb1 hE
 go_enter Tryz.func318,Tryz.ntmps318
 go_upto_region 1 with (fail)
 generalize w.alloc (.cells (zan p).toArray 26)=w0 at *
 generalize hbw:w.heap.size=bw at *
 have HBW:=Lib.hid hbw
 clear hbw
 obtain ⟨d0,d1,d2,d3⟩:_∧_∧_∧_:=za9 k0
 simp only [SlV.v] at d0 d1 d2 d3
 clear k0
 generalize p.ss.n=n at *
 go_wp2_with (first | (go_at_call 120;refine (W1 _).mono ?_;rintro e w' ⟨rfl,rfl⟩) | (go_at_call 52;refine (U1 _).mono ?_;rintro e w' ⟨rfl,rfl⟩))
 go_ret
 exact ⟨by rw [HE.out];rfl,by rw [HBW.out];exact HB.out⟩
def trnE (p:PlantV) (x:Int):Int:=zaf (zai x 0 ((p.ts.n:Int) - 1)) 6
theorem trnE_any (w:World) (p:PlantV) (x:Int) (hn:p.ts.n≤1000):Calls Tryz.prog 319 #[.agg (zan p).toArray,.int .i64 x] w (zax w (trnE p x)):=by
 have hb0:=hB1 w (.cells (zan p).toArray 26)
 have k0:(w.alloc (.cells (zan p).toArray 26)).heap[w.heap.size]?=some (.cells #[p.ss.v,p.ts.v,p.ws.v,p.rs.v] 26 (0,0)):=by rw [zae,if_pos rfl];rfl
 obtain ⟨b1,hb1⟩:∃ b,zai x 0 ((p.ts.n:Int) - 1)=b:=⟨_,rfl⟩
 have W1:=fun W=>zb1 x 0 ((p.ts.n:Int) - 1) b1 hb1 W
 obtain ⟨E,hE⟩:∃ E,zaf b1 6=E:=⟨_,rfl⟩
 have U1:=fun W=>zbp b1 6 E hE W
 have HE:Hid (trnE p x=E):=by rw [Hid,trnE,hb1,hE]
 have HB:=Lib.hid hb0
 clear hb0 hb1 hE
 go_enter Tryz.func319,Tryz.ntmps319
 go_upto_region 1 with (fail)
 generalize w.alloc (.cells (zan p).toArray 26)=w0 at *
 generalize hbw:w.heap.size=bw at *
 have HBW:=Lib.hid hbw
 clear hbw
 obtain ⟨d0,d1,d2,d3⟩:_∧_∧_∧_:=za9 k0
 simp only [SlV.v] at d0 d1 d2 d3
 clear k0
 generalize p.ts.n=n at *
 go_wp2_with (first | (go_at_call 120;refine (W1 _).mono ?_;rintro e w' ⟨rfl,rfl⟩) | (go_at_call 52;refine (U1 _).mono ?_;rintro e w' ⟨rfl,rfl⟩))
 go_ret
 exact ⟨by rw [HE.out];rfl,by rw [HBW.out];exact HB.out⟩
theorem has392_val (t:LtV) (B q:Nat) (s:Int) (w:World) (ht:zcs w B t.s t.chain.length (zah t.chain)) (hn:t.chain.length≤1000000) (hq:w.cell? ⟨q,0,none⟩=some (.int .i64 s)) :
 Calls Tryz.prog 392 #[.agg #[.slice t.s.A t.s.n t.s.c,.int .i64 t.under],.pointer (some ⟨q,0,none⟩)] w fun e w'=>e=.returned (.bool (zep t.chain s))∧Below w.heap.size w w':=by
 have hb0:=hB1 w (.cells #[.slice t.s.A t.s.n t.s.c,.int .i64 t.under] 219)
 have hp2:=zb8 (.cells #[.slice t.s.A t.s.n t.s.c,.int .i64 t.under] 219) hq
 obtain ⟨c0,c1⟩:_∧_:=zay (W:=w.alloc (.cells #[.slice t.s.A t.s.n t.s.c,.int .i64 t.under] 219)) (by rw [zae,if_pos rfl])
 have hr:=(ht.keep hb0).2
 have hl:=ht.1
 rw [hl] at hn
 have CI:=zcu t.s.A t.s.n t.s.c B t.chain s _ rfl _ (by omega) hl hr
 generalize zep t.chain s=V at *
 have HB:=Lib.hid hb0
 clear hb0 hr hl hn ht hq
 go_enter Tryz.func392,Tryz.ntmps392
 go_wp2_with (go_at_call 121;refine CI.mono ?_;rintro e w' ⟨rfl,rfl⟩)
 go_ret
 exact ⟨rfl,HB.out⟩
theorem has237_val (t:LtV) (B q:Nat) (s:Int) (w:World) (ht:zcs w B t.s t.chain.length (zah t.chain)) (hn:t.chain.length≤1000000) (hq:w.cell? ⟨q,0,none⟩=some (.int .i64 s)) :
 Calls Tryz.prog 237 #[.agg #[.slice t.s.A t.s.n t.s.c,.int .i64 t.under],.pointer (some ⟨q,0,none⟩)] w fun e w'=>e=.returned (.bool (zep t.chain s))∧Below w.heap.size w w':=by
 have hb0:=hB1 w (.cells #[.slice t.s.A t.s.n t.s.c,.int .i64 t.under] 219)
 have hp2:=zb8 (.cells #[.slice t.s.A t.s.n t.s.c,.int .i64 t.under] 219) hq
 obtain ⟨c0,c1⟩:_∧_:=zay (W:=w.alloc (.cells #[.slice t.s.A t.s.n t.s.c,.int .i64 t.under] 219)) (by rw [zae,if_pos rfl])
 have hr:=(ht.keep hb0).2
 have hl:=ht.1
 rw [hl] at hn
 have CI:=zcu t.s.A t.s.n t.s.c B t.chain s _ rfl _ (by omega) hl hr
 generalize zep t.chain s=V at *
 have HB:=Lib.hid hb0
 clear hb0 hr hl hn ht hq
 go_enter Tryz.func237,Tryz.ntmps237
 go_wp2_with (go_at_call 121;refine CI.mono ?_;rintro e w' ⟨rfl,rfl⟩)
 go_ret
 exact ⟨rfl,HB.out⟩
def zdh (q:LsV) (s:Int):Int:=za0 (fun t:LtV=>zep t.chain s) q.trs 0
def LsS (q:LsV):Prop:=q.trs.length≤1000∧q.sws.length≤1000∧∀ t∈q.trs,t.chain.length≤1000
theorem lnHolder_any (w:World) (B b:Nat) (p:PlantV) (q:LsV) (s:Int) (h:LnAt w B b p q) (hS:LsS q) (hB:B≤w.heap.size):Calls Tryz.prog 360 #[.pointer (some ⟨b,0,none⟩),.int .i64 s] w (zax w (zdh q s)):=by
 have hb0:=hB1 w (.cells #[.int .i64 s] 3)
 have q0:(w.alloc (.cells #[.int .i64 s] 3)).cell? ⟨w.heap.size,0,none⟩=some (.int .i64 s):=by simp
 have hk:=h.keep hb0
 have hs0:=hb0.size
 have hl:=hk.st.trs.1
 have IX:=Index236_392 q.tr.A q.tr.n q.tr.c B q.trs (fun t=>zep t.chain s) w.heap.size (w.alloc (.cells #[.int .i64 s] 3)) (by have:=hS.1;omega) hl hk.st.trs.2 (by omega)
  (fun W t hb ht=>has392_val t B _ s W ((hk.st.t t ht).keep hb) (by have:=hS.2.2 t ht;omega) (zas hb q0))
 unfold zax at IX
 have HV:Hid (za0 (fun t:LtV=>zep t.chain s) q.trs 0=zdh q s):=rfl
 rw [HV.out] at IX
 generalize zdh q s=V at *
 obtain ⟨d0,d1,d2,d3,d4,d5,d6⟩:_∧_∧_∧_∧_∧_∧_:=zdb hk.blk
 simp only [SlV.v] at d5
 have HB:=Lib.hid hb0
 clear hb0 hk hl h hS HV d0 d1 d2 d3 d4 d6 q0
 go_enter Tryz.func360,Tryz.ntmps360
 go_upto_region 1 with (fail)
 generalize w.alloc (.cells #[.int .i64 s] 3)=w0 at *
 generalize hbw:w.heap.size=bw at *
 have HBW:=Lib.hid hbw
 clear hbw
 go_wp2_with (go_at_call 236;refine IX.mono ?_;rintro e w9 ⟨rfl,hb9⟩)
 go_ret
 exact ⟨rfl,by rw [HBW.out];exact HB.out.trans (hb9.mono hs0)⟩
end Go.Proofs.YtfdmeojcopkaoaaGreatDoor
namespace Go.Proofs.YtfdmeojcopkaoaaGreatDoor
open Go.RowKit
theorem takenC_val (w:World) (B b c:Nat) (p:PlantV) (q:LsV) (x:Int) (h:LnAt w B b p q) (hS:LsS q) (hB:B≤w.heap.size) (hc:w.cell? ⟨c,0,none⟩=some (.pointer (some ⟨b,0,none⟩))) :
 Calls Tryz.prog 359 #[.int .i64 x,.pointer (some ⟨c,0,none⟩)] w fun e w'=>e=.returned (.bool (decide (0≤zdh q x)))∧Below w.heap.size w w':=by
 have HH:=lnHolder_any w B b p q x h hS hB
 unfold zax at HH
 clear h hS hB
 generalize zdh q x=V at *
 go_enter Tryz.func359,Tryz.ntmps359
 go_wp2_with (go_at_call 360;refine HH.mono ?_;rintro e w9 ⟨rfl,hb9⟩)
 go_ret
 exact ⟨rfl,hb9⟩
def zf9 (q:LsV) (l:List Int):Bool:=l.any fun x=>decide (0≤zdh q x)
theorem taken_any (w:World) (B b:Nat) (p:PlantV) (q:LsV) (A:Option Addr) (n c:Nat) (l:List Int) (h:LnAt w B b p q) (hS:LsS q) (hB:B≤w.heap.size) (hl:l.length=n) (hn:n≤1000) (hr:Rd w w.heap.size A (zah l)) :
 Calls Tryz.prog 320 #[.pointer (some ⟨b,0,none⟩),.slice A n c] w fun e w'=>e=.returned (.bool (zf9 q l))∧Below w.heap.size w w':=by
 have hb0:=hB1 w (.cells #[.pointer (some ⟨b,0,none⟩)] 379)
 have q0:(w.alloc (.cells #[.pointer (some ⟨b,0,none⟩)] 379)).cell? ⟨w.heap.size,0,none⟩=some (.pointer (some ⟨b,0,none⟩)):=by simp
 have hk:=h.keep hb0
 have hs0:=hb0.size
 have IX:=zi6 A n c w.heap.size l (fun x=>decide (0≤zdh q x)) (zf9 q l) rfl w.heap.size (w.alloc (.cells #[.pointer (some ⟨b,0,none⟩)] 379)) (by omega) hl (hr.keep hb0) hs0
  (fun W x hb _=>takenC_val W B b _ p q x (hk.keep hb) hS (by have:=hb.size;omega) (zas hb q0))
 generalize zf9 q l=V at *
 have HB:=Lib.hid hb0
 clear hb0 hk hl h hS q0 hr hB
 go_enter Tryz.func320,Tryz.ntmps320
 go_upto_region 1 with (fail)
 generalize w.alloc (.cells #[.pointer (some ⟨b,0,none⟩)] 379)=w0 at *
 generalize hbw:w.heap.size=bw at *
 have HBW:=Lib.hid hbw
 clear hbw
 go_wp2_with (go_at_call 209;refine IX.mono ?_;rintro e w9 ⟨rfl,hb9⟩)
 go_ret
 exact ⟨rfl,by rw [HBW.out];exact HB.out.trans (hb9.mono hs0)⟩
theorem chainNil_ok (w:World) (B b i:Nat) (p:PlantV) (q:LsV) (t:LtV) (h:LnAt w B b p q) (hi:q.trs[i]?=some t) (hc:t.chain=[]) (hu:t.under=0) :
 Calls Tryz.prog 316 #[.pointer (some ⟨b,0,none⟩),.int .i64 i] w (zax w 0):=by
 have hl:=h.st.trs.1
 have hlt:i<q.tr.n:=by rw [← hl];exact (List.getElem?_eq_some_iff.1 hi).1
 obtain ⟨d0,d1,d2,d3,d4,d5,d6⟩:_∧_∧_∧_∧_∧_∧_:=zdb h.blk
 have hr:=h.st.trs.2
 have hn:=(h.st.t t (List.mem_of_getElem? hi)).1
 rw [hc] at hn
 obtain ⟨bb,off,hA,hbB,z0,z1⟩:=Rd.lt hr hi
 obtain ⟨s,ch,u⟩:=t
 obtain ⟨sA,sn,sc⟩:=s
 simp only at z0 z1 hn hc hu
 subst hu
 obtain rfl:0=sn:=by simpa using hn
 simp only [SlV.v,hA] at d5
 generalize q.tr.n=n at *
 generalize q.tr.c=cc at *
 clear hr hi hn hc h hl d0 d1 d2 d3 d4 d6 hA
 have W1:=fun W=>zb1 0 0 0 true rfl W
 have hb0:=hB1 w (.cells #[.slice sA 0 sc,.int .i64 0] 219)
 obtain ⟨e0,e1⟩:_∧_:=zay (W:=w.alloc (.cells #[.slice sA 0 sc,.int .i64 0] 219)) (by rw [zae,if_pos rfl])
 have HB:=Lib.hid hb0
 clear hb0
 go_enter Tryz.func316,Tryz.ntmps316
 go_upto_region 2 with (fail)
 generalize w.alloc (.cells #[.slice sA 0 sc,.int .i64 0] 219)=w0 at *
 generalize hbw:w.heap.size=bw at *
 have HBW:=Lib.hid hbw
 clear hbw z0 z1 d5
 go_wp2_with (first | (go_at_call 120;refine (W1 _).mono ?_;rintro e w' ⟨rfl,rfl⟩))
 go_loopw [36] (fun u36 wr=>u36=.int .i64 0∧wr=w0) (fun _ _=>0)
 case atStart=>exact ⟨rfl,rfl⟩
 case round =>
  obtain ⟨rfl,rfl⟩:=hrel
  go_wp2
  go_ret
  exact ⟨rfl,by rw [HBW.out];exact HB.out⟩
def ChaRel (w0:World) (bw:Nat) (u:Value) (wr:World):Prop:=(u=.int .i64 0∧wr=w0)∨(u=.int .i64 1∧Below bw w0 wr)
theorem chainOne_ok (w:World) (B b:Nat) (p:PlantV) (q:LsV) (t:LtV) (s:Int) (h:LnAt w B b p q) (hi:q.trs[0]?=some t) (hc:t.chain=[s]) (hu:t.under=1) (hs:secE p s=0) (hp:p.ss.n≤1000) :
 Calls Tryz.prog 316 #[.pointer (some ⟨b,0,none⟩),.int .i64 0] w (zax w 0):=by
 have hl:=h.st.trs.1
 have hlt:0<q.tr.n:=by rw [← hl];exact (List.getElem?_eq_some_iff.1 hi).1
 obtain ⟨d0,d1,d2,d3,d4,d5,d6⟩:_∧_∧_∧_∧_∧_∧_:=zdb h.blk
 have hr:=h.st.trs.2
 have hcr:=(h.st.t t (List.mem_of_getElem? hi)).2
 have hn:=(h.st.t t (List.mem_of_getElem? hi)).1
 have hcap:=h.st.cap.2.2 t (List.mem_of_getElem? hi)
 have hcap2:=h.st.cap.2.1
 rw [hc] at hn hcr
 obtain ⟨bb,off,hA,hbB,z0,z1⟩:=Rd.lt hr hi
 obtain ⟨cb,co,hcA,_,y0⟩:=hcr.at_ (k:=0) (u:=.int .i64 s) rfl
 have SE:=fun W=>secE_any W p s hp
 rw [hs] at SE
 obtain ⟨st,ch,u⟩:=t
 obtain ⟨sA,sn,sc⟩:=st
 simp only at z0 z1 hn hc hu hcA hcap
 subst hu
 subst hcA
 obtain rfl:1=sn:=by simpa using hn
 simp only [SlV.v,hA] at d0 d1 d2 d3 d5
 generalize q.tr.n=n at *
 generalize q.tr.c=cc at *
 rw [Nat.zero_mul,Nat.add_zero] at z0 z1
 rw [Nat.add_zero] at y0
 clear hr hi hn hc hl d4 d6 hA hcr hs hp hbB
 have W1:=fun W=>zb1 1 1 1 true rfl W
 have U1:=fun e W=>zbp true e 0 rfl W
 have F1:=fun W=>lkFirst3 W 0 0 0
 have hb0:=hB1 w (.cells #[.slice (some ⟨cb,co,none⟩) 1 sc,.int .i64 1] 219)
 obtain ⟨e0,e1⟩:_∧_:=zay (W:=w.alloc (.cells #[.slice (some ⟨cb,co,none⟩) 1 sc,.int .i64 1] 219)) (by rw [zae,if_pos rfl])
 have y1:=zas hb0 y0
 have d05:=zas hb0 d5
 have d00:=zas hb0 d0
 have d01:=zas hb0 d1
 have d02:=zas hb0 d2
 have d03:=zas hb0 d3
 have HB:=Lib.hid hb0
 have hs0:=hb0.size
 clear hb0 y0 h
 go_enter Tryz.func316,Tryz.ntmps316
 go_upto_region 2 with (fail)
 generalize w.alloc (.cells #[.slice (some ⟨cb,co,none⟩) 1 sc,.int .i64 1] 219)=w0 at *
 generalize hbw:w.heap.size=bw at *
 have HBW:=Lib.hid hbw
 clear hbw z0 z1 d0 d1 d2 d3 d5
 go_wp2_with (first | (go_at_call 120;refine (W1 _).mono ?_;rintro e w' ⟨rfl,rfl⟩))
 go_loopw [36] (fun u36 wr=>ChaRel w0 bw u36 wr) (fun u36 _=>1 - (intOf u36).toNat)
 case atStart=>exact .inl ⟨rfl,rfl⟩
 case round =>
  rcases hrel with ⟨rfl,hw⟩ | ⟨rfl,hb⟩
  · replace hw:=hw.symm
    subst hw
    go_upto_region 8 with (fail)
    have CI:=fun W=>zcu (some ⟨cb,co,none⟩) 0 sc 0 [] s false rfl W (by decide) rfl (fun k u hk=>by simp [zah] at hk)
    go_upto_region 9 with (go_at_call 121;refine (CI _).mono ?_;rintro e w' ⟨rfl,rfl⟩)
    go_upto_region 10 with (fail)
    go_loopw [9,55] (fun u9 u55 wr=>u9=.bool false∧u55=.int .i64 0∧wr=w0) (fun _ _ _=>0)
    case atStart=>exact ⟨rfl,rfl,rfl⟩
    case round =>
     obtain ⟨rfl,rfl,hw⟩:=hrel
     replace hw:=hw.symm
     subst hw
     have HSE:=SE w0
     unfold zax at HSE
     clear CI W1 SE e1 d05 y1
     go_upto_region 14 with (fail)
     go_wp2_with (first | (go_at_call 318;refine HSE.mono ?_;rintro e w1 ⟨rfl,hb1⟩) | (go_at_call 52;refine (U1 _ _).mono ?_;rintro e w' ⟨rfl,rfl⟩) | (go_at_call 51;refine (F1 _).mono ?_;rintro e w' ⟨rfl,rfl⟩))
     go_roundw
     case rel=>exact .inr ⟨rfl,(hb1.mono hs0).alloc (Nat.le_trans hs0 hb1.size) _⟩
     case measure=>simp [intOf]
  · clear e0 e1 y1 d00 d01 d02 d03 d05 U1 F1 W1 SE
    go_wp2
    go_ret
    exact ⟨rfl,by rw [HBW.out];exact HB.out.trans hb⟩
end Go.Proofs.YtfdmeojcopkaoaaGreatDoor
namespace Go.Proofs.YtfdmeojcopkaoaaGreatDoor
open Go.RowKit
def ChainOk (p:PlantV) (i:Nat) (t:LtV):Prop:=(t.chain=[]∧t.under=0)∨(i=0∧∃ s,t.chain=[s]∧t.under=1∧secE p s=0)
structure StOk (p:PlantV) (q:LsV):Prop where
 n1:q.sw.n=p.ws.n
 n2:q.tr.n=p.ts.n
 bits:∀ x∈q.sws,zfq x=true
 ctr:zai q.ctr 0 250=true
 chains:∀ (i:Nat) (t:LtV),q.trs[i]?=some t→ChainOk p i t
 small:LsS q
def OpPost (w:World) (B:Nat) (p:PlantV) (q:LsV) (e:Ending) (w':World):Prop:=
 ∃ b,e=.returned (.tuple #[.pointer (some ⟨b,0,none⟩),.int .i64 0])∧w.heap.size≤b∧LnAt w' B b p q∧Below w.heap.size w w'
theorem chainErr_ok (w:World) (B b i:Nat) (p:PlantV) (q:LsV) (t:LtV) (h:LnAt w B b p q) (hi:q.trs[i]?=some t) (ht:ChainOk p i t) (hp:p.ss.n≤1000) :
 Calls Tryz.prog 316 #[.pointer (some ⟨b,0,none⟩),.int .i64 i] w (zax w 0):=by
 rcases ht with ⟨h1,h2⟩ | ⟨rfl,s,h1,h2,h3⟩
 · exact chainNil_ok w B b i p q t h hi h1 h2
 · exact chainOne_ok w B b p q t s h hi h1 h2 h3 hp
theorem lkFirst3z (w:World):Calls Tryz.prog 51 #[.slice (some ⟨w.heap.size,0,none⟩) 3 3] (w.alloc (.cells #[.int .i64 0,.int .i64 0,.int .i64 0] 50)) fun e w' =>
 e=.returned (.int .i64 0)∧w.alloc (.cells #[.int .i64 0,.int .i64 0,.int .i64 0] 50)=w':=lkFirst3 w 0 0 0
theorem zgl (w:World):Calls Tryz.prog 51 #[.slice (some ⟨w.heap.size,0,none⟩) 2 2] (w.alloc (.cells #[.int .i64 0,.int .i64 0] 50)) fun e w' =>
 e=.returned (.int .i64 0)∧w.alloc (.cells #[.int .i64 0,.int .i64 0] 50)=w':=zdn w 0 0
def OpRel (w6:World) (n:Nat) (u:Value) (wr:World):Prop:=∃ k:Nat,k≤n∧u=.int .i64 k∧Below w6.heap.size w6 wr
theorem any_bits {l:List Int} (h:∀ x∈l,zfq x=true):l.any (fun x=>!zfq x)=false:=by
 rw [List.any_eq_false]
 intro x hx
 simp [h x hx]
theorem lkOpen_ok (w:World) (B:Nat) (p:PlantV) (q:LsV) (hP:PlantAt w B p) (hQ:LsAt w B q) (hS:PlantS p) (hE:zch p=0) (hB:B≤w.heap.size) (hO:StOk p q) :
 Calls Tryz.prog 261 #[.agg (zan p).toArray,.agg (za7 q).toArray] w (OpPost w B p q):=by
 have k0:((w.alloc (.cells (zan p).toArray 26)).alloc (.cells (za7 q).toArray 133)).heap[w.heap.size]?=some (.cells #[p.ss.v,p.ts.v,p.ws.v,p.rs.v] 26 (0,0)):=by
  rw [zae,if_neg (by simp),zae,if_pos rfl]
  rfl
 have k1:((w.alloc (.cells (zan p).toArray 26)).alloc (.cells (za7 q).toArray 133)).heap[w.heap.size+1]?=some (.cells #[q.sw.v,q.tr.v,.int .i64 q.ctr] 133 (0,0)):=by
  rw [zae,if_pos (by simp)]
  rfl
 have hb0:=hB2 w (.cells (zan p).toArray 26) (.cells (za7 q).toArray 133)
 have hs0:=hS2 w (.cells (zan p).toArray 26) (.cells (za7 q).toArray 133)
 have hn1:p.ws.n≤1000:=by rw [← hP.sws.1];exact hS.sws.1
 have hn2:p.ts.n≤1000:=by rw [← hP.trains.1];exact hS.trains.1
 have hn3:p.ss.n≤1000:=by rw [← hP.secs.1];exact hS.secs.1
 have HPA:=Lib.hid (hP.keep hb0)
 have HQA:=Lib.hid (hQ.keep hb0)
 have HB:=Lib.hid hb0
 have HO:=Lib.hid hO
 have HBB:=Lib.hid hB
 have HN3:=Lib.hid hn3
 clear hb0 hP hQ hn3
 go_enter Tryz.func261,Tryz.ntmps261
 go_upto_region 1 with (fail)
 generalize (w.alloc (.cells (zan p).toArray 26)).alloc (.cells (za7 q).toArray 133)=w0 at *
 generalize hbw:w.heap.size=bw at *
 have HBW:=Lib.hid hbw
 clear hbw
 have CB:=zi7 q.sw.A p.ws.n q.sw.c B q.sws (fun x=>!zfq x) false (any_bits HO.out.bits) w0 (by omega) (HQA.out.sws.1.trans HO.out.n1) HQA.out.sws.2 (by omega)
  (fun W x hb hx=>by
   have:=notPos_val x _ rfl W
   exact this.mono fun e w' ⟨he,hw⟩=>⟨he,hw ▸ Below.refl _ _⟩)
 have hQ1:=HO.out.n1
 have hQ2:=HO.out.n2
 obtain ⟨a0,a1,a2,a3⟩:_∧_∧_∧_:=za9 k0
 obtain ⟨b0,b1,b2⟩:_∧_∧_:=zbc k1
 simp only [SlV.v,hQ1,hQ2] at a0 a1 a2 a3 b0 b1
 clear hB hQ1 hQ2 hO
 go_upto_region 2 with (fail)
 go_upto_region 3 with (go_at_call 209;refine CB.mono ?_;rintro e w1 ⟨rfl,hb1⟩)
 replace a0:=zas hb1 a0
 replace a1:=zas hb1 a1
 replace a2:=zas hb1 a2
 replace a3:=zas hb1 a3
 replace b0:=zas hb1 b0
 replace b1:=zas hb1 b1
 replace b2:=zas hb1 b2
 replace HPA:=Lib.hid (HPA.out.keep hb1)
 replace HQA:=Lib.hid (HQA.out.keep hb1)
 replace HB:=Lib.hid (HB.out.trans (hb1.mono (by omega)))
 replace hs0:=Nat.le_trans hs0 hb1.size
 clear CB hb1 k0 k1
 have RT:=zfx w1 B p HPA.out hS (by have:=HBB.out;omega)
 rw [hE] at RT
 unfold zax at RT
 have U1:=fun e W=>zbp true e 0 rfl W
 have I1:=fun W=>isByte_val q.ctr true HO.out.ctr W
 have F1:=fun W=>lkFirst3z W
 clear hE hS
 go_upto_region 4 with (first | (go_at_call 169;refine RT.mono ?_;rintro e w2 ⟨rfl,hb2⟩;have b2x:=zas hb2 b2) | (go_at_call 52;refine (U1 _ _).mono ?_;rintro e w' ⟨rfl,rfl⟩) | (go_at_call 315;refine (I1 _).mono ?_;rintro e w' ⟨rfl,rfl⟩) | (go_at_call 51;refine (F1 _).mono ?_;rintro e w' ⟨rfl,rfl⟩))
 have hb3:Below w1.heap.size w1 (w2.alloc (.cells #[.int .i64 0,.int .i64 0,.int .i64 0] 50)):=hb2.alloc hb2.size _
 clear RT b2x I1 U1 F1
 replace a0:=zas hb3 a0
 replace a1:=zas hb3 a1
 replace a2:=zas hb3 a2
 replace a3:=zas hb3 a3
 replace b0:=zas hb3 b0
 replace b1:=zas hb3 b1
 replace b2:=zas hb3 b2
 replace HPA:=Lib.hid (HPA.out.keep hb3)
 replace HQA:=Lib.hid (HQA.out.keep hb3)
 replace HB:=Lib.hid (HB.out.trans (hb3.mono (by omega)))
 replace hs0:=Nat.le_trans hs0 hb3.size
 clear hb3 hb2
 generalize w2.alloc (.cells #[.int .i64 0,.int .i64 0,.int .i64 0] 50)=w3 at *
 have hbn:=hB1 w3 (.cells #[.slice p.ss.A p.ss.n p.ss.c,.slice p.ts.A p.ts.n p.ts.c,.slice p.ws.A p.ws.n p.ws.c,.slice p.rs.A p.rs.n p.rs.c,.slice q.sw.A p.ws.n q.sw.c,.slice q.tr.A p.ts.n q.tr.c,.int .i64 q.ctr] 427)
 have HLN:Hid (LnAt (w3.alloc (.cells #[.slice p.ss.A p.ss.n p.ss.c,.slice p.ts.A p.ts.n p.ts.c,.slice p.ws.A p.ws.n p.ws.c,.slice p.rs.A p.rs.n p.rs.c,.slice q.sw.A p.ws.n q.sw.c,.slice q.tr.A p.ts.n q.tr.c,.int .i64 q.ctr] 427)) B w3.heap.size p q):=
  ⟨by rw [zae,if_pos rfl];simp only [SlV.v,HO.out.n1,HO.out.n2],HPA.out.keep hbn,HQA.out.keep hbn⟩
 have HBN:=Lib.hid (HB.out.trans (hbn.mono (by omega)))
 have b1n:=zas hbn b1
 have hs9:bw≤w3.heap.size:=by omega
 have hs4:=Nat.le_trans hs9 hbn.size
 clear hbn HPA HQA
 go_upto_region 7 with (fail)
 generalize w3.alloc (.cells #[.slice p.ss.A p.ss.n p.ss.c,.slice p.ts.A p.ts.n p.ts.c,.slice p.ws.A p.ws.n p.ws.c,.slice p.rs.A p.rs.n p.rs.c,.slice q.sw.A p.ws.n q.sw.c,.slice q.tr.A p.ts.n q.tr.c,.int .i64 q.ctr] 427)=w4 at *
 generalize hb9:w3.heap.size=bl at *
 clear hb9 a0 a1 a2 a3 b0 b1 b2 HB hs0
 go_wp2
 go_loopw [55] (fun u55 wr=>OpRel w4 p.ts.n u55 wr) (fun u55 _=>p.ts.n - (intOf u55).toNat)
 case atStart=>exact ⟨0,Nat.zero_le _,rfl,Below.refl _ _⟩
 case round =>
  obtain ⟨k,hk,rfl,hb⟩:=hrel
  have hln:=HLN.out.keep hb
  by_cases hlt:k<p.ts.n
  · obtain ⟨t,ht⟩:∃ t,q.trs[k]?=some t:=⟨_,List.getElem?_eq_getElem (by rw [hln.st.trs.1,HO.out.n2];exact hlt)⟩
    have CE:=chainErr_ok wr B bl k p q t hln ht (HO.out.chains k t ht) HN3.out
    unfold zax at CE
    have HB4:=Lib.hid hb
    clear hln ht hb b1n
    go_wp2_with (go_at_call 316;refine CE.mono ?_;rintro e w9 ⟨rfl,hb9⟩)
    go_roundw
    case rel=>exact ⟨k+1,by omega,by go_num,HB4.out.trans (hb9.mono HB4.out.size)⟩
    case measure=>simp [intOf];omega
  · have HL:=Lib.hid hln
    have HB4:=Lib.hid hb
    clear hln hb b1n
    go_wp2
    go_ret2
    exact ⟨bl,rfl,by rw [HBW.out];exact hs9,HL.out,by rw [HBW.out];exact HBN.out.trans (HB4.out.mono hs4)⟩
end Go.Proofs.YtfdmeojcopkaoaaGreatDoor
