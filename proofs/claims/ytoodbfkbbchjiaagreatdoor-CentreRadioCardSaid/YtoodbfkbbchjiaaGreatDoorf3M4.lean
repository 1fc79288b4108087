import Derived.Test.YtoodbfkbbchjiaaGreatDoorf3X4
import Derived.Test.YtoodbfkbbchjiaaGreatDoorf3F3
import Derived.Test.YtoodbfkbbchjiaaGreatDoorf3M2
set_option maxRecDepth 100000
set_option maxHeartbeats 16000000
namespace Go.Proofs.YtoodbfkbbchjiaaGreatDoor
open Go.RowKit
theorem isPos_val (x:Int) (b:Bool) (h:zf4 x=b) (w:World):Calls Tryz.prog 195 #[.int .i64 x] w fun e w'=>e=.returned (.bool b)∧w=w':=by
 have HB:=Lib.hid h
 clear h
 by_cases h0:x=0
 · subst h0
   have HV:Hid (b=true):=by rw [Hid,← HB.out];rfl
   go_enter Tryz.func195,Tryz.ntmps195
   go_wp2
   go_ret
   exact ⟨by rw [HV.out];rfl,rfl⟩
 · have e0:(x == 0)=false:=by simp [h0]
   have HV:Hid ((x == 1)=b):=by
    rw [Hid,← HB.out,zf4]
    by_cases h1:x=1 <;> simp [h0,h1]
   clear h0
   go_enter Tryz.func195,Tryz.ntmps195
   go_wp2
   go_ret
   exact ⟨by rw [← HV.out];rfl,rfl⟩
theorem IndexI_any (A:Option Addr) (n c B:Nat) (l:List Int) (s:Int) (w:World) (hn:n≤1000000000) (hl:l.length=n) (h:Rd w B A (zai l)) :
 Calls Tryz.prog 253 #[.slice A n c,.int .i64 s] w fun e w'=>e=.returned (.int .i64 (za4 (fun a=>s == a) l 0))∧w=w':=by
 have HL:=Lib.hid hl;clear hl
 go_enter Tryz.func253,Tryz.ntmps253
 go_wp2
 go_loop [5,8] (fun _ i=>∃ k:Nat,k≤n∧i=.int .i64 k∧za4 (fun a=>s == a) (l.drop k) k=za4 (fun a=>s == a) l 0) (fun _ i=>n - (intOf i).toNat)
 case atStart=>exact ⟨0,Nat.zero_le _,rfl,rfl⟩
 case round =>
  obtain ⟨k,hk,rfl,he⟩:=hrel
  have HE:=Lib.hid he;clear he
  by_cases hlt:k<n
  · have hkl:k<l.length:=by rw [HL.out];exact hlt
    obtain ⟨b,off,rfl,_,hc⟩:=h.at_ (k:=k) (u:=.int .i64 (l[k]?.getD 0)) (by simp [zai,hkl])
    have HS:=Lib.hid (zfq l 0 k hkl)
    clear hkl
    generalize l[k]?.getD 0=x at *
    by_cases hx:s=x
    · subst hx
      go_wp2
      go_ret
      exact ⟨by rw [← HE.out,HS.out,za4];simp,rfl⟩
    · have hx1:(s == x)=false:=by simp [hx]
      have HX:=Lib.hid hx1
      go_wp2
      go_round
      case rel=>exact ⟨k+1,by omega,by go_num,by rw [← HE.out,HS.out,za4,HX.out];rfl⟩
      case measure=>simp [intOf];omega
  · go_wp2
    go_ret
    have:l.drop k=[]:=by rw [List.drop_eq_nil_iff];rw [HL.out];omega
    exact ⟨by rw [← HE.out,this];rfl,rfl⟩
theorem zcv (A:Option Addr) (n c B:Nat) (l:List Int) (s:Int) (b:Bool) (hb:ze1 l s=b) (w:World) (hn:n≤1000000000) (hl:l.length=n) (h:Rd w B A (zai l)) :
 Calls Tryz.prog 194 #[.slice A n c,.int .i64 s] w fun e w'=>e=.returned (.bool b)∧w=w':=by
 have HV:Hid (decide (0≤za4 (fun a=>s == a) l 0)=b):=by
  rw [Hid,zcc,← hb,ze1]
  show l.any (fun a=>s == a)=l.any (fun a=>a == s)
  exact congrArg (fun f=>l.any f) (funext fun a=>BEq.comm)
 clear hb
 have IX:=fun W hW=>IndexI_any A n c B l s W hn hl hW
 generalize za4 (fun a=>s == a) l 0=ix at *
 go_enter Tryz.func194,Tryz.ntmps194
 go_wp2_with (go_at_call 253;refine (IX _ h).mono ?_;rintro e w' ⟨rfl,rfl⟩)
 go_ret
 exact ⟨by rw [← HV.out];rfl,rfl⟩
theorem swSame_val (nm:ByteArray) (x s:Int) (p:Nat) (w:World) (hp:w.cell? ⟨p,1,none⟩=some (.int .i64 s)) :
 Calls Tryz.prog 192 #[.agg #[.string nm,.int .i64 x],.pointer (some ⟨p,0,none⟩)] w fun e w'=>e=.returned (.bool (x == s))∧Below w.heap.size w w':=by
 have hp2:=zb6 (.cells #[.string nm,.int .i64 x] 76) hp
 obtain ⟨c0,c1⟩:_∧_:=zaz (W:=w.alloc (.cells #[.string nm,.int .i64 x] 76)) (by rw [zae,if_pos rfl])
 have hb0:=hB1 w (.cells #[.string nm,.int .i64 x] 76)
 clear hp
 go_enter Tryz.func192,Tryz.ntmps192
 go_wp2
 go_ret
 exact ⟨rfl,hb0⟩
def SfRel (w0:World) (l:List Sw) (s:Int) (n:Nat) (V:Int) (u:Value) (wr:World):Prop:=∃ k:Nat,k≤n∧u=.int .i64 k∧za4 (fun x:Sw=>x.2 == s) (l.drop k) k=V∧Below w0.heap.size w0 wr
theorem IndexSw_any (A:Option Addr) (n c B:Nat) (l:List Sw) (s:Int) (p:Nat) (w:World) (hn:n≤1000000000) (hl:l.length=n) (h:Rd w B A (zbl l)) (hB:B≤w.heap.size) (hp:w.cell? ⟨p,1,none⟩=some (.int .i64 s)) :
 Calls Tryz.prog 252 #[.slice A n c,.func (.func 192) #[] #[.pointer (some ⟨p,0,none⟩)]] w (zay w (za4 (fun x:Sw=>x.2 == s) l 0)):=by
 have HL:=Lib.hid hl;clear hl
 obtain ⟨V,hV⟩:∃ V,za4 (fun x:Sw=>x.2 == s) l 0=V:=⟨_,rfl⟩
 rw [hV]
 have HV:=Lib.hid hV
 clear hV
 go_enter Tryz.func252,Tryz.ntmps252
 go_wp2
 go_loopw [5,8] (fun _ i wr=>SfRel w l s n V i wr) (fun _ i _=>n - (intOf i).toNat)
 case atStart=>exact ⟨0,Nat.zero_le _,rfl,HV.out,Below.refl _ _⟩
 case round =>
  obtain ⟨k,hk,rfl,he,hb⟩:=hrel
  have HE:=Lib.hid he
  have HB:=Lib.hid hb
  have hr:=h.below (hb.mono hB)
  replace hp:=zat hb hp
  have hsk:=hb.size
  clear he hb
  by_cases hlt:k<n
  · have hkl:k<l.length:=by rw [HL.out];exact hlt
    obtain ⟨ev,hev⟩:∃ ev,l[k]?=some ev:=⟨_,List.getElem?_eq_getElem hkl⟩
    obtain ⟨bb,off,rfl,hbB,z0,z1⟩:=Rd.sw hr hev
    have HS:=Lib.hid (za9 hev)
    obtain ⟨nm,x⟩:=ev
    simp only at z0 z1
    have SS:=swSame_val nm x s p wr hp
    clear hkl hev hp
    by_cases hx:x=s
    · subst hx
      have HV9:Hid (V=k):=by rw [Hid,← HE.out,HS.out,za4];simp
      have e1:(x == x)=true:=by simp
      rw [e1] at SS
      go_wp2_with (go_at_call 192;refine SS.mono ?_;rintro e w9 ⟨rfl,hb9⟩)
      go_ret
      exact ⟨by rw [HV9.out];rfl,HB.out.trans (hb9.mono hsk)⟩
    · have hx1:(x == s)=false:=by simp [hx]
      rw [hx1] at SS
      have HN:Hid (za4 (fun x:Sw=>x.2 == s) (l.drop (k+1)) (k+1)=V):=by
       have h9:=HE.out
       rw [HS.out,za4] at h9
       simp only [hx1] at h9
       exact h9
      go_wp2_with (go_at_call 192;refine SS.mono ?_;rintro e w9 ⟨rfl,hb9⟩)
      go_roundw
      case rel=>exact ⟨k+1,by omega,by go_num,HN.out,HB.out.trans (hb9.mono hsk)⟩
      case measure=>simp [intOf];omega
  · have HV9:Hid (V=-1):=by
     have h9:=HE.out
     rw [List.drop_eq_nil_iff.2 (by rw [HL.out];omega),za4] at h9
     exact h9.symm
    go_wp2
    go_ret
    exact ⟨by rw [HV9.out];rfl,HB.out⟩
theorem zkb (A:Option Addr) (n c B:Nat) (l:List Sw) (s:Int) (b:Bool) (hb:ze1 (l.map (·.2)) s=b) (p:Nat) (w:World) (hn:n≤1000000000) (hl:l.length=n) (h:Rd w B A (zbl l)) (hB:B≤w.heap.size) (hp:w.cell? ⟨p,1,none⟩=some (.int .i64 s)) :
 Calls Tryz.prog 191 #[.slice A n c,.func (.func 192) #[] #[.pointer (some ⟨p,0,none⟩)]] w fun e w'=>e=.returned (.bool b)∧Below w.heap.size w w':=by
 have HV:Hid (decide (0≤za4 (fun x:Sw=>x.2 == s) l 0)=b):=by
  rw [Hid,zcc,← hb,ze1,List.any_map]
  rfl
 clear hb
 have IX:=IndexSw_any A n c B l s p w hn hl h hB hp
 unfold zay at IX
 generalize za4 (fun x:Sw=>x.2 == s) l 0=ix at *
 go_enter Tryz.func191,Tryz.ntmps191
 go_wp2_with (go_at_call 252;refine IX.mono ?_;rintro e w9 ⟨rfl,hb9⟩)
 go_ret
 exact ⟨by rw [← HV.out];rfl,hb9⟩
def swM (m:Nat) (pre:List Sw) (x:Sw):Int:=zam [zag (zaj x.2 0 ((m:Int) - 1)) 6,zag (!ze1 (pre.map (·.2)) x.2) 26]
theorem swE_nd (m:Nat) (pre:List Sw) (x:Sw):swE m pre x=ndE (fun x:Sw=>x.1) (swM m) pre x:=by
 unfold swE ndE swM nmE
 generalize zag (za3 x.1) 4=a
 generalize zag (!zcu (pre.map (·.1)) x.1) 5=b
 by_cases h:a=0 <;> by_cases g:b=0 <;> simp [zam,h,g]
theorem rd_takeSw {w:World} {B:Nat} {A:Option Addr} {l:List Sw} (h:Rd w B A (zbl l)) (k:Nat):Rd w B A (zbl (l.take k)):=fun j u hu=>h j u (by
 have e:zbl l=zbl (l.take k)++zbl (l.drop k):=by
  unfold zbl
  rw [← List.flatMap_append,List.take_append_drop]
 rw [e,List.getElem?_append_left (List.getElem?_eq_some_iff.1 hu).1]
 exact hu)
theorem zlg (w:World) (B:Nat) (As At Aw Ar:Option Addr) (ns nt nw nr cs ct cw cr:Nat) (l:List Sw) (hl:l.length=nw) (hr:Rd w B Aw (zbl l)) (hB:B≤w.heap.size) (hn:nw≤1000) (hs:ns≤1000) (hc:nw≤cw) (k:Nat) (x:Sw) (hk:l[k]?=some x) :
 Calls Tryz.prog 124 #[.agg #[.slice As ns cs,.slice At nt ct,.slice Aw nw cw,.slice Ar nr cr],.int .i64 k] w (zay w (swM ns (l.take k) x)):=by
 have hkl:k<l.length:=(List.getElem?_eq_some_iff.1 hk).1
 have hkn:k<nw:=by rw [← hl];exact hkl
 obtain ⟨s,i⟩:=x
 obtain ⟨V,hV⟩:∃ V,swM ns (l.take k) (s,i)=V:=⟨_,rfl⟩
 rw [hV]
 obtain ⟨b1,hb1⟩:∃ b,zaj i 0 ((ns:Int) - 1)=b:=⟨_,rfl⟩
 obtain ⟨b2,hb2⟩:∃ b,ze1 ((l.take k).map (·.2)) i=b:=⟨_,rfl⟩
 have HV:Hid (zam [zag b1 6,zag (!b2) 26]=V):=by rw [Hid,← hV,swM,hb1,hb2]
 have WI:=fun W=>zb0 i 0 ((ns:Int) - 1) b1 hb1 W
 have k0:=hA1 w (.cells #[.slice As ns cs,.slice At nt ct,.slice Aw nw cw,.slice Ar nr cr] 26)
 have hb0:=hB1 w (.cells #[.slice As ns cs,.slice At nt ct,.slice Aw nw cw,.slice Ar nr cr] 26)
 have hr0:=hr.below (hb0.mono hB)
 have HB:=Lib.hid hb0
 have hs0:=hb0.size
 have HTL:Hid ((l.take k).length=k):=by rw [Hid,List.length_take];omega
 obtain ⟨bb,off,hA,hbB,z0,z1⟩:=Rd.sw hr0 hk
 simp only at z0 z1
 have hrt:=rd_takeSw hr0 k
 subst hA
 clear hb0 hr hV hb1
 go_enter Tryz.func124,Tryz.ntmps124
 go_upto_region 1 with (fail)
 generalize (w.alloc (.cells #[.slice As ns cs,.slice At nt ct,.slice (some ⟨bb,off,none⟩) nw cw,.slice Ar nr cr] 26))=w0 at *
 have c0:=(cell_of_row w0 _ 0 _ _ _ k0).trans (by rfl:_=some (.slice As ns cs))
 have c2:=(cell_of_row w0 _ 2 _ _ _ k0).trans (by rfl:_=some (.slice (some ⟨bb,off,none⟩) nw cw))
 have d1:(w0.alloc (.cells #[.string s,.int .i64 i] 76)).cell? ⟨w0.heap.size,1,none⟩=some (.int .i64 i):=(zaz (by rw [zae,if_pos rfl])).2
 have hba:=hB1 w0 (.cells #[.string s,.int .i64 i] 76)
 have HBA:=Lib.hid (HB.out.trans (hba.mono hs0))
 have hsa:=Nat.le_trans hs0 hba.size
 have hrta:=hrt.below (hba.mono (by omega))
 have e0:=zat hba c0
 have e2:=zat hba c2
 clear hba hrt k0 hr0
 go_upto_region 2 with (fail)
 clear z0 z1 c0 c2
 generalize w0.alloc (.cells #[.string s,.int .i64 i] 76)=wa at *
 generalize w0.heap.size=xb at *
 have hkc:k≤cw:=by omega
 have CS:=fun c=>zkb (some ⟨bb,off,none⟩) k c B (l.take k) i b2 hb2 xb wa (by omega) HTL.out hrta (by omega) d1
 go_upto_region 3 with (go_at_call 191;refine (CS _).mono ?_;rintro e wc ⟨rfl,hb9⟩)
 replace e0:=zat hb9 e0
 replace d1:=zat hb9 d1
 have HBC:=Lib.hid (HBA.out.trans (hb9.mono hsa))
 have hsc:=Nat.le_trans hsa hb9.size
 clear CS hb9 HBA hrta e2
 go_wp2_with (first | (go_at_call 193;refine (WI _).mono ?_;rintro e w' ⟨rfl,rfl⟩) | (go_at_call 115;refine (zb1 _ _ _).mono ?_;rintro e w' ⟨rfl,rfl⟩) | (go_at_call 114;refine (zdo _ _ _).mono ?_;rintro e w' ⟨he,rfl⟩;rw [HV.out] at he;subst he))
 go_ret
 exact ⟨rfl,HBC.out.alloc hsc _⟩
end Go.Proofs.YtoodbfkbbchjiaaGreatDoor
