import Derived.Test.YtfdmeojcopkaoaaGreatDoorf3F2
import Derived.Test.YtfdmeojcopkaoaaGreatDoorf3F3
import Derived.Test.YtfdmeojcopkaoaaGreatDoorf3F4
import Derived.Test.YtfdmeojcopkaoaaGreatDoorf3X4
set_option maxRecDepth 100000
set_option maxHeartbeats 16000000
namespace Go.Proofs.YtfdmeojcopkaoaaGreatDoor
open Go.RowKit Go.Maps Go.WideMaps
theorem zbl {H:Type} {w w':World} {P:Program} {k:TypeId} {R:Value→Option (DataW H × List MemPlace)} {b n:Nat} {D:DataW H} (h:w.ownsMap P k R b n D) (hb:Below w.heap.size w w'):w'.ownsMap P k R b n D:=by
 have hlt:=h.lt
 obtain ⟨es,clock,hbk,r⟩:=h
 exact ⟨es,clock,(hb.block b hlt).trans hbk,r⟩
def ndE {α:Type} (nm:α→ByteArray) (mE:List α→α→Int) (pre:List α) (x:α):Int:=if nmE (pre.map nm) (nm x)=0 then mE pre x else nmE (pre.map nm) (nm x)
def NdRel {α:Type} (w0:World) (f:List α→α→Int) (l:List α) (nm:α→ByteArray) (n:Nat) (V:Int) (bm:Nat) (u:Value) (wr:World):Prop:=
 ∃ k:Nat,k≤n∧u=.int .i64 k∧za4 f (l.take k) (l.drop k)=V∧wr.ownsMap (H:=Unit) Tryz.prog 9 (plainElem Tryz.prog 4) bm k (zcl ((l.take k).map nm))∧Below w0.heap.size w0 wr
theorem zkl {α:Type} {l:List α} {k:Nat} {x:α} (h:l[k]?=some x) (nm:α→ByteArray):zcl ((l.take (k+1)).map nm)=(zcl ((l.take k).map nm)).put (sk (nm x)) (.lit (.bool true)):=by
 rw [List.take_add_one,h,List.map_append]
 exact nameSet_snoc _ _
theorem run_nil_nil (W:World):Sem.run Tryz.prog (binOp BinOp.neq 96 Value.nilFunc Value.nilFunc) W=.ok (.bool false) W:=by kernel_rfl
theorem zhg (f:Nat) (vs:Array Value) (W:World):Sem.run Tryz.prog (binOp BinOp.neq 96 (Value.func (.func f) #[] vs) Value.nilFunc) W=.ok (.bool true) W:=by kernel_rfl
theorem itself_val (s:ByteArray) (w:World):Calls Tryz.prog 55 #[.string s] w fun e w'=>e=.returned (.string s)∧w=w':=by
 go_enter Tryz.func55,Tryz.ntmps55
 go_wp2
 go_ret
 exact ⟨rfl,rfl⟩
theorem swName_val (s:ByteArray) (n:Int) (w:World):Calls Tryz.prog 58 #[.agg #[.string s,.int .i64 n]] w fun e w'=>e=.returned (.string s)∧Below w.heap.size w w':=by
 go_enter Tryz.func58,Tryz.ntmps58
 go_wp2
 go_ret
 exact ⟨rfl,(Below.refl _ _).alloc (Nat.le_refl _) _⟩
theorem rtName_val (s:ByteArray) (a b:Value) (w:World):Calls Tryz.prog 63 #[.agg #[.string s,a,b]] w fun e w'=>e=.returned (.string s)∧Below w.heap.size w w':=by
 go_enter Tryz.func63,Tryz.ntmps63
 go_wp2
 go_ret
 exact ⟨rfl,(Below.refl _ _).alloc (Nat.le_refl _) _⟩
theorem zii (w:World) (B:Nat) (L:Int) (A:Option Addr) (n c:Nat) (l:List (ByteArray)) (hl:l.length=n) (hr:Rd w B A (strCells l)) (hB:B≤w.heap.size) (hn:n≤1000) (hz:∀ x∈l,((fun x:ByteArray=>x) x).size≤1000) :
 Calls Tryz.prog 54 #[.int .i64 L,.slice A n c,.func (.func 55) #[] #[],.nilFunc] w (zcg w (za4 (ndE (fun x:ByteArray=>x) (fun _ _=>0)) [] l)):=by
 have hmm:=@run_makeMap Tryz.prog
 have hnn:=fun W=>run_nil_nil W
 have k1:=hA1 w (.cells #[.int .i64 0,.int .i64 0] 80)
 have hb0:=hB1 w (.cells #[.int .i64 0,.int .i64 0] 80)
 have HSZ:Hid (w.heap.size+1=(w.alloc (.cells #[.int .i64 0,.int .i64 0] 80)).heap.size):=by simp [Hid]
 have hm0:((w.alloc (.cells #[.int .i64 0,.int .i64 0] 80)).alloc (.map #[] 0)).ownsMap (H:=Unit) Tryz.prog 9 (plainElem Tryz.prog 4) (w.heap.size+1) 0 (zcl []):=by
  have:=World.ownsMap_made (H:=Unit) (w.alloc (.cells #[.int .i64 0,.int .i64 0] 80)) Tryz.prog 9 (plainElem Tryz.prog 4)
  simpa [zcl,setOf] using this
 have hb9:Below (w.alloc (.cells #[.int .i64 0,.int .i64 0] 80)).heap.size (w.alloc (.cells #[.int .i64 0,.int .i64 0] 80)) ((w.alloc (.cells #[.int .i64 0,.int .i64 0] 80)).alloc (.map #[] 0)):=(Below.refl _ _).alloc (Nat.le_refl _) _
 have HB9:=Lib.hid hb9
 have HR:=Lib.hid (hr.below (hb0.mono hB))
 have HB:=Lib.hid hb0
 have HM:=Lib.hid hm0
 have HL:=Lib.hid hl
 have HZ:=Lib.hid hz
 obtain ⟨V,hV⟩:∃ V,za4 (ndE (fun x:ByteArray=>x) (fun _ _=>0)) [] l=V:=⟨_,rfl⟩
 rw [hV]
 have HV:=Lib.hid hV
 clear hb0 hr hl hV hm0 hz hb9
 go_enter Tryz.func54,Tryz.ntmps54
 go_wp2
 clear hmm
 generalize (w.alloc (.cells #[.int .i64 0,.int .i64 0] 80))=w0 at *
 generalize hbw:w.heap.size=bw at *
 have HBW:=Lib.hid hbw
 clear hbw
 have hs:bw+1≤w0.heap.size:=Nat.le_of_eq HSZ.out
 have hs9:w0.heap.size≤bw+1:=Nat.le_of_eq HSZ.out.symm
 go_loopw [18] (fun u wr=>NdRel w0 (ndE (fun x:ByteArray=>x) (fun _ _=>0)) l (fun x:ByteArray=>x) n V (bw+1) u wr) (fun u _=>n - (intOf u).toNat)
 case atStart=>exact ⟨0,Nat.zero_le _,rfl,HV.out,HM.out,HB9.out⟩
 case round =>
  clear HV HM HB9
  obtain ⟨k,hk,rfl,hgo,hmap,hb⟩:=hrel
  have HGO:=Lib.hid hgo
  have HBK:=Lib.hid hb
  have HMAP:=Lib.hid hmap
  have hr:=HR.out.below (hb.mono (by omega))
  have hsk:=hb.size
  replace k1:=blk hb k1
  clear hgo hb hmap
  by_cases hlt:k<n
  · have hkl:k<l.length:=by rw [HL.out];exact hlt
    obtain ⟨ev,hev⟩:∃ ev,l[k]?=some ev:=⟨_,List.getElem?_eq_getElem hkl⟩
    obtain ⟨bb,off,rfl,hbB,z0⟩:=hr.at_ (k:=k) (u:=.string ev) (by simp [strCells,hev])
    have HSV:=Lib.hid hev
    have hz9:=HZ.out ev (List.mem_of_getElem? hev)
    have hmapa:=HMAP.out
    have HBN:=HBK
    have hsn:=hsk
    clear hkl hev HBK HMAP
    go_upto_region 6 with (go_at_call 55;refine (itself_val ev _).mono ?_;rintro e w' ⟨rfl,rfl⟩)
    clear z0
    obtain ⟨wn,rfl⟩:∃ wn,wn=wr:=⟨wr,rfl⟩
    obtain ⟨bn,hbn⟩:∃ b,zba ev=b:=⟨_,rfl⟩
    obtain ⟨bt,hbt⟩:∃ b,zcy ((l.take k).map (fun x:ByteArray=>x)) ev=b:=⟨_,rfl⟩
    have NM:=fun W=>zg6 ev bn hbn (by omega) W
    have xl:=fun y:Xt wn=>zij (zbl hmapa y.2) ev hz9
    rw [hbt] at xl
    obtain ⟨en,hen⟩:∃ er,zam [zaf bn 4,zaf (!bt) 5]=er:=⟨_,rfl⟩
    have HEN:Hid (nmE ((l.take k).map (fun x:ByteArray=>x)) ev=en):=by rw [Hid,nmE,hbn,hbt,hen]
    have HEF:=Lib.hid hen
    have HMP:=Lib.hid hmapa
    clear hbn hbt hen hmapa
    refine zaw [] [0,1,2,3,4,5,6,7] 8 [9,10] (fun w'=>∃ y:Xt wn,w'=y.1) (by as_aux_lemma=>kernel_rfl) (by as_aux_lemma=>kernel_rfl) ⟨⟨wn.drew,(Below.refl _ _).drew⟩,rfl⟩ ?_
    simp only [zad,zac,zaa,zX1,zX2,zX3]
    refine wpQuiet_nil ?_
    show wpQuiet _ _ _ _ _ _
    repeat (go_big_quiet_step (first | (go_at_call 117;exact Xt.calls (NM _)) | (go_at_call 52;exact Xt.calls_same (zb2 _ _ _))))
    refine wpQuiet_nil ?_
    intro wb hx
    have hb3:=Xt.below hx
    clear hx NM xl
    go_upto_region 7 with (go_at_call 51;refine (zdn _ _ _).mono ?_;rintro e w' ⟨he,rfl⟩;rw [HEF.out] at he;subst he)
    refine zab ?_
    have HB5:∀ o,Below wn.heap.size wn (wb.alloc o):=fun o=>hb3.alloc hb3.size o
    generalize hw5:wb.alloc _=w5
    have hb5:Below wn.heap.size wn w5:=by rw [← hw5];exact HB5 _
    replace k1:=blk hb5 k1
    have HM5:=Lib.hid (zbl HMP.out hb5)
    have HB6:=Lib.hid (HBN.out.trans (hb5.mono hsn))
    have hs6:=Nat.le_trans hsn hb5.size
    clear HB5 hb5 hw5 hb3 HBN HEF HMP
    by_cases h0:en=0
    · have h0':(en == 0)=true:=by simp [h0]
      have HER:Hid ((ndE (fun x:ByteArray=>x) (fun _ _=>0)) (l.take k) ev=0):=by
       rw [Hid,ndE,if_pos (HEN.out.trans h0)]
      subst h0
      clear h0'
      have HM7:=HM5
      have HB7:=HB6
      have hs7:=hs6
      have HN:=Lib.hid (zc0 HSV.out HGO.out HER.out)
      have HST:=Lib.hid (zkl HSV.out (fun x:ByteArray=>x))
      have hmap:=HM7.out
      go_wp2_with (at_mapUpdate;refine stp ?_)
      unfold Stp
      refine wpList_mapUpdate_own _ rfl _ _ _ 206 rfl 9 4 (string_keyed Tryz.underlying9) Tryz.underlying206 (plainElem Tryz.prog 4) (bw+1) k _ rfl hmap (by unfold maxLen;omega) _ _ _ rfl rfl (keyOf_string_mk Tryz.underlying9 (s:=ev) (by unfold maxLen;omega)) _ [] (plainElem_bool Tryz.underlying4 true) ?_
      intro w8 hmap8 hgrow8
      have HM8:Hid (w8.ownsMap (H:=Unit) Tryz.prog 9 (plainElem Tryz.prog 4) (bw+1) (k+1) (zcl ((l.take (k+1)).map (fun x:ByteArray=>x)))):=by
       rw [Hid,HST.out]
       exact hmap8
      have HB8:=Lib.hid (HB7.out.grown hgrow8 (by omega) (fun j hj=>by rw [← Option.some.inj hj];omega))
      clear hmap hmap8 hgrow8
      go_wp2
      go_roundw
      case rel=>exact ⟨k+1,by omega,by go_num,HN.out,HM8.out,HB8.out⟩
      case measure=>simp [intOf];omega
    · have h0':(en == 0)=false:=by simp [h0]
      have h0'':(en != 0)=true:=by simp [h0]
      have HER:Hid ((ndE (fun x:ByteArray=>x) (fun _ _=>0)) (l.take k) ev=en):=by
       rw [Hid,ndE,if_neg (by rw [HEN.out];exact h0)]
       exact HEN.out
      have HN:Hid (V=en):=by rw [Hid,← HER.out];exact (zb4 HSV.out HGO.out (by rw [HER.out];exact h0)).symm
      obtain ⟨r2,r3,q2,q3⟩:=zbr k1
      clear h0
      go_wp2
      refine bodyPost_ret (v:=.tuple #[.agg #[.int .i64 L,.int .i64 k],.int .i64 en]) (by simp [results,Tryz.results54,go_sem,r2,r3]) rfl ⟨L,k,?_,?_⟩
      · rw [HN.out]
      · rw [HBW.out]
        exact (HB.out.trans (HB6.out.mono (by omega))).trans (zal _ _ (Nat.le_refl _))
  · have HN1:Hid (V=0):=zcc (by rw [HL.out];omega) HGO.out
    obtain ⟨r2,r3,q2,q3⟩:=zbr k1
    go_wp2
    refine bodyPost_ret (v:=.tuple #[.agg #[.int .i64 0,.int .i64 0],.int .i64 0]) (by simp [results,Tryz.results54,go_sem,r2,r3]) rfl ⟨0,0,?_,?_⟩
    · rw [HN1.out]
    · rw [HBW.out]
      exact (HB.out.trans (HBK.out.mono (by omega))).trans (zal _ _ (Nat.le_refl _))
end Go.Proofs.YtfdmeojcopkaoaaGreatDoor
namespace Go.Proofs.YtfdmeojcopkaoaaGreatDoor
open Go.RowKit
theorem isPos_val (x:Int) (b:Bool) (h:zfq x=b) (w:World):Calls Tryz.prog 122 #[.int .i64 x] w fun e w'=>e=.returned (.bool b)∧w=w':=by
 have HB:=Lib.hid h
 clear h
 by_cases h0:x=0
 · subst h0
   have HV:Hid (b=true):=by rw [Hid,← HB.out];rfl
   go_enter Tryz.func122,Tryz.ntmps122
   go_wp2
   go_ret
   exact ⟨by rw [HV.out];rfl,rfl⟩
 · have e0:(x == 0)=false:=by simp [h0]
   have HV:Hid ((x == 1)=b):=by
    rw [Hid,← HB.out,zfq]
    by_cases h1:x=1 <;> simp [h0,h1]
   clear h0
   go_enter Tryz.func122,Tryz.ntmps122
   go_wp2
   go_ret
   exact ⟨by rw [← HV.out];rfl,rfl⟩
theorem IndexI_any (A:Option Addr) (n c B:Nat) (l:List Int) (s:Int) (w:World) (hn:n≤1000000000) (hl:l.length=n) (h:Rd w B A (zah l)) :
 Calls Tryz.prog 159 #[.slice A n c,.int .i64 s] w fun e w'=>e=.returned (.int .i64 (za0 (fun a=>s == a) l 0))∧w=w':=by
 have HL:=Lib.hid hl;clear hl
 go_enter Tryz.func159,Tryz.ntmps159
 go_wp2
 go_loop [5,8] (fun _ i=>∃ k:Nat,k≤n∧i=.int .i64 k∧za0 (fun a=>s == a) (l.drop k) k=za0 (fun a=>s == a) l 0) (fun _ i=>n - (intOf i).toNat)
 case atStart=>exact ⟨0,Nat.zero_le _,rfl,rfl⟩
 case round =>
  obtain ⟨k,hk,rfl,he⟩:=hrel
  have HE:=Lib.hid he;clear he
  by_cases hlt:k<n
  · have hkl:k<l.length:=by rw [HL.out];exact hlt
    obtain ⟨b,off,rfl,_,hc⟩:=h.at_ (k:=k) (u:=.int .i64 (l[k]?.getD 0)) (by simp [zah,hkl])
    have HS:=Lib.hid (zfa l 0 k hkl)
    clear hkl
    generalize l[k]?.getD 0=x at *
    by_cases hx:s=x
    · subst hx
      go_wp2
      go_ret
      exact ⟨by rw [← HE.out,HS.out,za0];simp,rfl⟩
    · have hx1:(s == x)=false:=by simp [hx]
      have HX:=Lib.hid hx1
      go_wp2
      go_round
      case rel=>exact ⟨k+1,by omega,by go_num,by rw [← HE.out,HS.out,za0,HX.out];rfl⟩
      case measure=>simp [intOf];omega
  · go_wp2
    go_ret
    have:l.drop k=[]:=by rw [List.drop_eq_nil_iff];rw [HL.out];omega
    exact ⟨by rw [← HE.out,this];rfl,rfl⟩
theorem zcu (A:Option Addr) (n c B:Nat) (l:List Int) (s:Int) (b:Bool) (hb:zep l s=b) (w:World) (hn:n≤1000000000) (hl:l.length=n) (h:Rd w B A (zah l)) :
 Calls Tryz.prog 121 #[.slice A n c,.int .i64 s] w fun e w'=>e=.returned (.bool b)∧w=w':=by
 have HV:Hid (decide (0≤za0 (fun a=>s == a) l 0)=b):=by
  rw [Hid,zbv,← hb,zep]
  show l.any (fun a=>s == a)=l.any (fun a=>a == s)
  exact congrArg (fun f=>l.any f) (funext fun a=>BEq.comm)
 clear hb
 have IX:=fun W hW=>IndexI_any A n c B l s W hn hl hW
 generalize za0 (fun a=>s == a) l 0=ix at *
 go_enter Tryz.func121,Tryz.ntmps121
 go_wp2_with (go_at_call 159;refine (IX _ h).mono ?_;rintro e w' ⟨rfl,rfl⟩)
 go_ret
 exact ⟨by rw [← HV.out];rfl,rfl⟩
theorem swSame_val (nm:ByteArray) (x s:Int) (p:Nat) (w:World) (hp:w.cell? ⟨p,1,none⟩=some (.int .i64 s)) :
 Calls Tryz.prog 119 #[.agg #[.string nm,.int .i64 x],.pointer (some ⟨p,0,none⟩)] w fun e w'=>e=.returned (.bool (x == s))∧Below w.heap.size w w':=by
 have hp2:=zb8 (.cells #[.string nm,.int .i64 x] 68) hp
 obtain ⟨c0,c1⟩:_∧_:=zay (W:=w.alloc (.cells #[.string nm,.int .i64 x] 68)) (by rw [zae,if_pos rfl])
 have hb0:=hB1 w (.cells #[.string nm,.int .i64 x] 68)
 clear hp
 go_enter Tryz.func119,Tryz.ntmps119
 go_wp2
 go_ret
 exact ⟨rfl,hb0⟩
def SfRel (w0:World) (l:List Sw) (s:Int) (n:Nat) (V:Int) (u:Value) (wr:World):Prop:=∃ k:Nat,k≤n∧u=.int .i64 k∧za0 (fun x:Sw=>x.2 == s) (l.drop k) k=V∧Below w0.heap.size w0 wr
theorem IndexSw_any (A:Option Addr) (n c B:Nat) (l:List Sw) (s:Int) (p:Nat) (w:World) (hn:n≤1000000000) (hl:l.length=n) (h:Rd w B A (zbk l)) (hB:B≤w.heap.size) (hp:w.cell? ⟨p,1,none⟩=some (.int .i64 s)) :
 Calls Tryz.prog 158 #[.slice A n c,.func (.func 119) #[] #[.pointer (some ⟨p,0,none⟩)]] w (zax w (za0 (fun x:Sw=>x.2 == s) l 0)):=by
 have HL:=Lib.hid hl;clear hl
 obtain ⟨V,hV⟩:∃ V,za0 (fun x:Sw=>x.2 == s) l 0=V:=⟨_,rfl⟩
 rw [hV]
 have HV:=Lib.hid hV
 clear hV
 go_enter Tryz.func158,Tryz.ntmps158
 go_wp2
 go_loopw [5,8] (fun _ i wr=>SfRel w l s n V i wr) (fun _ i _=>n - (intOf i).toNat)
 case atStart=>exact ⟨0,Nat.zero_le _,rfl,HV.out,Below.refl _ _⟩
 case round =>
  obtain ⟨k,hk,rfl,he,hb⟩:=hrel
  have HE:=Lib.hid he
  have HB:=Lib.hid hb
  have hr:=h.below (hb.mono hB)
  replace hp:=zas hb hp
  have hsk:=hb.size
  clear he hb
  by_cases hlt:k<n
  · have hkl:k<l.length:=by rw [HL.out];exact hlt
    obtain ⟨ev,hev⟩:∃ ev,l[k]?=some ev:=⟨_,List.getElem?_eq_getElem hkl⟩
    obtain ⟨bb,off,rfl,hbB,z0,z1⟩:=Rd.sw hr hev
    have HS:=Lib.hid (za5 hev)
    obtain ⟨nm,x⟩:=ev
    simp only at z0 z1
    have SS:=swSame_val nm x s p wr hp
    clear hkl hev hp
    by_cases hx:x=s
    · subst hx
      have HV9:Hid (V=k):=by rw [Hid,← HE.out,HS.out,za0];simp
      have e1:(x == x)=true:=by simp
      rw [e1] at SS
      go_wp2_with (go_at_call 119;refine SS.mono ?_;rintro e w9 ⟨rfl,hb9⟩)
      go_ret
      exact ⟨by rw [HV9.out];rfl,HB.out.trans (hb9.mono hsk)⟩
    · have hx1:(x == s)=false:=by simp [hx]
      rw [hx1] at SS
      have HN:Hid (za0 (fun x:Sw=>x.2 == s) (l.drop (k+1)) (k+1)=V):=by
       have h9:=HE.out
       rw [HS.out,za0] at h9
       simp only [hx1] at h9
       exact h9
      go_wp2_with (go_at_call 119;refine SS.mono ?_;rintro e w9 ⟨rfl,hb9⟩)
      go_roundw
      case rel=>exact ⟨k+1,by omega,by go_num,HN.out,HB.out.trans (hb9.mono hsk)⟩
      case measure=>simp [intOf];omega
  · have HV9:Hid (V=-1):=by
     have h9:=HE.out
     rw [List.drop_eq_nil_iff.2 (by rw [HL.out];omega),za0] at h9
     exact h9.symm
    go_wp2
    go_ret
    exact ⟨by rw [HV9.out];rfl,HB.out⟩
theorem zjk (A:Option Addr) (n c B:Nat) (l:List Sw) (s:Int) (b:Bool) (hb:zep (l.map (·.2)) s=b) (p:Nat) (w:World) (hn:n≤1000000000) (hl:l.length=n) (h:Rd w B A (zbk l)) (hB:B≤w.heap.size) (hp:w.cell? ⟨p,1,none⟩=some (.int .i64 s)) :
 Calls Tryz.prog 118 #[.slice A n c,.func (.func 119) #[] #[.pointer (some ⟨p,0,none⟩)]] w fun e w'=>e=.returned (.bool b)∧Below w.heap.size w w':=by
 have HV:Hid (decide (0≤za0 (fun x:Sw=>x.2 == s) l 0)=b):=by
  rw [Hid,zbv,← hb,zep,List.any_map]
  rfl
 clear hb
 have IX:=IndexSw_any A n c B l s p w hn hl h hB hp
 unfold zax at IX
 generalize za0 (fun x:Sw=>x.2 == s) l 0=ix at *
 go_enter Tryz.func118,Tryz.ntmps118
 go_wp2_with (go_at_call 158;refine IX.mono ?_;rintro e w9 ⟨rfl,hb9⟩)
 go_ret
 exact ⟨by rw [← HV.out];rfl,hb9⟩
def swM (m:Nat) (pre:List Sw) (x:Sw):Int:=zam [zaf (zai x.2 0 ((m:Int) - 1)) 6,zaf (!zep (pre.map (·.2)) x.2) 26]
theorem swE_nd (m:Nat) (pre:List Sw) (x:Sw):swE m pre x=ndE (fun x:Sw=>x.1) (swM m) pre x:=by
 unfold swE ndE swM nmE
 generalize zaf (zba x.1) 4=a
 generalize zaf (!zcy (pre.map (·.1)) x.1) 5=b
 by_cases h:a=0 <;> by_cases g:b=0 <;> simp [zam,h,g]
theorem rd_takeSw {w:World} {B:Nat} {A:Option Addr} {l:List Sw} (h:Rd w B A (zbk l)) (k:Nat):Rd w B A (zbk (l.take k)):=fun j u hu=>h j u (by
 have e:zbk l=zbk (l.take k)++zbk (l.drop k):=by
  unfold zbk
  rw [← List.flatMap_append,List.take_append_drop]
 rw [e,List.getElem?_append_left (List.getElem?_eq_some_iff.1 hu).1]
 exact hu)
theorem zki (w:World) (B:Nat) (As At Aw Ar:Option Addr) (ns nt nw nr cs ct cw cr:Nat) (l:List Sw) (hl:l.length=nw) (hr:Rd w B Aw (zbk l)) (hB:B≤w.heap.size) (hn:nw≤1000) (hs:ns≤1000) (hc:nw≤cw) (k:Nat) (x:Sw) (hk:l[k]?=some x) :
 Calls Tryz.prog 61 #[.agg #[.slice As ns cs,.slice At nt ct,.slice Aw nw cw,.slice Ar nr cr],.int .i64 k] w (zax w (swM ns (l.take k) x)):=by
 have hkl:k<l.length:=(List.getElem?_eq_some_iff.1 hk).1
 have hkn:k<nw:=by rw [← hl];exact hkl
 obtain ⟨s,i⟩:=x
 obtain ⟨V,hV⟩:∃ V,swM ns (l.take k) (s,i)=V:=⟨_,rfl⟩
 rw [hV]
 obtain ⟨b1,hb1⟩:∃ b,zai i 0 ((ns:Int) - 1)=b:=⟨_,rfl⟩
 obtain ⟨b2,hb2⟩:∃ b,zep ((l.take k).map (·.2)) i=b:=⟨_,rfl⟩
 have HV:Hid (zam [zaf b1 6,zaf (!b2) 26]=V):=by rw [Hid,← hV,swM,hb1,hb2]
 have WI:=fun W=>zb1 i 0 ((ns:Int) - 1) b1 hb1 W
 have k0:=hA1 w (.cells #[.slice As ns cs,.slice At nt ct,.slice Aw nw cw,.slice Ar nr cr] 26)
 have hb0:=hB1 w (.cells #[.slice As ns cs,.slice At nt ct,.slice Aw nw cw,.slice Ar nr cr] 26)
 have hr0:=hr.below (hb0.mono hB)
 have HB:=Lib.hid hb0
 have hs0:=hb0.size
 have HTL:Hid ((l.take k).length=k):=by rw [Hid,List.length_take];omega
 obtain ⟨bb,off,hA,hbB,z0,z1⟩:=Rd.sw hr0 hk
 simp only at z0 z1
 have hrt:=rd_takeSw hr0 k
 subst hA
 clear hb0 hr hV hb1
 go_enter Tryz.func61,Tryz.ntmps61
 go_upto_region 1 with (fail)
 generalize (w.alloc (.cells #[.slice As ns cs,.slice At nt ct,.slice (some ⟨bb,off,none⟩) nw cw,.slice Ar nr cr] 26))=w0 at *
 have c0:=(cell_of_row w0 _ 0 _ _ _ k0).trans (by rfl:_=some (.slice As ns cs))
 have c2:=(cell_of_row w0 _ 2 _ _ _ k0).trans (by rfl:_=some (.slice (some ⟨bb,off,none⟩) nw cw))
 have d1:(w0.alloc (.cells #[.string s,.int .i64 i] 68)).cell? ⟨w0.heap.size,1,none⟩=some (.int .i64 i):=(zay (by rw [zae,if_pos rfl])).2
 have hba:=hB1 w0 (.cells #[.string s,.int .i64 i] 68)
 have HBA:=Lib.hid (HB.out.trans (hba.mono hs0))
 have hsa:=Nat.le_trans hs0 hba.size
 have hrta:=hrt.below (hba.mono (by omega))
 have e0:=zas hba c0
 have e2:=zas hba c2
 clear hba hrt k0 hr0
 go_upto_region 2 with (fail)
 clear z0 z1 c0 c2
 generalize w0.alloc (.cells #[.string s,.int .i64 i] 68)=wa at *
 generalize w0.heap.size=xb at *
 have hkc:k≤cw:=by omega
 have CS:=fun c=>zjk (some ⟨bb,off,none⟩) k c B (l.take k) i b2 hb2 xb wa (by omega) HTL.out hrta (by omega) d1
 go_upto_region 3 with (go_at_call 118;refine (CS _).mono ?_;rintro e wc ⟨rfl,hb9⟩)
 replace e0:=zas hb9 e0
 replace d1:=zas hb9 d1
 have HBC:=Lib.hid (HBA.out.trans (hb9.mono hsa))
 have hsc:=Nat.le_trans hsa hb9.size
 clear CS hb9 HBA hrta e2
 go_wp2_with (first | (go_at_call 120;refine (WI _).mono ?_;rintro e w' ⟨rfl,rfl⟩) | (go_at_call 52;refine (zb2 _ _ _).mono ?_;rintro e w' ⟨rfl,rfl⟩) | (go_at_call 51;refine (zdn _ _ _).mono ?_;rintro e w' ⟨he,rfl⟩;rw [HV.out] at he;subst he))
 go_ret
 exact ⟨rfl,HBC.out.alloc hsc _⟩
end Go.Proofs.YtfdmeojcopkaoaaGreatDoor
namespace Go.Proofs.YtfdmeojcopkaoaaGreatDoor
open Go.RowKit
theorem zhv (i:Int) (n:Nat) (p:Addr) (b:Bool) (w:World) (hn:n≤1000000000) (hp:w.cell? p=some (.int .i64 n)) (hb:zai i 0 ((n:Int) - 1)=b) :
 Calls Tryz.prog 128 #[.int .i64 i,.pointer (some p)] w fun e w'=>e=.returned (.bool b)∧w=w':=by
 have WI:=fun W=>zds i 0 ((n:Int) - 1) b hb W
 clear hb
 go_enter Tryz.func128,Tryz.ntmps128
 go_wp2_with (go_at_call 129;refine (WI _).mono ?_;rintro e w' ⟨rfl,rfl⟩)
 go_ret
 exact ⟨rfl,rfl⟩
theorem zei (i:Int) (b:Bool) (w:World) (hb:zai i 1 100000=b) :
 Calls Tryz.prog 130 #[.int .i64 i] w fun e w'=>e=.returned (.bool b)∧w=w':=by
 have WI:=fun W=>zds i 1 100000 b hb W
 clear hb
 go_enter Tryz.func130,Tryz.ntmps130
 go_wp2_with (go_at_call 129;refine (WI _).mono ?_;rintro e w' ⟨rfl,rfl⟩)
 go_ret
 exact ⟨rfl,rfl⟩
theorem actE_list (n:Nat) (a:Act):actE n a=zam [zaf (zai a.kind 0 4) 15,zaf (zai a.src 0 ((n:Int) - 1) && zai a.dst 0 ((n:Int) - 1)) 6,zaf (a.src != a.dst) 26,zaf (zai a.least 1 100000 && (a.most == -1 || zai a.most 1 100000) && zai a.wait 0 100000) 2,zaf (a.most == -1 || decide (a.least≤a.most)) 9,zaf (a.kind == 2 || a.wait == 0) 3]:=by
 obtain ⟨k,s,d,l,m,x⟩:=a
 have g1:(s != d)=!decide (s=d):=by by_cases h:s=d <;> simp [h]
 have g2:(m == -1)=decide (m=-1):=by by_cases h:m=-1 <;> simp [h]
 have g3:(k == 2)=decide (k=2):=by by_cases h:k=2 <;> simp [h]
 have g4:(x == 0)=decide (x=0):=by by_cases h:x=0 <;> simp [h]
 have g5:decide (l≤m)=!decide (m<l):=by by_cases h:m<l <;> simp [h] <;> omega
 unfold actE evtE durB
 simp only
 rw [g1,g2,g3,g4,g5]
 clear g1 g2 g3 g4 g5
 cases zai k 0 4 <;> cases zai s 0 ((n:Int) - 1) <;> cases zai d 0 ((n:Int) - 1) <;> cases zai l 1 100000 <;> cases zai m 1 100000 <;> cases zai x 0 100000 <;> by_cases h1:s=d <;> by_cases h2:m=-1 <;> by_cases h3:m<l <;> by_cases h4:k=2 <;> by_cases h5:x=0 <;> simp [h1,h2,h3,h4,h5,zam,zaf]
end Go.Proofs.YtfdmeojcopkaoaaGreatDoor
