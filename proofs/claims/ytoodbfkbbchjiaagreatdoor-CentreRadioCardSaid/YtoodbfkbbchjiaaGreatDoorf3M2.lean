import Derived.Test.YtoodbfkbbchjiaaGreatDoorf3F2
import Derived.Test.YtoodbfkbbchjiaaGreatDoorf3F3
import Derived.Test.YtoodbfkbbchjiaaGreatDoorf3F4
set_option maxRecDepth 100000
set_option maxHeartbeats 16000000
namespace Go.Proofs.YtoodbfkbbchjiaaGreatDoor
open Go.RowKit Go.Maps Go.WideMaps
theorem zbp {H:Type} {w w':World} {P:Program} {k:TypeId} {R:Value→Option (DataW H × List MemPlace)} {b n:Nat} {D:DataW H} (h:w.ownsMap P k R b n D) (hb:Below w.heap.size w w'):w'.ownsMap P k R b n D:=by
 have hlt:=h.lt
 obtain ⟨es,clock,hbk,r⟩:=h
 exact ⟨es,clock,(hb.block b hlt).trans hbk,r⟩
def ndE {α:Type} (nm:α→ByteArray) (mE:List α→α→Int) (pre:List α) (x:α):Int:=if nmE (pre.map nm) (nm x)=0 then mE pre x else nmE (pre.map nm) (nm x)
def NdRel {α:Type} (w0:World) (f:List α→α→Int) (l:List α) (nm:α→ByteArray) (n:Nat) (V:Int) (bm:Nat) (u:Value) (wr:World):Prop:=
 ∃ k:Nat,k≤n∧u=.int .i64 k∧za2 f (l.take k) (l.drop k)=V∧wr.ownsMap (H:=Unit) Tryz.prog 9 (plainElem Tryz.prog 4) bm k (zck ((l.take k).map nm))∧Below w0.heap.size w0 wr
theorem zlj {α:Type} {l:List α} {k:Nat} {x:α} (h:l[k]?=some x) (nm:α→ByteArray):zck ((l.take (k+1)).map nm)=(zck ((l.take k).map nm)).put (sk (nm x)) (.lit (.bool true)):=by
 rw [List.take_add_one,h,List.map_append]
 exact nameSet_snoc _ _
theorem run_nil_nil (W:World):Sem.run Tryz.prog (binOp BinOp.neq 207 Value.nilFunc Value.nilFunc) W=.ok (.bool false) W:=by kernel_rfl
theorem zh0 (f:Nat) (vs:Array Value) (W:World):Sem.run Tryz.prog (binOp BinOp.neq 207 (Value.func (.func f) #[] vs) Value.nilFunc) W=.ok (.bool true) W:=by kernel_rfl
theorem itself_val (s:ByteArray) (w:World):Calls Tryz.prog 118 #[.string s] w fun e w'=>e=.returned (.string s)∧w=w':=by
 go_enter Tryz.func118,Tryz.ntmps118
 go_wp2
 go_ret
 exact ⟨rfl,rfl⟩
theorem swName_val (s:ByteArray) (n:Int) (w:World):Calls Tryz.prog 121 #[.agg #[.string s,.int .i64 n]] w fun e w'=>e=.returned (.string s)∧Below w.heap.size w w':=by
 go_enter Tryz.func121,Tryz.ntmps121
 go_wp2
 go_ret
 exact ⟨rfl,(Below.refl _ _).alloc (Nat.le_refl _) _⟩
theorem rtName_val (s:ByteArray) (a b:Value) (w:World):Calls Tryz.prog 126 #[.agg #[.string s,a,b]] w fun e w'=>e=.returned (.string s)∧Below w.heap.size w w':=by
 go_enter Tryz.func126,Tryz.ntmps126
 go_wp2
 go_ret
 exact ⟨rfl,(Below.refl _ _).alloc (Nat.le_refl _) _⟩
theorem zi8 (w:World) (B:Nat) (L:Int) (A:Option Addr) (n c:Nat) (l:List (ByteArray)) (hl:l.length=n) (hr:Rd w B A (strCells l)) (hB:B≤w.heap.size) (hn:n≤1000) (hz:∀ x∈l,((fun x:ByteArray=>x) x).size≤1000) :
 Calls Tryz.prog 117 #[.int .i64 L,.slice A n c,.func (.func 118) #[] #[],.nilFunc] w (zce w (za2 (ndE (fun x:ByteArray=>x) (fun _ _=>0)) [] l)):=by
 have hmm:=@run_makeMap Tryz.prog
 have hnn:=fun W=>run_nil_nil W
 have k1:=hA1 w (.cells #[.int .i64 0,.int .i64 0] 180)
 have hb0:=hB1 w (.cells #[.int .i64 0,.int .i64 0] 180)
 have HSZ:Hid (w.heap.size+1=(w.alloc (.cells #[.int .i64 0,.int .i64 0] 180)).heap.size):=by simp [Hid]
 have hm0:((w.alloc (.cells #[.int .i64 0,.int .i64 0] 180)).alloc (.map #[] 0)).ownsMap (H:=Unit) Tryz.prog 9 (plainElem Tryz.prog 4) (w.heap.size+1) 0 (zck []):=by
  have:=World.ownsMap_made (H:=Unit) (w.alloc (.cells #[.int .i64 0,.int .i64 0] 180)) Tryz.prog 9 (plainElem Tryz.prog 4)
  simpa [zck,setOf] using this
 have hb9:Below (w.alloc (.cells #[.int .i64 0,.int .i64 0] 180)).heap.size (w.alloc (.cells #[.int .i64 0,.int .i64 0] 180)) ((w.alloc (.cells #[.int .i64 0,.int .i64 0] 180)).alloc (.map #[] 0)):=(Below.refl _ _).alloc (Nat.le_refl _) _
 have HB9:=Lib.hid hb9
 have HR:=Lib.hid (hr.below (hb0.mono hB))
 have HB:=Lib.hid hb0
 have HM:=Lib.hid hm0
 have HL:=Lib.hid hl
 have HZ:=Lib.hid hz
 obtain ⟨V,hV⟩:∃ V,za2 (ndE (fun x:ByteArray=>x) (fun _ _=>0)) [] l=V:=⟨_,rfl⟩
 rw [hV]
 have HV:=Lib.hid hV
 clear hb0 hr hl hV hm0 hz hb9
 go_enter Tryz.func117,Tryz.ntmps117
 go_wp2
 clear hmm
 generalize (w.alloc (.cells #[.int .i64 0,.int .i64 0] 180))=w0 at *
 generalize hbw:w.heap.size=bw at *
 have HBW:=Lib.hid hbw
 clear hbw
 have hs:bw+1≤w0.heap.size:=Nat.le_of_eq HSZ.out
 have hs9:w0.heap.size≤bw+1:=Nat.le_of_eq HSZ.out.symm
 go_loopw [18] (fun u wr=>NdRel w0 (ndE (fun x:ByteArray=>x) (fun _ _=>0)) l (fun x:ByteArray=>x) n V (bw+1) u wr) (fun u _=>n - (intOf u).toNat)
 case atStart=>exact ⟨0,Nat.zero_le _,rfl,HV.out,HM.out,HB9.out⟩
 case round =>
  clear HV HM HB9
  obtain ⟨k,hk,rfl,hgo,hmap,hb⟩:=hrel
  have HGO:=Lib.hid hgo
  have HBK:=Lib.hid hb
  have HMAP:=Lib.hid hmap
  have hr:=HR.out.below (hb.mono (by omega))
  have hsk:=hb.size
  replace k1:=blk hb k1
  clear hgo hb hmap
  by_cases hlt:k<n
  · have hkl:k<l.length:=by rw [HL.out];exact hlt
    obtain ⟨ev,hev⟩:∃ ev,l[k]?=some ev:=⟨_,List.getElem?_eq_getElem hkl⟩
    obtain ⟨bb,off,rfl,hbB,z0⟩:=hr.at_ (k:=k) (u:=.string ev) (by simp [strCells,hev])
    have HSV:=Lib.hid hev
    have hz9:=HZ.out ev (List.mem_of_getElem? hev)
    have hmapa:=HMAP.out
    have HBN:=HBK
    have hsn:=hsk
    clear hkl hev HBK HMAP
    go_upto_region 6 with (go_at_call 118;refine (itself_val ev _).mono ?_;rintro e w' ⟨rfl,rfl⟩)
    clear z0
    obtain ⟨wn,rfl⟩:∃ wn,wn=wr:=⟨wr,rfl⟩
    obtain ⟨bn,hbn⟩:∃ b,za3 ev=b:=⟨_,rfl⟩
    obtain ⟨bt,hbt⟩:∃ b,zcu ((l.take k).map (fun x:ByteArray=>x)) ev=b:=⟨_,rfl⟩
    have NM:=fun W=>zhl ev bn hbn (by omega) W
    have xl:=fun y:Xt wn=>zi9 (zbp hmapa y.2) ev hz9
    rw [hbt] at xl
    obtain ⟨en,hen⟩:∃ er,zam [zag bn 4,zag (!bt) 5]=er:=⟨_,rfl⟩
    have HEN:Hid (nmE ((l.take k).map (fun x:ByteArray=>x)) ev=en):=by rw [Hid,nmE,hbn,hbt,hen]
    have HEF:=Lib.hid hen
    have HMP:=Lib.hid hmapa
    clear hbn hbt hen hmapa
    refine zax [] [0,1,2,3,4,5,6,7] 8 [9,10] (fun w'=>∃ y:Xt wn,w'=y.1) (by as_aux_lemma=>kernel_rfl) (by as_aux_lemma=>kernel_rfl) ⟨⟨wn.drew,(Below.refl _ _).drew⟩,rfl⟩ ?_
    simp only [zad,zac,zaa,zX1,zX2,zX3]
    refine wpQuiet_nil ?_
    show wpQuiet _ _ _ _ _ _
    repeat (go_big_quiet_step (first | (go_at_call 190;exact Xt.calls (NM _)) | (go_at_call 115;exact Xt.calls_same (zb1 _ _ _))))
    refine wpQuiet_nil ?_
    intro wb hx
    have hb3:=Xt.below hx
    clear hx NM xl
    go_upto_region 7 with (go_at_call 114;refine (zdo _ _ _).mono ?_;rintro e w' ⟨he,rfl⟩;rw [HEF.out] at he;subst he)
    refine zab ?_
    have HB5:∀ o,Below wn.heap.size wn (wb.alloc o):=fun o=>hb3.alloc hb3.size o
    generalize hw5:wb.alloc _=w5
    have hb5:Below wn.heap.size wn w5:=by rw [← hw5];exact HB5 _
    replace k1:=blk hb5 k1
    have HM5:=Lib.hid (zbp HMP.out hb5)
    have HB6:=Lib.hid (HBN.out.trans (hb5.mono hsn))
    have hs6:=Nat.le_trans hsn hb5.size
    clear HB5 hb5 hw5 hb3 HBN HEF HMP
    by_cases h0:en=0
    · have h0':(en == 0)=true:=by simp [h0]
      have HER:Hid ((ndE (fun x:ByteArray=>x) (fun _ _=>0)) (l.take k) ev=0):=by
       rw [Hid,ndE,if_pos (HEN.out.trans h0)]
      subst h0
      clear h0'
      have HM7:=HM5
      have HB7:=HB6
      have hs7:=hs6
      have HN:=Lib.hid (zc1 HSV.out HGO.out HER.out)
      have HST:=Lib.hid (zlj HSV.out (fun x:ByteArray=>x))
      have hmap:=HM7.out
      go_wp2_with (at_mapUpdate;refine stp ?_)
      unfold Stp
      refine wpList_mapUpdate_own _ rfl _ _ _ 277 rfl 9 4 (string_keyed Tryz.underlying9) Tryz.underlying277 (plainElem Tryz.prog 4) (bw+1) k _ rfl hmap (by unfold maxLen;omega) _ _ _ rfl rfl (keyOf_string_mk Tryz.underlying9 (s:=ev) (by unfold maxLen;omega)) _ [] (plainElem_bool Tryz.underlying4 true) ?_
      intro w8 hmap8 hgrow8
      have HM8:Hid (w8.ownsMap (H:=Unit) Tryz.prog 9 (plainElem Tryz.prog 4) (bw+1) (k+1) (zck ((l.take (k+1)).map (fun x:ByteArray=>x)))):=by
       rw [Hid,HST.out]
       exact hmap8
      have HB8:=Lib.hid (HB7.out.grown hgrow8 (by omega) (fun j hj=>by rw [← Option.some.inj hj];omega))
      clear hmap hmap8 hgrow8
      go_wp2
      go_roundw
      case rel=>exact ⟨k+1,by omega,by go_num,HN.out,HM8.out,HB8.out⟩
      case measure=>simp [intOf];omega
    · have h0':(en == 0)=false:=by simp [h0]
      have h0'':(en != 0)=true:=by simp [h0]
      have HER:Hid ((ndE (fun x:ByteArray=>x) (fun _ _=>0)) (l.take k) ev=en):=by
       rw [Hid,ndE,if_neg (by rw [HEN.out];exact h0)]
       exact HEN.out
      have HN:Hid (V=en):=by rw [Hid,← HER.out];exact (zb3 HSV.out HGO.out (by rw [HER.out];exact h0)).symm
      obtain ⟨r2,r3,q2,q3⟩:=zbu k1
      clear h0
      go_wp2
      refine bodyPost_ret (v:=.tuple #[.agg #[.int .i64 L,.int .i64 k],.int .i64 en]) (by simp [results,Tryz.results117,go_sem,r2,r3]) rfl ⟨L,k,?_,?_⟩
      · rw [HN.out]
      · rw [HBW.out]
        exact (HB.out.trans (HB6.out.mono (by omega))).trans (zal _ _ (Nat.le_refl _))
  · have HN1:Hid (V=0):=zb9 (by rw [HL.out];omega) HGO.out
    obtain ⟨r2,r3,q2,q3⟩:=zbu k1
    go_wp2
    refine bodyPost_ret (v:=.tuple #[.agg #[.int .i64 0,.int .i64 0],.int .i64 0]) (by simp [results,Tryz.results117,go_sem,r2,r3]) rfl ⟨0,0,?_,?_⟩
    · rw [HN1.out]
    · rw [HBW.out]
      exact (HB.out.trans (HBK.out.mono (by omega))).trans (zal _ _ (Nat.le_refl _))
end Go.Proofs.YtoodbfkbbchjiaaGreatDoor
