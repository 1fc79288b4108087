import Derived.Test.YtfdmeojcopkaoaaGreatDoorf3K3
import Derived.Test.YtfdmeojcopkaoaaGreatDoorf3K3A
import Derived.Test.YtfdmeojcopkaoaaGreatDoorf3F4
set_option maxRecDepth 100000
set_option maxHeartbeats 16000000
namespace Go.Proofs.YtfdmeojcopkaoaaGreatDoor
open Go.RowKit
theorem ttAct_walkB (w:World) (n:Nat) (k s d l m x:Int) (hn:n≤1000000000) (po pk qk qt ql qm qw:Bool) (ho:(m == -1)=po) (hk:(k == 2)=pk) (hqk:zai k 0 4=qk) (hqf:zai s 0 ((n:Int) - 1)=false) (hqt:zai d 0 ((n:Int) - 1)=qt) (hql:zai l 1 100000=ql) (hqm:zai m 1 100000=qm) (hqw:zai x 0 100000=qw) :
 Calls Tryz.prog 88 #[.int .i64 n,.agg #[.int .i64 k,.int .i64 s,.int .i64 d,.int .i64 l,.int .i64 m,.int .i64 x]] w (zax w (zam [zaf qk 15,zaf (false && qt) 6,zaf (s != d) 26,zaf (ql && (po || qm) && qw) 2,zaf (po || decide (l≤m)) 9,zaf (pk || x == 0) 3])):=by
 have k0:=hA2b w (.cells #[.int .i64 n] 3) (.cells #[.int .i64 k,.int .i64 s,.int .i64 d,.int .i64 l,.int .i64 m,.int .i64 x] 126)
 have hb0:=hB2 w (.cells #[.int .i64 n] 3) (.cells #[.int .i64 k,.int .i64 s,.int .i64 d,.int .i64 l,.int .i64 m,.int .i64 x] 126)
 have d0:((w.alloc (.cells #[.int .i64 n] 3)).alloc (.cells #[.int .i64 k,.int .i64 s,.int .i64 d,.int .i64 l,.int .i64 m,.int .i64 x] 126)).cell? ⟨w.heap.size,0,none⟩=some (.int .i64 n):=zb8 _ (by rw [cell_of_row _ _ _ _ _ _ (by rw [zae,if_pos rfl])];rfl)
 have HB:=Lib.hid hb0
 have hs0:=hb0.size
 obtain ⟨w0,hw0⟩:∃ w0,w0=((w.alloc (.cells #[.int .i64 n] 3)).alloc (.cells #[.int .i64 k,.int .i64 s,.int .i64 d,.int .i64 l,.int .i64 m,.int .i64 x] 126)):=⟨_,rfl⟩
 rw [← hw0] at d0
 have HW:=Lib.hid hw0
 have D0:=fun W=>zds k 0 4 qk hqk W
 have EF:=fun y:Xt w0=>zhv s n _ false y.1 hn (y.cell d0) hqf
 have ET:=fun y:Xt w0=>zhv d n _ qt y.1 hn (y.cell d0) hqt
 have EL:=fun W=>zei l ql W hql
 have EM:=fun W=>zei m qm W hqm
 have D1:=fun W=>zds x 0 100000 qw hqw W
 clear hqk hqf hqt hql hqm hqw hb0 hw0
 by_cases hn2:po=false∧ql=true
 · obtain ⟨rfl,rfl⟩:=hn2
   cases qm <;> cases pk
   all_goals
    first
     | (have ha2:(m != -1)=true:=by simpa using ho)
     | (obtain rfl:m=-1:=by simpa using ho)
    first
     | (have hb2:(k != 2)=true:=by simpa using hk)
     | (obtain rfl:k=2:=by simpa using hk)
    go_enter Tryz.func88,Tryz.ntmps88
    go_upto_region 3 with (fail)
    rw [← HW.out] at k0 HB hs0 ⊢
    clear HW
    have c0:=(cell_of_row w0 _ 0 _ _ _ k0).trans (by rfl:_=some (.int .i64 _))
    have c1:=(cell_of_row w0 _ 1 _ _ _ k0).trans (by rfl:_=some (.int .i64 s))
    have c2:=(cell_of_row w0 _ 2 _ _ _ k0).trans (by rfl:_=some (.int .i64 d))
    have c3:=(cell_of_row w0 _ 3 _ _ _ k0).trans (by rfl:_=some (.int .i64 l))
    have c4:=(cell_of_row w0 _ 4 _ _ _ k0).trans (by rfl:_=some (.int .i64 _))
    have c5:=(cell_of_row w0 _ 5 _ _ _ k0).trans (by rfl:_=some (.int .i64 x))
    go_upto_region 4 with (fail)
    have x0:=fun y:Xt w0=>y.cell c0
    have x1:=fun y:Xt w0=>y.cell c1
    have x2:=fun y:Xt w0=>y.cell c2
    have x3:=fun y:Xt w0=>y.cell c3
    have x4:=fun y:Xt w0=>y.cell c4
    have x5:=fun y:Xt w0=>y.cell c5
    refine zaw [] [0,1,2,3,4,5,6,7,8,9,10,11,12,13,14,15,16,17,18,19,20,21,22,23,24,25,26,27,28,29,30,31,32,33,34,35,36,37,38,39,40,41,42,43,44,45,46,47,48,49,50,51,52,53,54,55,56,57] 58 [59,60] (fun w'=>∃ y:Xt w0,w'=y.1) (by as_aux_lemma=>kernel_rfl) (by as_aux_lemma=>kernel_rfl) ⟨⟨w0.drew,(Below.refl _ _).drew⟩,rfl⟩ ?_
    simp only [zad,zac,zaa,zX1,zX2,zX3]
    refine wpQuiet_nil ?_
    show wpQuiet _ _ _ _ _ _
    repeat (go_big_quiet_step (first | (go_at_call_of 129 (Value.int .i64 x);exact Xt.calls_same (D1 _)) | (go_at_call 129;exact Xt.calls_same (D0 _)) | (go_at_call_of 128 (Value.int .i64 s);exact Xt.calls_same (EF _)) | (go_at_call_of 128 (Value.int .i64 d);exact Xt.calls_same (ET _)) | (go_at_call_of 130 (Value.int .i64 l);exact Xt.calls_same (EL _)) | (go_at_call 130;exact Xt.calls_same (EM _)) | (go_at_call 85;exact Xt.calls_same (zdt _ _ _))))
    refine wpQuiet_nil ?_
    intro w1 hx
    have hb1:=Xt.below hx
    go_wp2_with (go_at_call 84;refine (first6 _ _ _ _ _ _ _).mono ?_;rintro e w' ⟨rfl,rfl⟩)
    refine zab ?_
    go_wp2
    go_ret
    exact ⟨by first | (simp only [Bool.true_and,Bool.false_and,Bool.true_or,Bool.false_or,Bool.and_true,Bool.and_false,Bool.or_true,Bool.or_false];rfl) | (simp [zam,zaf, *];done),(HB.out.trans (hb1.mono hs0)).alloc (Nat.le_trans hs0 hb1.size) _⟩
 · cases po <;> cases ql <;> cases pk
   all_goals try (exact absurd ⟨rfl,rfl⟩ hn2)
   all_goals clear hn2
   all_goals
    first
     | (have ha2:(m != -1)=true:=by simpa using ho)
     | (obtain rfl:m=-1:=by simpa using ho)
    first
     | (have hb2:(k != 2)=true:=by simpa using hk)
     | (obtain rfl:k=2:=by simpa using hk)
    go_enter Tryz.func88,Tryz.ntmps88
    go_upto_region 3 with (fail)
    rw [← HW.out] at k0 HB hs0 ⊢
    clear HW
    have c0:=(cell_of_row w0 _ 0 _ _ _ k0).trans (by rfl:_=some (.int .i64 _))
    have c1:=(cell_of_row w0 _ 1 _ _ _ k0).trans (by rfl:_=some (.int .i64 s))
    have c2:=(cell_of_row w0 _ 2 _ _ _ k0).trans (by rfl:_=some (.int .i64 d))
    have c3:=(cell_of_row w0 _ 3 _ _ _ k0).trans (by rfl:_=some (.int .i64 l))
    have c4:=(cell_of_row w0 _ 4 _ _ _ k0).trans (by rfl:_=some (.int .i64 _))
    have c5:=(cell_of_row w0 _ 5 _ _ _ k0).trans (by rfl:_=some (.int .i64 x))
    go_upto_region 4 with (fail)
    have x0:=fun y:Xt w0=>y.cell c0
    have x1:=fun y:Xt w0=>y.cell c1
    have x2:=fun y:Xt w0=>y.cell c2
    have x3:=fun y:Xt w0=>y.cell c3
    have x4:=fun y:Xt w0=>y.cell c4
    have x5:=fun y:Xt w0=>y.cell c5
    refine zaw [] [0,1,2,3,4,5,6,7,8,9,10,11,12,13,14,15,16,17,18,19,20,21,22,23,24,25,26,27,28,29,30,31,32,33,34,35,36,37,38,39,40,41,42,43,44,45,46,47,48,49,50,51,52,53,54,55,56,57] 58 [59,60] (fun w'=>∃ y:Xt w0,w'=y.1) (by as_aux_lemma=>kernel_rfl) (by as_aux_lemma=>kernel_rfl) ⟨⟨w0.drew,(Below.refl _ _).drew⟩,rfl⟩ ?_
    simp only [zad,zac,zaa,zX1,zX2,zX3]
    refine wpQuiet_nil ?_
    show wpQuiet _ _ _ _ _ _
    repeat (go_big_quiet_step (first | (go_at_call_of 129 (Value.int .i64 x);exact Xt.calls_same (D1 _)) | (go_at_call 129;exact Xt.calls_same (D0 _)) | (go_at_call_of 128 (Value.int .i64 s);exact Xt.calls_same (EF _)) | (go_at_call_of 128 (Value.int .i64 d);exact Xt.calls_same (ET _)) | (go_at_call_of 130 (Value.int .i64 l);exact Xt.calls_same (EL _)) | (go_at_call 130;exact Xt.calls_same (EM _)) | (go_at_call 85;exact Xt.calls_same (zdt _ _ _))))
    refine wpQuiet_nil ?_
    intro w1 hx
    have hb1:=Xt.below hx
    go_wp2_with (go_at_call 84;refine (first6 _ _ _ _ _ _ _).mono ?_;rintro e w' ⟨rfl,rfl⟩)
    refine zab ?_
    go_wp2
    go_ret
    exact ⟨by first | (simp only [Bool.true_and,Bool.false_and,Bool.true_or,Bool.false_or,Bool.and_true];rfl) | (simp [zam,zaf, *];done),(HB.out.trans (hb1.mono hs0)).alloc (Nat.le_trans hs0 hb1.size) _⟩
end Go.Proofs.YtfdmeojcopkaoaaGreatDoor
namespace Go.Proofs.YtfdmeojcopkaoaaGreatDoor
theorem ttAct_any (w:World) (n:Nat) (a:Act) (hn:n≤1000000000):Calls Tryz.prog 88 #[.int .i64 n,actV a] w (zax w (actE n a)):=by
 rw [actE_list]
 obtain ⟨k,s,d,l,m,x⟩:=a
 simp only
 cases h:zai s 0 ((n:Int) - 1) with
 | true=>exact ttAct_walkA w n k s d l m x hn _ _ _ _ _ _ _ rfl rfl rfl h rfl rfl rfl rfl
 | false=>exact ttAct_walkB w n k s d l m x hn _ _ _ _ _ _ _ rfl rfl rfl h rfl rfl rfl rfl
end Go.Proofs.YtfdmeojcopkaoaaGreatDoor
namespace Go.Proofs.YtfdmeojcopkaoaaGreatDoor
open Go.RowKit
theorem zc8 (A:Option Addr) (n c B:Nat) (l:List ByteArray) (s:ByteArray) (b:Bool) (hb:zcy l s=b) (w:World) (hn:n≤1000000000) (hl:l.length=n) (h:Rd w B A (strCells l)) :
 Calls Tryz.prog 87 #[.slice A n c,.string s] w fun e w'=>e=.returned (.bool b)∧w=w':=by
 rw [← hb]
 exact zgz A n c B l s w hn hl h
theorem ttName_val (s:ByteArray) (b:Bool) (hb:zba s=b) (hs9:s.size≤1000000000) (w:World):Calls Tryz.prog 86 #[.string s] w fun e w'=>e=.returned (.bool b)∧Below w.heap.size w w':=by
 rw [← hb]
 exact isName_any s hs9 w
theorem actGo_chk (m:Nat):∀ (l:List Act) (pre:List Act),zi1 m l=za4 (fun _ a=>actE m a) pre l
 | [],_=>rfl
 | a :: l,pre=>by rw [zi1,za4,← actGo_chk m l]
theorem zid {w:World} {B:Nat} {A:Option Addr} {l:List ByteArray} (h:Rd w B A (strCells l)) (k:Nat):Rd w B A (strCells (l.take k)):=fun j u hu=>h j u (by
 unfold strCells at hu ⊢
 rw [List.getElem?_map] at hu ⊢
 rw [List.getElem?_take] at hu
 split at hu
 · exact hu
 · simp at hu)
def zkh (n:Nat):Int:=zam [zaf (decide (0<n)) 10,zaf (decide ((n:Int)≤16)) 8]
theorem netE_head (evs:List ByteArray) (acts:List Act):netE evs acts=if zkh evs.length=0 then (if za4 nmE [] evs=0 then (if 30<acts.length then 8 else za4 (fun _ a=>actE evs.length a) [] acts) else za4 nmE [] evs) else zkh evs.length:=by
 unfold netE zkh
 rw [evGo_chk,actGo_chk _ _ []]
 by_cases h1:evs.length=0
 · simp [h1,zam,zaf]
 · have e1:0<evs.length:=by omega
   by_cases h2:16<evs.length
   · have e2:¬ (evs.length:Int)≤16:=by omega
     simp [h1,h2,e1,e2,zam,zaf]
   · have e2:(evs.length:Int)≤16:=by omega
     by_cases h3:za4 nmE [] evs=0 <;> simp [h1,h2,e1,e2,h3,zam,zaf]
theorem ttNet_any (w:World) (B:Nat) (es as9:SlV) (evs:List ByteArray) (acts:List Act) (h1:zcs w B es evs.length (strCells evs)) (h2:zcs w B as9 acts.length (zb5 acts)) (hc:es.n≤es.c) (hB:B≤w.heap.size)
 (hs1:evs.length≤1000∧∀ s∈evs,s.size≤1000) (hs2:acts.length≤1000) :
 Calls Tryz.prog 21 #[.agg #[es.v,as9.v]] w (zcg w (netE evs acts)):=by
 obtain ⟨Ae,ne,ce⟩:=es
 obtain ⟨Aa,na,ca⟩:=as9
 show Calls Tryz.prog 21 #[.agg #[.slice Ae ne ce,.slice Aa na ca]] w _
 obtain ⟨hl1,hr1⟩:=h1
 obtain ⟨hl2,hr2⟩:=h2
 obtain ⟨hn1,hz⟩:=hs1
 simp only at hl1 hl2 hr1 hr2 hc
 rw [hl1] at hn1
 rw [hl2] at hs2
 have k0:((w.alloc (.cells #[.slice Ae ne ce,.slice Aa na ca] 42)).alloc (.cells #[.int .i64 0,.int .i64 0] 90)).heap[w.heap.size]?=some (.cells #[.slice Ae ne ce,.slice Aa na ca] 42 (0,0)):=by
  rw [zae,if_neg (by simp),zae,if_pos rfl]
 have k1:((w.alloc (.cells #[.slice Ae ne ce,.slice Aa na ca] 42)).alloc (.cells #[.int .i64 0,.int .i64 0] 90)).heap[w.heap.size+1]?=some (.cells #[.int .i64 0,.int .i64 0] 90 (0,0)):=by
  rw [zae,if_pos (by simp)]
 have hb0:=hB2 w (.cells #[.slice Ae ne ce,.slice Aa na ca] 42) (.cells #[.int .i64 0,.int .i64 0] 90)
 have hs:=hS2 w (.cells #[.slice Ae ne ce,.slice Aa na ca] 42) (.cells #[.int .i64 0,.int .i64 0] 90)
 have HR1:=Lib.hid ((hr1.below (hb0.mono hB)).mono hB)
 have HR2:=Lib.hid ((hr2.below (hb0.mono hB)).mono hB)
 have HB:=Lib.hid hb0
 have HL1:=Lib.hid hl1
 have HL2:=Lib.hid hl2
 have HZ:=Lib.hid hz
 obtain ⟨V,hV⟩:∃ V,netE evs acts=V:=⟨_,rfl⟩
 rw [hV]
 obtain ⟨E1,hE1⟩:∃ E,zkh ne=E:=⟨_,rfl⟩
 obtain ⟨V1,hV1⟩:∃ V,za4 nmE [] evs=V:=⟨_,rfl⟩
 obtain ⟨V2,hV2⟩:∃ V,za4 (fun _ a=>actE ne a) [] acts=V:=⟨_,rfl⟩
 have HV:Hid (V=if E1=0 then (if V1=0 then (if 30<na then 8 else V2) else V1) else E1):=by
  rw [Hid,← hV,netE_head]
  simp only [hl1,hl2,hE1,hV1,hV2]
 have HE3:Hid (zam [zaf (decide (0<ne)) 10,zaf (decide ((ne:Int)≤16)) 8]=E1):=hE1
 have HV1:=Lib.hid hV1
 have HV2:=Lib.hid hV2
 clear hb0 hr1 hr2 hl1 hl2 hz hV hE1 hV1 hV2
 go_enter Tryz.func21,Tryz.ntmps21
 go_upto_region 1 with (fail)
 generalize ((w.alloc (.cells #[.slice Ae ne ce,.slice Aa na ca] 42)).alloc (.cells #[.int .i64 0,.int .i64 0] 90))=w0 at *
 generalize hbw:w.heap.size=bw at *
 have HBW:=Lib.hid hbw
 clear hbw
 obtain ⟨d0,d1⟩:_∧_:=zay k0
 have x0:=fun y:Xt w0=>y.cell d0
 refine zaw [] [0,1,2,3,4,5,6,7,8,9] 10 [11,12] (fun w'=>∃ y:Xt w0,w'=y.1) (by as_aux_lemma=>kernel_rfl) (by as_aux_lemma=>kernel_rfl) ⟨⟨w0.drew,(Below.refl _ _).drew⟩,rfl⟩ ?_
 simp only [zad,zac,zaa,zX1,zX2,zX3]
 refine wpQuiet_nil ?_
 show wpQuiet _ _ _ _ _ _
 repeat (go_big_quiet_step (first | (go_at_call 85;exact Xt.calls_same (zdt _ _ _))))
 refine wpQuiet_nil ?_
 intro w1 hx
 have hb1:=Xt.below hx
 clear x0 hx
 go_upto_region 2 with (go_at_call 84;refine (first2 _ _ _).mono ?_;rintro e w' ⟨he,rfl⟩;rw [HE3.out] at he;subst he)
 refine zab ?_
 have HB2:∀ o,Below w0.heap.size w0 (w1.alloc o):=fun o=>hb1.alloc hb1.size o
 generalize hw2:w1.alloc _=w2
 have hb2:Below w0.heap.size w0 w2:=by rw [← hw2];exact HB2 _
 replace d0:=zas hb2 d0
 replace d1:=zas hb2 d1
 replace k1:=blk hb2 k1
 replace HR1:=Lib.hid (HR1.out.below (hb2.mono (by omega)))
 replace HR2:=Lib.hid (HR2.out.below (hb2.mono (by omega)))
 replace HB:=Lib.hid (HB.out.trans (hb2.mono (by omega)))
 replace hs:=Nat.le_trans hs hb2.size
 clear HB2 hb2 hw2 HE3 hb1 k0
 by_cases hE:E1=0
 · have hE':(E1 != 0)=false:=by simp [hE]
   have HVV:Hid (V=if V1=0 then (if 30<na then 8 else V2) else V1):=by rw [Hid,HV.out,if_pos hE]
   clear hE HV
   go_wp2
   go_loopw [30] (fun u wr=>zjm w2 nmE evs ne V1 u wr) (fun u _=>ne - (intOf u).toNat)
   case atStart=>exact ⟨0,Nat.zero_le _,rfl,HV1.out,Below.refl _ _⟩
   case round =>
    clear HV1
    obtain ⟨k,hk,rfl,hgo,hb⟩:=hrel
    have HGO:=Lib.hid hgo
    have HBK:=Lib.hid hb
    have hr1:=HR1.out.below (hb.mono (by omega))
    have hr2:=HR2.out.below (hb.mono (by omega))
    have hsk:=hb.size
    replace d0:=zas hb d0
    replace d1:=zas hb d1
    replace k1:=blk hb k1
    clear hgo hb
    by_cases hlt:k<ne
    · have hkl:k<evs.length:=by rw [HL1.out];exact hlt
      obtain ⟨s,hev⟩:∃ ev,evs[k]?=some ev:=⟨_,List.getElem?_eq_getElem hkl⟩
      obtain ⟨bb,off,rfl,hbB,z0⟩:=hr1.at_ (k:=k) (u:=.string s) (by simp [strCells,hev])
      have HSV:=Lib.hid hev
      have hz9:=HZ.out s (List.mem_of_getElem? hev)
      have hrt:=zid hr1 k
      have HTL:Hid ((evs.take k).length=k):=by rw [Hid,List.length_take];omega
      have hkc:k≤ce:=by omega
      obtain ⟨bn,hbn⟩:∃ b,zba s=b:=⟨_,rfl⟩
      obtain ⟨bt,hbt⟩:∃ b,zcy (evs.take k) s=b:=⟨_,rfl⟩
      have NM:=fun W=>ttName_val s bn hbn (by omega) W
      have TX:=fun (y:Xt wr) (c:Nat)=>zc8 (some ⟨bb,off,none⟩) k c _ (evs.take k) s bt hbt y.1 (by omega) HTL.out (hrt.below (y.2.mono (by omega)))
      obtain ⟨er,her⟩:∃ er,zam [zaf bn 4,zaf (!bt) 5]=er:=⟨_,rfl⟩
      have HER:Hid (nmE (evs.take k) s=er):=by rw [Hid,nmE,hbn,hbt,her]
      have HEF:=Lib.hid her
      clear hkl hbn hbt her hev hrt
      go_upto_region 7 with (fail)
      have x0:=fun y:Xt wr=>y.cell d0
      refine zaw [] [0,1,2,3,4,5,6,7,8,9,10] 11 [12,13] (fun w'=>∃ y:Xt wr,w'=y.1) (by as_aux_lemma=>kernel_rfl) (by as_aux_lemma=>kernel_rfl) ⟨⟨wr.drew,(Below.refl _ _).drew⟩,rfl⟩ ?_
      simp only [zad,zac,zaa,zX1,zX2,zX3]
      refine wpQuiet_nil ?_
      show wpQuiet _ _ _ _ _ _
      repeat (go_big_quiet_step (first | (go_at_call 86;exact Xt.calls (NM _)) | (go_at_call 85;exact Xt.calls_same (zdt _ _ _)) | (go_at_call 87;exact Xt.calls_same (TX _ _))))
      refine wpQuiet_nil ?_
      intro wb hx
      have hb3:=Xt.below hx
      clear x0 hx NM TX z0
      go_upto_region 8 with (go_at_call 84;refine (first2 _ _ _).mono ?_;rintro e w' ⟨he,rfl⟩;rw [HEF.out] at he;subst he)
      refine zab ?_
      have HB5:∀ o,Below wr.heap.size wr (wb.alloc o):=fun o=>hb3.alloc hb3.size o
      generalize hw5:wb.alloc _=w5
      have hb5:Below wr.heap.size wr w5:=by rw [← hw5];exact HB5 _
      replace d0:=zas hb5 d0
      replace d1:=zas hb5 d1
      replace k1:=blk hb5 k1
      have HB6:=Lib.hid (HBK.out.trans (hb5.mono hsk))
      clear HB5 hb5 hw5 hb3 HBK HEF hr1 hr2
      by_cases h0:er=0
      · have h0':(er != 0)=false:=by simp [h0]
        have HN:=Lib.hid (zc0 HSV.out HGO.out (HER.out.trans h0))
        clear h0
        go_wp2
        go_roundw
        case rel=>exact ⟨k+1,by omega,by go_num,HN.out,HB6.out⟩
        case measure=>simp [intOf];omega
      · have h0':(er != 0)=true:=by simp [h0]
        have HN:Hid (V1=er):=by rw [Hid,← HER.out];exact (zb4 HSV.out HGO.out (by rw [HER.out];exact h0)).symm
        have HV9:Hid (V=er):=by rw [Hid,HVV.out,HN.out,if_neg h0]
        obtain ⟨r2,r3,q2,q3⟩:=zbr k1
        clear h0
        go_wp2
        refine bodyPost_ret (v:=.tuple #[.agg #[.int .i64 1,.int .i64 k],.int .i64 er]) (by simp [results,Tryz.results21,go_sem,r2,r3]) rfl ⟨1,k,?_,?_⟩
        · rw [HV9.out]
        · rw [HBW.out]
          exact (HB.out.trans (HB6.out.mono (by omega))).trans (zal _ _ (Nat.le_succ _))
    · have HN1:Hid (V1=0):=zcc (by rw [HL1.out];omega) HGO.out
      have HVW:Hid (V=if 30<na then 8 else V2):=by rw [Hid,HVV.out,HN1.out,if_pos rfl]
      have HB2:=Lib.hid (HB.out.trans (HBK.out.mono (by omega)))
      have hs2:=Nat.le_trans hs hsk
      have HR3:=Lib.hid hr2
      clear HN1 HVV HGO HBK HB hr1 hr2 HR1 HR2
      by_cases h30:30<na
      · have g30:(30:Int)<(na:Int):=by omega
        have HV9:Hid (V=8):=by rw [Hid,HVW.out,if_pos h30]
        obtain ⟨r2,r3,q2,q3⟩:=zbr k1
        clear h30
        go_wp2
        refine bodyPost_ret (v:=.tuple #[.agg #[.int .i64 0,.int .i64 0],.int .i64 8]) (by simp [results,Tryz.results21,go_sem,r2,r3]) rfl ⟨0,0,?_,?_⟩
        · rw [HV9.out]
        · rw [HBW.out]
          exact HB2.out.trans (zal _ _ (Nat.le_succ _))
      · have g30:¬ (30:Int)<(na:Int):=by omega
        have HV9:Hid (V=V2):=by rw [Hid,HVW.out,if_neg h30]
        clear h30 HVW
        obtain ⟨wq,rfl⟩:∃ wq,wq=wr:=⟨wr,rfl⟩
        go_wp2
        go_loopw [62] (fun u wx=>zjm wq (fun _ a=>actE ne a) acts na V2 u wx) (fun u _=>na - (intOf u).toNat)
        case atStart=>exact ⟨0,Nat.zero_le _,rfl,HV2.out,Below.refl _ _⟩
        case round =>
         clear HV2
         obtain ⟨j,hj,rfl,hgo,hb⟩:=hrel
         have HGO:=Lib.hid hgo
         have HBK:=Lib.hid hb
         have hr2:=HR3.out.below (hb.mono (by omega))
         have hsj:=hb.size
         replace d0:=zas hb d0
         replace d1:=zas hb d1
         replace k1:=blk hb k1
         clear hgo hb
         by_cases hlt2:j<na
         · have hkl:j<acts.length:=by rw [HL2.out];exact hlt2
           obtain ⟨ev,hev⟩:∃ ev,acts[j]?=some ev:=⟨_,List.getElem?_eq_getElem hkl⟩
           obtain ⟨bb,off,rfl,hbB,z0,z1,z2,z3,z4,z5⟩:=hr2.act hev
           have HSV:=Lib.hid hev
           obtain ⟨y0,y1,y2,y3,y4,y5⟩:=ev
           simp only at z0 z1 z2 z3 z4 z5
           have ka:=hA1 wr (.cells #[.int .i64 y0,.int .i64 y1,.int .i64 y2,.int .i64 y3,.int .i64 y4,.int .i64 y5] 126)
           have hba:=hB1 wr (.cells #[.int .i64 y0,.int .i64 y1,.int .i64 y2,.int .i64 y3,.int .i64 y4,.int .i64 y5] 126)
           have HBA:=Lib.hid (HBK.out.trans (hba.mono hsj))
           have hsa:=Nat.le_trans hsj hba.size
           replace d0:=zas hba d0
           replace d1:=zas hba d1
           replace k1:=blk hba k1
           obtain ⟨er,her⟩:∃ er,actE ne ⟨y0,y1,y2,y3,y4,y5⟩=er:=⟨_,rfl⟩
           have HER:Hid ((fun _ a=>actE ne a:List Act→Act→Int) (acts.take j) ⟨y0,y1,y2,y3,y4,y5⟩=er):=her
           have SC:=fun W=>ttAct_any W ne ⟨y0,y1,y2,y3,y4,y5⟩ (by omega)
           rw [her] at SC
           simp only [actV] at SC
           clear hba hkl HBK her hev
           go_upto_region 16 with (fail)
           clear z0 z1 z2 z3 z4 z5
           generalize wr.alloc (.cells #[.int .i64 y0,.int .i64 y1,.int .i64 y2,.int .i64 y3,.int .i64 y4,.int .i64 y5] 126)=wa at *
           generalize wr.heap.size=xb at *
           have c0:=(cell_of_row wa xb 0 _ _ _ ka).trans (by rfl:_=some (.int .i64 y0))
           have c1:=(cell_of_row wa xb 1 _ _ _ ka).trans (by rfl:_=some (.int .i64 y1))
           have c2:=(cell_of_row wa xb 2 _ _ _ ka).trans (by rfl:_=some (.int .i64 y2))
           have c3:=(cell_of_row wa xb 3 _ _ _ ka).trans (by rfl:_=some (.int .i64 y3))
           have c4:=(cell_of_row wa xb 4 _ _ _ ka).trans (by rfl:_=some (.int .i64 y4))
           have c5:=(cell_of_row wa xb 5 _ _ _ ka).trans (by rfl:_=some (.int .i64 y5))
           go_upto_region 17 with (go_at_call 88;refine (SC _).mono ?_;rintro e w' ⟨rfl,hb3⟩)
           rename_i wb
           replace d0:=zas hb3 d0
           replace d1:=zas hb3 d1
           replace k1:=blk hb3 k1
           have HB6:=Lib.hid (HBA.out.trans (hb3.mono hsa))
           clear hb3 HBA hsa SC c0 c1 c2 c3 c4 c5 ka
           by_cases h0:er=0
           · have h0':(er != 0)=false:=by simp [h0]
             have HN:=Lib.hid (zc0 HSV.out HGO.out (HER.out.trans h0))
             clear h0
             go_wp2
             go_roundw
             case rel=>exact ⟨j+1,by omega,by go_num,HN.out,HB6.out⟩
             case measure=>simp [intOf];omega
           · have h0':(er != 0)=true:=by simp [h0]
             have HN:Hid (V2=er):=by rw [Hid,← HER.out];exact (zb4 HSV.out HGO.out (by rw [HER.out];exact h0)).symm
             obtain ⟨r2,r3,q2,q3⟩:=zbr k1
             clear h0
             go_wp2
             refine bodyPost_ret (v:=.tuple #[.agg #[.int .i64 2,.int .i64 j],.int .i64 er]) (by simp [results,Tryz.results21,go_sem,r2,r3]) rfl ⟨2,j,?_,?_⟩
             · rw [HV9.out,HN.out]
             · rw [HBW.out]
               exact (HB2.out.trans (HB6.out.mono (by omega))).trans (zal _ _ (Nat.le_succ _))
         · have HN1:Hid (V2=0):=zcc (by rw [HL2.out];omega) HGO.out
           obtain ⟨r2,r3,q2,q3⟩:=zbr k1
           go_wp2
           refine bodyPost_ret (v:=.tuple #[.agg #[.int .i64 0,.int .i64 0],.int .i64 0]) (by simp [results,Tryz.results21,go_sem,r2,r3]) rfl ⟨0,0,?_,?_⟩
           · rw [HV9.out,HN1.out]
           · rw [HBW.out]
             exact (HB2.out.trans (HBK.out.mono (by omega))).trans (zal _ _ (Nat.le_succ _))
 · have hE':(E1 != 0)=true:=by simp [hE]
   have HVV:Hid (V=E1):=by rw [Hid,HV.out,if_neg hE]
   obtain ⟨r2,r3,q2,q3⟩:=zbr k1
   clear hE HV
   go_wp2
   refine bodyPost_ret (v:=.tuple #[.agg #[.int .i64 0,.int .i64 0],.int .i64 E1]) (by simp [results,Tryz.results21,go_sem,r2,r3]) rfl ⟨0,0,?_,?_⟩
   · rw [HVV.out]
   · rw [HBW.out]
     exact HB.out.trans (zal _ _ (Nat.le_succ _))
end Go.Proofs.YtfdmeojcopkaoaaGreatDoor
namespace Go.Proofs.YtfdmeojcopkaoaaGreatDoor
open Go.RowKit
def zgc (q m:Nat):Int:=zam [zaf (decide (2≤(q:Int))) 10,zaf (decide (q≤m)) 8]
theorem rtE1_head (m:Nat) (sws:List Sw) (r:RtV):rtE1 m sws r=if zgc r.secs.length m=0 then (if za4 (scE m) [] r.secs=0 then (if r.needs.length=sws.length then zaf (ndB r.secs sws r.needs) 2 else 10) else za4 (scE m) [] r.secs) else zgc r.secs.length m:=by
 unfold rtE1
 by_cases h1:r.secs.length<2
 · have e1:¬ (2:Int)≤(r.secs.length:Int):=by omega
   have e3:zgc r.secs.length m=10:=by simp only [zgc,e1,decide_false];rfl
   rw [if_pos h1,e3]
   rfl
 · have e1:(2:Int)≤(r.secs.length:Int):=by omega
   by_cases h2:m<r.secs.length
   · have e2:¬ r.secs.length≤m:=by omega
     have e3:zgc r.secs.length m=8:=by simp only [zgc,e1,e2,decide_true,decide_false];rfl
     rw [if_neg h1,if_pos h2,e3]
     rfl
   · have e2:r.secs.length≤m:=by omega
     have e3:zgc r.secs.length m=0:=by simp only [zgc,e1,e2,decide_true];rfl
     rw [if_neg h1,if_neg h2,e3,if_pos rfl]
     by_cases h3:za4 (scE m) [] r.secs=0
     · rw [if_neg (fun h=>h h3),if_pos h3]
       by_cases h4:r.needs.length=sws.length
       · rw [if_neg (fun h=>h h4),if_pos h4]
         cases ndB r.secs sws r.needs <;> rfl
       · rw [if_pos h4,if_neg h4]
     · rw [if_pos h3,if_neg h3]
def NdR (w0:World) (secs:List Int) (sws:List Sw) (needs:List Int) (n:Nat) (V:Bool) (u:Value) (wr:World):Prop:=∃ k:Nat,k≤n∧u=.int .i64 k∧ndB secs (sws.drop k) (needs.drop k)=V∧Below w0.heap.size w0 wr
theorem rd_takeI {w:World} {B:Nat} {A:Option Addr} {l:List Int} (h:Rd w B A (zah l)) (k:Nat):Rd w B A (zah (l.take k)):=fun j u hu=>h j u (by
 unfold zah at hu ⊢
 rw [List.getElem?_map] at hu ⊢
 rw [List.getElem?_take] at hu
 split at hu
 · exact hu
 · simp at hu)
theorem routeErr_any (w:World) (B:Nat) (As At Aw Ar:Option Addr) (ns nt nw nr cs ct cw cr:Nat) (l:List RtV) (sws:List Sw) (hl:l.length=nr) (hr:Rd w B Ar (zdy l)) (hlw:sws.length=nw) (hrw:Rd w B Aw (zbk sws)) (hB:B≤w.heap.size) (hs:ns≤1000) (hnw:nw≤1000) (k:Nat) (x:RtV) (hk:l[k]?=some x)
 (hs1:zcs w B x.s x.secs.length (zah x.secs)) (hs2:zcs w B x.d x.needs.length (zah x.needs)) (hcap:x.s.n≤x.s.c) (hz1:x.secs.length≤1000) (hz2:x.needs.length≤1000) :
 Calls Tryz.prog 66 #[.agg #[.slice As ns cs,.slice At nt ct,.slice Aw nw cw,.slice Ar nr cr],.int .i64 k] w (zax w (rtE1 ns sws x)):=by
 have hkl:k<l.length:=(List.getElem?_eq_some_iff.1 hk).1
 have hkn:k<nr:=by rw [← hl];exact hkl
 have k0:=hA1 w (.cells #[.slice As ns cs,.slice At nt ct,.slice Aw nw cw,.slice Ar nr cr] 26)
 have hb0:=hB1 w (.cells #[.slice As ns cs,.slice At nt ct,.slice Aw nw cw,.slice Ar nr cr] 26)
 have hr0:=hr.below (hb0.mono hB)
 have HRW:=Lib.hid (hrw.below (hb0.mono hB))
 have HR1:=Lib.hid (hs1.2.below (hb0.mono hB))
 have HR2:=Lib.hid (hs2.2.below (hb0.mono hB))
 have HB:=Lib.hid hb0
 have hs0:=hb0.size
 obtain ⟨bb,off,hA,hbB,z0,z1,z2⟩:=Rd.rt hr0 hk
 obtain ⟨hl1,_⟩:=hs1
 obtain ⟨hl2,_⟩:=hs2
 obtain ⟨s,⟨Aq,nq,cq⟩,secs,⟨Ad,nd,cd⟩,needs⟩:=x
 simp only at z0 z1 z2 hl1 hl2 hcap hz1 hz2 HR1 HR2
 rw [hl1] at hz1
 rw [hl2] at hz2
 obtain ⟨E1,hE1⟩:∃ E,zgc nq ns=E:=⟨_,rfl⟩
 obtain ⟨V1,hV1⟩:∃ V,za4 (scE ns) [] secs=V:=⟨_,rfl⟩
 obtain ⟨VB,hVB⟩:∃ V,ndB secs sws needs=V:=⟨_,rfl⟩
 obtain ⟨V,hV⟩:∃ V,rtE1 ns sws ⟨s,⟨Aq,nq,cq⟩,secs,⟨Ad,nd,cd⟩,needs⟩=V:=⟨_,rfl⟩
 rw [hV]
 have HV:Hid (V=if E1=0 then (if V1=0 then (if nd=nw then zaf VB 2 else 10) else V1) else E1):=by
  rw [Hid,← hV,rtE1_head]
  simp only [hl1,hl2,hlw,hE1,hV1,hVB]
 have HE3:Hid (zam [zaf (decide (2≤(nq:Int))) 10,zaf (decide (nq≤ns)) 8]=E1):=hE1
 have HV1:=Lib.hid hV1
 have HVB:=Lib.hid hVB
 have HL1:=Lib.hid hl1
 have HL2:=Lib.hid hl2
 have HLW:=Lib.hid hlw
 subst hA
 clear hb0 hr hV hE1 hV1 hVB hrw hl1 hl2 hlw
 go_enter Tryz.func66,Tryz.ntmps66
 go_upto_region 1 with (fail)
 generalize (w.alloc (.cells #[.slice As ns cs,.slice At nt ct,.slice Aw nw cw,.slice (some ⟨bb,off,none⟩) nr cr] 26))=w0 at *
 have c0:=(cell_of_row w0 _ 0 _ _ _ k0).trans (by rfl:_=some (.slice As ns cs))
 have c2:=(cell_of_row w0 _ 2 _ _ _ k0).trans (by rfl:_=some (.slice Aw nw cw))
 have c3:=(cell_of_row w0 _ 3 _ _ _ k0).trans (by rfl:_=some (.slice (some ⟨bb,off,none⟩) nr cr))
 obtain ⟨d0,d1,d2⟩:_∧_∧_:=zbc (W:=w0.alloc (.cells #[.string s,.slice Aq nq cq,.slice Ad nd cd] 70)) (by rw [zae,if_pos rfl])
 have hba:=hB1 w0 (.cells #[.string s,.slice Aq nq cq,.slice Ad nd cd] 70)
 have HBA:=Lib.hid (HB.out.trans (hba.mono hs0))
 have hsa:=Nat.le_trans hs0 hba.size
 replace HR1:=Lib.hid (HR1.out.below (hba.mono (by omega)))
 replace HR2:=Lib.hid (HR2.out.below (hba.mono (by omega)))
 replace HRW:=Lib.hid (HRW.out.below (hba.mono (by omega)))
 have e0:=zas hba c0
 have e2:=zas hba c2
 clear hba k0 hr0 HB
 go_upto_region 2 with (fail)
 clear z0 z1 z2 c0 c2 c3 d0
 generalize w0.alloc (.cells #[.string s,.slice Aq nq cq,.slice Ad nd cd] 70)=wa at *
 generalize w0.heap.size=xb at *
 generalize hbw:w.heap.size=bw at *
 have HBW:=Lib.hid hbw
 clear hbw
 have x0:=fun y:Xt wa=>y.cell e0
 have x1:=fun y:Xt wa=>y.cell d1
 refine zaw [] [0,1,2,3,4,5,6,7,8,9,10,11,12] 13 [14,15] (fun w'=>∃ y:Xt wa,w'=y.1) (by as_aux_lemma=>kernel_rfl) (by as_aux_lemma=>kernel_rfl) ⟨⟨wa.drew,(Below.refl _ _).drew⟩,rfl⟩ ?_
 simp only [zad,zac,zaa,zX1,zX2,zX3]
 refine wpQuiet_nil ?_
 show wpQuiet _ _ _ _ _ _
 repeat (go_big_quiet_step (first | (go_at_call 52;exact Xt.calls_same (zb2 _ _ _))))
 refine wpQuiet_nil ?_
 intro w1 hx
 have hb1:=Xt.below hx
 clear x0 x1 hx
 go_upto_region 3 with (go_at_call 51;refine (zdn _ _ _).mono ?_;rintro e w' ⟨he,rfl⟩;rw [HE3.out] at he;subst he)
 refine zab ?_
 have HB5:∀ o,Below wa.heap.size wa (w1.alloc o):=fun o=>hb1.alloc hb1.size o
 generalize hw2:w1.alloc _=w2
 have hb2:Below wa.heap.size wa w2:=by rw [← hw2];exact HB5 _
 replace e0:=zas hb2 e0
 replace e2:=zas hb2 e2
 replace d1:=zas hb2 d1
 replace d2:=zas hb2 d2
 replace HR1:=Lib.hid (HR1.out.below (hb2.mono (by omega)))
 replace HR2:=Lib.hid (HR2.out.below (hb2.mono (by omega)))
 replace HRW:=Lib.hid (HRW.out.below (hb2.mono (by omega)))
 have HB2:=Lib.hid (HBA.out.trans (hb2.mono hsa))
 have hs2:=Nat.le_trans hsa hb2.size
 clear HB5 hb2 hw2 hb1 HE3 HBA hsa
 by_cases hE:E1=0
 · have hE':(E1 != 0)=false:=by simp [hE]
   have HVV:Hid (V=if V1=0 then (if nd=nw then zaf VB 2 else 10) else V1):=by rw [Hid,HV.out,if_pos hE]
   clear hE HV
   go_wp2
   go_loopw [39] (fun u wr=>zjm w2 (scE ns) secs nq V1 u wr) (fun u _=>nq - (intOf u).toNat)
   case atStart=>exact ⟨0,Nat.zero_le _,rfl,HV1.out,Below.refl _ _⟩
   case round =>
    clear HV1
    obtain ⟨j,hj,rfl,hgo,hb⟩:=hrel
    have HGO:=Lib.hid hgo
    have HBK:=Lib.hid hb
    have hr1:=HR1.out.below (hb.mono (by omega))
    have hsk:=hb.size
    replace e0:=zas hb e0
    replace e2:=zas hb e2
    replace d1:=zas hb d1
    replace d2:=zas hb d2
    clear hgo hb
    by_cases hlt:j<nq
    · have hjl:j<secs.length:=by rw [HL1.out];exact hlt
      obtain ⟨q,hev⟩:∃ ev,secs[j]?=some ev:=⟨_,List.getElem?_eq_getElem hjl⟩
      obtain ⟨b9,off9,rfl,hb9B,z0⟩:=hr1.at_ (k:=j) (u:=.int .i64 q) (by simp [zah,hev])
      have HSV:=Lib.hid hev
      have hrt:=rd_takeI hr1 j
      have HTL:Hid ((secs.take j).length=j):=by rw [Hid,List.length_take];omega
      have hjc:j≤cq:=by omega
      obtain ⟨b1,hb1⟩:∃ b,zai q 0 ((ns:Int) - 1)=b:=⟨_,rfl⟩
      obtain ⟨b2,hb2⟩:∃ b,zep (secs.take j) q=b:=⟨_,rfl⟩
      have WI:=fun W=>zb1 q 0 ((ns:Int) - 1) b1 hb1 W
      have TX:=fun (y:Xt wr) (c:Nat)=>zcu (some ⟨b9,off9,none⟩) j c _ (secs.take j) q b2 hb2 y.1 (by omega) HTL.out (hrt.below (y.2.mono (by omega)))
      obtain ⟨er,her⟩:∃ er,zam [zaf b1 6,zaf (!b2) 26]=er:=⟨_,rfl⟩
      have HER:Hid (scE ns (secs.take j) q=er):=by rw [Hid,scE,hb1,hb2,her]
      have HEF:=Lib.hid her
      clear hjl hb1 hb2 her hev hrt
      go_upto_region 8 with (fail)
      have x0:=fun y:Xt wr=>y.cell e0
      have x1:=fun y:Xt wr=>y.cell d1
      refine zaw [] [0,1,2,3,4,5,6,7,8,9,10,11,12,13,14] 15 [16,17] (fun w'=>∃ y:Xt wr,w'=y.1) (by as_aux_lemma=>kernel_rfl) (by as_aux_lemma=>kernel_rfl) ⟨⟨wr.drew,(Below.refl _ _).drew⟩,rfl⟩ ?_
      simp only [zad,zac,zaa,zX1,zX2,zX3]
      refine wpQuiet_nil ?_
      show wpQuiet _ _ _ _ _ _
      repeat (go_big_quiet_step (first | (go_at_call 120;exact Xt.calls_same (WI _)) | (go_at_call 52;exact Xt.calls_same (zb2 _ _ _)) | (go_at_call 121;exact Xt.calls_same (TX _ _))))
      refine wpQuiet_nil ?_
      intro wb hx
      have hb3:=Xt.below hx
      clear x0 x1 hx WI TX z0
      go_upto_region 9 with (go_at_call 51;refine (zdn _ _ _).mono ?_;rintro e w' ⟨he,rfl⟩;rw [HEF.out] at he;subst he)
      refine zab ?_
      have HB5:∀ o,Below wr.heap.size wr (wb.alloc o):=fun o=>hb3.alloc hb3.size o
      generalize hw5:wb.alloc _=w5
      have hb5:Below wr.heap.size wr w5:=by rw [← hw5];exact HB5 _
      have HB6:=Lib.hid (HBK.out.trans (hb5.mono hsk))
      clear HB5 hb5 hw5 hb3 HBK HEF hr1 e0 e2 d1 d2
      by_cases h0:er=0
      · have h0':(er != 0)=false:=by simp [h0]
        have HN:=Lib.hid (zc0 HSV.out HGO.out (HER.out.trans h0))
        clear h0
        go_wp2
        go_roundw
        case rel=>exact ⟨j+1,by omega,by go_num,HN.out,HB6.out⟩
        case measure=>simp [intOf];omega
      · have h0':(er != 0)=true:=by simp [h0]
        have HN:Hid (V1=er):=by rw [Hid,← HER.out];exact (zb4 HSV.out HGO.out (by rw [HER.out];exact h0)).symm
        have HV9:Hid (V=er):=by rw [Hid,HVV.out,HN.out,if_neg h0]
        clear h0
        go_wp2
        go_ret
        exact ⟨by rw [HV9.out];rfl,by rw [HBW.out];exact HB2.out.trans (HB6.out.mono (by omega))⟩
    · have HN1:Hid (V1=0):=zcc (by rw [HL1.out];omega) HGO.out
      have HVW:Hid (V=if nd=nw then zaf VB 2 else 10):=by rw [Hid,HVV.out,HN1.out,if_pos rfl]
      have HB3:=Lib.hid (HB2.out.trans (HBK.out.mono (by omega)))
      have hs3:=Nat.le_trans hs2 hsk
      replace HR1:=Lib.hid hr1
      replace HR2:=Lib.hid (HR2.out.below (HBK.out.mono (by omega)))
      replace HRW:=Lib.hid (HRW.out.below (HBK.out.mono (by omega)))
      clear HN1 HVV HGO HBK HB2 hr1
      by_cases hnd:nd=nw
      · subst hnd
        have HVX:Hid (V=zaf VB 2):=by rw [Hid,HVW.out,if_pos rfl]
        clear HVW
        obtain ⟨wq,rfl⟩:∃ wq,wq=wr:=⟨wr,rfl⟩
        go_wp2
        go_loopw [75] (fun u wx=>NdR wq secs sws needs nd VB u wx) (fun u _=>nd - (intOf u).toNat)
        case atStart=>exact ⟨0,Nat.zero_le _,rfl,HVB.out,Below.refl _ _⟩
        case round =>
         clear HVB
         obtain ⟨i,hi,rfl,hgo,hb⟩:=hrel
         have HGO:=Lib.hid hgo
         have HBK:=Lib.hid hb
         have hr1:=HR1.out.below (hb.mono (by omega))
         have hr2:=HR2.out.below (hb.mono (by omega))
         have hrw:=HRW.out.below (hb.mono (by omega))
         have hsi:=hb.size
         replace e0:=zas hb e0
         replace e2:=zas hb e2
         replace d1:=zas hb d1
         replace d2:=zas hb d2
         clear hgo hb
         by_cases hlt2:i<nd
         · have hil:i<needs.length:=by rw [HL2.out];exact hlt2
           have hiw:i<sws.length:=by rw [HLW.out];exact hlt2
           obtain ⟨q,hev⟩:∃ ev,needs[i]?=some ev:=⟨_,List.getElem?_eq_getElem hil⟩
           obtain ⟨⟨snm,sq⟩,hew⟩:∃ ev,sws[i]?=some ev:=⟨_,List.getElem?_eq_getElem hiw⟩
           obtain ⟨b9,off9,hA9,hb9B,z0⟩:=hr2.at_ (k:=i) (u:=.int .i64 q) (by simp [zah,hev])
           obtain ⟨b8,off8,hA8,hb8B,y0,y1⟩:=Rd.sw hrw hew
           simp only at y0 y1
           subst hA9 hA8
           obtain ⟨bh,hbh⟩:∃ b,zep secs sq=b:=⟨_,rfl⟩
           have TX:=fun (y:Xt wr)=>zcu Aq nq cq _ secs sq bh hbh y.1 (by omega) HL1.out (hr1.below (y.2.mono (by omega)))
           have HST:Hid (((if bh=true then zfq q else decide (q=-1)) && ndB secs (sws.drop (i+1)) (needs.drop (i+1)))=VB):=by
            have h9:=HGO.out
            rw [za5 hev,za5 hew,ndB] at h9
            rw [Hid,← h9,hbh]
            cases bh <;> rfl
           clear hil hiw hev hew hbh HGO
           go_upto_region 18 with (fail)
           have x1:=fun y:Xt wr=>y.cell d1
           have x2:=fun y:Xt wr=>y.cell e2
           have x3:=fun y:Xt wr=>y.cell y1
           refine za8 (by kernel_rfl) (by kernel_rfl) ?_
           repeat (go_big_quiet_step (first | (go_at_call 121;exact Xt.calls_same (TX _))))
           refine wpQuiet_nil ?_
           intro wb hx
           have hb3:=Xt.below hx
           have HB6:=Lib.hid (HBK.out.trans (hb3.mono hsi))
           clear x1 x2 x3 hx TX z0 y0 y1 HBK e0 e2 d1 d2 hb3 hr1 hr2 hrw
           cases bh with
           | true =>
            obtain ⟨bq,hbq⟩:∃ b,zfq q=b:=⟨_,rfl⟩
            have IP:=fun W=>isPos_val q bq hbq W
            have HST2:Hid ((bq && ndB secs (sws.drop (i+1)) (needs.drop (i+1)))=VB):=by rw [Hid,← HST.out,← hbq];rfl
            clear hbq HST
            cases bq with
            | true =>
             go_wp2_with (go_at_call 122;refine (IP _).mono ?_;rintro e w' ⟨rfl,rfl⟩)
             go_roundw
             case rel=>exact ⟨i+1,by omega,by go_num,HST2.out,HB6.out⟩
             case measure=>simp [intOf];omega
            | false =>
             have HV9:Hid (V=2):=by rw [Hid,HVX.out,← HST2.out];rfl
             go_wp2_with (go_at_call 122;refine (IP _).mono ?_;rintro e w' ⟨rfl,rfl⟩)
             go_ret
             exact ⟨by rw [HV9.out];rfl,by rw [HBW.out];exact HB3.out.trans (HB6.out.mono (by omega))⟩
           | false =>
            by_cases hq:q=-1
            · have hq1:(q == -1)=true:=by simp [hq]
              have HST2:Hid (ndB secs (sws.drop (i+1)) (needs.drop (i+1))=VB):=by rw [Hid,← HST.out];simp [hq]
              subst hq
              go_wp2
              go_roundw
              case rel=>exact ⟨i+1,by omega,by go_num,HST2.out,HB6.out⟩
              case measure=>simp [intOf];omega
            · have hq1:(q == -1)=false:=by simp [hq]
              have HV9:Hid (V=2):=by
               have h9:=HST.out
               simp [hq] at h9
               rw [Hid,HVX.out,h9]
               rfl
              clear hq HST
              go_wp2
              go_ret
              exact ⟨by rw [HV9.out];rfl,by rw [HBW.out];exact HB3.out.trans (HB6.out.mono (by omega))⟩
         · have HN1:Hid (VB=true):=by
            have h9:=HGO.out
            rw [List.drop_eq_nil_iff.2 (show sws.length≤i by rw [HLW.out];omega),List.drop_eq_nil_iff.2 (show needs.length≤i by rw [HL2.out];omega)] at h9
            rw [Hid,← h9]
            rfl
           have HV9:Hid (V=0):=by rw [Hid,HVX.out,HN1.out];rfl
           go_wp2
           go_ret
           exact ⟨by rw [HV9.out];rfl,by rw [HBW.out];exact HB3.out.trans (HBK.out.mono (by omega))⟩
      · have hnd1:((nd:Int) != (nw:Int))=true:=by simp;omega
        have HV9:Hid (V=10):=by rw [Hid,HVW.out,if_neg hnd]
        clear hnd HVW
        go_wp2
        go_ret
        exact ⟨by rw [HV9.out];rfl,by rw [HBW.out];exact HB3.out⟩
 · have hE':(E1 != 0)=true:=by simp [hE]
   have HV1:Hid (V=E1):=by rw [Hid,HV.out,if_neg hE]
   clear hE
   go_wp2
   go_ret
   exact ⟨by rw [HV1.out];rfl,by rw [HBW.out];exact HB2.out⟩
end Go.Proofs.YtfdmeojcopkaoaaGreatDoor
