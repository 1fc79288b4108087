import Derived.Test.YtoodbfkbbchjiaaGreatDoorf3X9
import Derived.Shelf.Spec.SlicesGrow
set_option maxRecDepth 100000
set_option maxHeartbeats 16000000
namespace Go.Proofs.YtoodbfkbbchjiaaGreatDoor
open Go.RowKit
def ChainOk (p:PlantV) (i:Nat) (t:LtV):Prop:=(t.chain=[]∧t.under=0)∨(i=0∧∃ s,t.chain=[s]∧t.under=1∧secE p s=0)
structure StOk (p:PlantV) (q:LsV):Prop where
 n1:q.sw.n=p.ws.n
 n2:q.tr.n=p.ts.n
 bits:∀ x∈q.sws,zf4 x=true
 ctr:zaj q.ctr 0 250=true
 chains:∀ (i:Nat) (t:LtV),q.trs[i]?=some t→ChainOk p i t
 small:LsS q
def OpPost (w:World) (B:Nat) (p:PlantV) (q:LsV) (e:Ending) (w':World):Prop:=
 ∃ b,e=.returned (.tuple #[.pointer (some ⟨b,0,none⟩),.int .i64 0])∧w.heap.size≤b∧LnAt w' B b p q∧Below w.heap.size w w'
theorem chainErr_ok (w:World) (B b i:Nat) (p:PlantV) (q:LsV) (t:LtV) (h:LnAt w B b p q) (hi:q.trs[i]?=some t) (ht:ChainOk p i t) (hp:p.ss.n≤1000) :
 Calls Tryz.prog 322 #[.pointer (some ⟨b,0,none⟩),.int .i64 i] w (zay w 0):=by
 rcases ht with ⟨h1,h2⟩ | ⟨rfl,s,h1,h2,h3⟩
 · exact chainNil_ok w B b i p q t h hi h1 h2
 · exact chainOne_ok w B b p q t s h hi h1 h2 h3 hp
theorem lkFirst3z (w:World):Calls Tryz.prog 114 #[.slice (some ⟨w.heap.size,0,none⟩) 3 3] (w.alloc (.cells #[.int .i64 0,.int .i64 0,.int .i64 0] 60)) fun e w' =>
 e=.returned (.int .i64 0)∧w.alloc (.cells #[.int .i64 0,.int .i64 0,.int .i64 0] 60)=w':=lkFirst3 w 0 0 0
theorem zg1 (w:World):Calls Tryz.prog 114 #[.slice (some ⟨w.heap.size,0,none⟩) 2 2] (w.alloc (.cells #[.int .i64 0,.int .i64 0] 60)) fun e w' =>
 e=.returned (.int .i64 0)∧w.alloc (.cells #[.int .i64 0,.int .i64 0] 60)=w':=zdo w 0 0
def OpRel (w6:World) (n:Nat) (u:Value) (wr:World):Prop:=∃ k:Nat,k≤n∧u=.int .i64 k∧Below w6.heap.size w6 wr
theorem any_bits {l:List Int} (h:∀ x∈l,zf4 x=true):l.any (fun x=>!zf4 x)=false:=by
 rw [List.any_eq_false]
 intro x hx
 simp [h x hx]
theorem lkOpen_ok (w:World) (B:Nat) (p:PlantV) (q:LsV) (hP:PlantAt w B p) (hQ:LsAt w B q) (hS:PlantS p) (hE:zb7 p=0) (hB:B≤w.heap.size) (hO:StOk p q) :
 Calls Tryz.prog 264 #[.agg (zap p).toArray,.agg (zbf q).toArray] w (OpPost w B p q):=by
 have k0:((w.alloc (.cells (zap p).toArray 26)).alloc (.cells (zbf q).toArray 103)).heap[w.heap.size]?=some (.cells #[p.ss.v,p.ts.v,p.ws.v,p.rs.v] 26 (0,0)):=by
  rw [zae,if_neg (by simp),zae,if_pos rfl]
  rfl
 have k1:((w.alloc (.cells (zap p).toArray 26)).alloc (.cells (zbf q).toArray 103)).heap[w.heap.size+1]?=some (.cells #[q.sw.v,q.tr.v,.int .i64 q.ctr] 103 (0,0)):=by
  rw [zae,if_pos (by simp)]
  rfl
 have hb0:=hB2 w (.cells (zap p).toArray 26) (.cells (zbf q).toArray 103)
 have hs0:=hS2 w (.cells (zap p).toArray 26) (.cells (zbf q).toArray 103)
 have hn1:p.ws.n≤1000:=by rw [← hP.sws.1];exact hS.sws.1
 have hn2:p.ts.n≤1000:=by rw [← hP.trains.1];exact hS.trains.1
 have hn3:p.ss.n≤1000:=by rw [← hP.secs.1];exact hS.secs.1
 have HPA:=Lib.hid (hP.keep hb0)
 have HQA:=Lib.hid (hQ.keep hb0)
 have HB:=Lib.hid hb0
 have HO:=Lib.hid hO
 have HBB:=Lib.hid hB
 have HN3:=Lib.hid hn3
 clear hb0 hP hQ hn3
 go_enter Tryz.func264,Tryz.ntmps264
 go_upto_region 1 with (fail)
 generalize (w.alloc (.cells (zap p).toArray 26)).alloc (.cells (zbf q).toArray 103)=w0 at *
 generalize hbw:w.heap.size=bw at *
 have HBW:=Lib.hid hbw
 clear hbw
 have CB:=ze8 320 #[] (fun _ _=>by kernel_rfl) q.sw.A p.ws.n q.sw.c B q.sws (fun x=>!zf4 x) false (any_bits HO.out.bits) w0 (by omega) (HQA.out.sws.1.trans HO.out.n1) HQA.out.sws.2 (by omega)
  (fun W x hb hx=>by
    have:=notPos_val x _ rfl W
    exact this.mono fun e w' ⟨he,hw⟩=>⟨he,hw ▸ Below.refl _ _⟩)
 have hQ1:=HO.out.n1
 have hQ2:=HO.out.n2
 obtain ⟨a0,a1,a2,a3⟩:_∧_∧_∧_:=zbo k0
 obtain ⟨b0,b1,b2⟩:_∧_∧_:=zba k1
 simp only [SlV.v,hQ1,hQ2] at a0 a1 a2 a3 b0 b1
 clear hB hQ1 hQ2 hO
 go_upto_region 2 with (fail)
 go_upto_region 3 with (go_at_call 210;refine CB.mono ?_;rintro e w1 ⟨rfl,hb1⟩)
 replace a0:=zat hb1 a0
 replace a1:=zat hb1 a1
 replace a2:=zat hb1 a2
 replace a3:=zat hb1 a3
 replace b0:=zat hb1 b0
 replace b1:=zat hb1 b1
 replace b2:=zat hb1 b2
 replace HPA:=Lib.hid (HPA.out.keep hb1)
 replace HQA:=Lib.hid (HQA.out.keep hb1)
 replace HB:=Lib.hid (HB.out.trans (hb1.mono (by omega)))
 replace hs0:=Nat.le_trans hs0 hb1.size
 clear CB hb1 k0 k1
 have RT:=zgg w1 B p HPA.out hS (by have:=HBB.out;omega)
 rw [hE] at RT
 unfold zay at RT
 have U1:=fun e W=>zbt true e 0 rfl W
 have I1:=fun W=>isByte_val q.ctr true HO.out.ctr W
 have F1:=fun W=>lkFirst3z W
 clear hE hS
 go_upto_region 4 with (first | (go_at_call 153;refine RT.mono ?_;rintro e w2 ⟨rfl,hb2⟩;have b2x:=zat hb2 b2) | (go_at_call 115;refine (U1 _ _).mono ?_;rintro e w' ⟨rfl,rfl⟩) | (go_at_call 321;refine (I1 _).mono ?_;rintro e w' ⟨rfl,rfl⟩) | (go_at_call 114;refine (F1 _).mono ?_;rintro e w' ⟨rfl,rfl⟩))
 have hb3:Below w1.heap.size w1 (w2.alloc (.cells #[.int .i64 0,.int .i64 0,.int .i64 0] 60)):=hb2.alloc hb2.size _
 clear RT b2x I1 U1 F1
 replace a0:=zat hb3 a0
 replace a1:=zat hb3 a1
 replace a2:=zat hb3 a2
 replace a3:=zat hb3 a3
 replace b0:=zat hb3 b0
 replace b1:=zat hb3 b1
 replace b2:=zat hb3 b2
 replace HPA:=Lib.hid (HPA.out.keep hb3)
 replace HQA:=Lib.hid (HQA.out.keep hb3)
 replace HB:=Lib.hid (HB.out.trans (hb3.mono (by omega)))
 replace hs0:=Nat.le_trans hs0 hb3.size
 clear hb3 hb2
 generalize w2.alloc (.cells #[.int .i64 0,.int .i64 0,.int .i64 0] 60)=w3 at *
 have hbn:=hB1 w3 (.cells #[.slice p.ss.A p.ss.n p.ss.c,.slice p.ts.A p.ts.n p.ts.c,.slice p.ws.A p.ws.n p.ws.c,.slice p.rs.A p.rs.n p.rs.c,.slice q.sw.A p.ws.n q.sw.c,.slice q.tr.A p.ts.n q.tr.c,.int .i64 q.ctr] 437)
 have HLN:Hid (LnAt (w3.alloc (.cells #[.slice p.ss.A p.ss.n p.ss.c,.slice p.ts.A p.ts.n p.ts.c,.slice p.ws.A p.ws.n p.ws.c,.slice p.rs.A p.rs.n p.rs.c,.slice q.sw.A p.ws.n q.sw.c,.slice q.tr.A p.ts.n q.tr.c,.int .i64 q.ctr] 437)) B w3.heap.size p q):=
  ⟨by rw [zae,if_pos rfl];simp only [SlV.v,HO.out.n1,HO.out.n2],HPA.out.keep hbn,HQA.out.keep hbn⟩
 have HBN:=Lib.hid (HB.out.trans (hbn.mono (by omega)))
 have b1n:=zat hbn b1
 have hs9:bw≤w3.heap.size:=by omega
 have hs4:=Nat.le_trans hs9 hbn.size
 clear hbn HPA HQA
 go_upto_region 7 with (fail)
 generalize w3.alloc (.cells #[.slice p.ss.A p.ss.n p.ss.c,.slice p.ts.A p.ts.n p.ts.c,.slice p.ws.A p.ws.n p.ws.c,.slice p.rs.A p.rs.n p.rs.c,.slice q.sw.A p.ws.n q.sw.c,.slice q.tr.A p.ts.n q.tr.c,.int .i64 q.ctr] 437)=w4 at *
 generalize hb9:w3.heap.size=bl at *
 clear hb9 a0 a1 a2 a3 b0 b1 b2 HB hs0
 go_wp2
 go_loopw [55] (fun u55 wr=>OpRel w4 p.ts.n u55 wr) (fun u55 _=>p.ts.n - (intOf u55).toNat)
 case atStart=>exact ⟨0,Nat.zero_le _,rfl,Below.refl _ _⟩
 case round =>
  obtain ⟨k,hk,rfl,hb⟩:=hrel
  have hln:=HLN.out.keep hb
  by_cases hlt:k<p.ts.n
  · obtain ⟨t,ht⟩:∃ t,q.trs[k]?=some t:=⟨_,List.getElem?_eq_getElem (by rw [hln.st.trs.1,HO.out.n2];exact hlt)⟩
    have CE:=chainErr_ok wr B bl k p q t hln ht (HO.out.chains k t ht) HN3.out
    unfold zay at CE
    have HB4:=Lib.hid hb
    clear hln ht hb b1n
    go_wp2_with (go_at_call 322;refine CE.mono ?_;rintro e w9 ⟨rfl,hb9⟩)
    go_roundw
    case rel=>exact ⟨k+1,by omega,by go_num,HB4.out.trans (hb9.mono HB4.out.size)⟩
    case measure=>simp [intOf];omega
  · have HL:=Lib.hid hln
    have HB4:=Lib.hid hb
    clear hln hb b1n
    go_wp2
    go_ret2
    exact ⟨bl,rfl,by rw [HBW.out];exact hs9,HL.out,by rw [HBW.out];exact HBN.out.trans (HB4.out.mono hs4)⟩
theorem eventErr0_ok (w:World) (p:PlantV) (a b:Int) (hs:secE p b=0) (ht:trnE p a=0) (h1:p.ss.n≤1000) (h2:p.ts.n≤1000) :
 Calls Tryz.prog 265 #[.agg (zap p).toArray,.agg #[.int .i64 0,.int .i64 a,.int .i64 b]] w (zay w 0):=by
 have k0:((w.alloc (.cells (zap p).toArray 26)).alloc (.cells #[.int .i64 0,.int .i64 a,.int .i64 b] 295)).heap[w.heap.size]?=some (.cells #[p.ss.v,p.ts.v,p.ws.v,p.rs.v] 26 (0,0)):=by
  rw [zae,if_neg (by simp),zae,if_pos rfl]
  rfl
 have k1:((w.alloc (.cells (zap p).toArray 26)).alloc (.cells #[.int .i64 0,.int .i64 a,.int .i64 b] 295)).heap[w.heap.size+1]?=some (.cells #[.int .i64 0,.int .i64 a,.int .i64 b] 295 (0,0)):=by
  rw [zae,if_pos (by simp)]
 have hb0:=hB2 w (.cells (zap p).toArray 26) (.cells #[.int .i64 0,.int .i64 a,.int .i64 b] 295)
 have hs0:=hS2 w (.cells (zap p).toArray 26) (.cells #[.int .i64 0,.int .i64 a,.int .i64 b] 295)
 have HB:=Lib.hid hb0
 have T1:=fun W=>trnE_any W p a h2
 rw [ht] at T1
 unfold zay at T1
 have U1:=fun e W=>zbt true e 0 rfl W
 obtain ⟨E5,hE5⟩:∃ E,zag (b == 0) 3=E:=⟨_,rfl⟩
 have U5:=fun W=>zbt (b == 0) 3 E5 hE5 W
 have K1:=fun W=>zks 0 true rfl W
 have S1:=fun W=>secE_any W p b h1
 rw [hs] at S1
 unfold zay at S1
 clear hb0 ht hE5 hs h1 h2
 go_enter Tryz.func265,Tryz.ntmps265
 go_upto_region 1 with (fail)
 generalize (w.alloc (.cells (zap p).toArray 26)).alloc (.cells #[.int .i64 0,.int .i64 a,.int .i64 b] 295)=w0 at *
 generalize hbw:w.heap.size=bw at *
 have HBW:=Lib.hid hbw
 clear hbw
 obtain ⟨a0,a1,a2,a3⟩:_∧_∧_∧_:=zbo k0
 obtain ⟨b0,b1,b2⟩:_∧_∧_:=zba k1
 simp only [SlV.v] at a0 a1 a2 a3
 clear k0 k1
 generalize hB5:(b == 0)=B5 at *
 go_upto_region 6 with (first | (go_at_call 323;refine (K1 _).mono ?_;rintro e w' ⟨rfl,rfl⟩) | (rw [hB5];go_at_call 115;refine (U5 _).mono ?_;rintro e w' ⟨rfl,rfl⟩) | (go_at_call 115;refine (U5 _).mono ?_;rintro e w' ⟨rfl,rfl⟩))
 clear U5 K1 hB5
 go_upto_region 11 with (go_at_call 324;refine (S1 _).mono ?_;rintro e w1 ⟨rfl,hb1⟩)
 replace a0:=zat hb1 a0
 replace a1:=zat hb1 a1
 replace a2:=zat hb1 a2
 replace a3:=zat hb1 a3
 replace b1:=zat hb1 b1
 replace HB:=Lib.hid (HB.out.trans (hb1.mono (by omega)))
 have hs1:=Nat.le_trans hs0 hb1.size
 clear b0 b2 hb1
 go_wp2_with (first | (go_at_call 325;refine (T1 _).mono ?_;rintro e w2 ⟨rfl,hb2⟩) | (go_at_call 114;refine (zg1 _).mono ?_;rintro e w' ⟨rfl,rfl⟩))
 go_ret
 exact ⟨rfl,by rw [HBW.out];exact (HB.out.trans (hb2.mono (by omega))).alloc (by have:=hb2.size;omega) _⟩
theorem eventErr1_ok (w:World) (p:PlantV) (a b:Int) (hs:zaj b 0 ((p.rs.n:Int) - 1)=true) (hr:p.rs.n≤1000) (ht:trnE p a=0) (h2:p.ts.n≤1000) :
 Calls Tryz.prog 265 #[.agg (zap p).toArray,.agg #[.int .i64 1,.int .i64 a,.int .i64 b]] w (zay w 0):=by
 have k0:((w.alloc (.cells (zap p).toArray 26)).alloc (.cells #[.int .i64 1,.int .i64 a,.int .i64 b] 295)).heap[w.heap.size]?=some (.cells #[p.ss.v,p.ts.v,p.ws.v,p.rs.v] 26 (0,0)):=by
  rw [zae,if_neg (by simp),zae,if_pos rfl]
  rfl
 have k1:((w.alloc (.cells (zap p).toArray 26)).alloc (.cells #[.int .i64 1,.int .i64 a,.int .i64 b] 295)).heap[w.heap.size+1]?=some (.cells #[.int .i64 1,.int .i64 a,.int .i64 b] 295 (0,0)):=by
  rw [zae,if_pos (by simp)]
 have hb0:=hB2 w (.cells (zap p).toArray 26) (.cells #[.int .i64 1,.int .i64 a,.int .i64 b] 295)
 have hs0:=hS2 w (.cells (zap p).toArray 26) (.cells #[.int .i64 1,.int .i64 a,.int .i64 b] 295)
 have HB:=Lib.hid hb0
 have T1:=fun W=>trnE_any W p a h2
 rw [ht] at T1
 unfold zay at T1
 have U1:=fun e W=>zbt true e 0 rfl W
 obtain ⟨E5,hE5⟩:∃ E,zag (b == 0) 3=E:=⟨_,rfl⟩
 have U5:=fun W=>zbt (b == 0) 3 E5 hE5 W
 have K1:=fun W=>zks 1 true rfl W
 have W1:=fun W=>zb0 b 0 ((p.rs.n:Int) - 1) true hs W
 clear hb0 ht hE5 hs h2
 go_enter Tryz.func265,Tryz.ntmps265
 go_upto_region 1 with (fail)
 generalize (w.alloc (.cells (zap p).toArray 26)).alloc (.cells #[.int .i64 1,.int .i64 a,.int .i64 b] 295)=w0 at *
 generalize hbw:w.heap.size=bw at *
 have HBW:=Lib.hid hbw
 clear hbw
 obtain ⟨a0,a1,a2,a3⟩:_∧_∧_∧_:=zbo k0
 obtain ⟨b0,b1,b2⟩:_∧_∧_:=zba k1
 simp only [SlV.v] at a0 a1 a2 a3
 clear k0 k1
 generalize hB5:(b == 0)=B5 at *
 go_upto_region 6 with (first | (go_at_call 323;refine (K1 _).mono ?_;rintro e w' ⟨rfl,rfl⟩) | (rw [hB5];go_at_call 115;refine (U5 _).mono ?_;rintro e w' ⟨rfl,rfl⟩) | (go_at_call 115;refine (U5 _).mono ?_;rintro e w' ⟨rfl,rfl⟩))
 clear U5 K1 hB5
 go_upto_region 11 with (first | (go_at_call 193;refine (W1 _).mono ?_;rintro e w' ⟨rfl,rfl⟩) | (go_at_call 115;refine (U1 _ _).mono ?_;rintro e w' ⟨rfl,rfl⟩))
 have hs1:=hs0
 clear b0 b2
 go_wp2_with (first | (go_at_call 325;refine (T1 _).mono ?_;rintro e w2 ⟨rfl,hb2⟩) | (go_at_call 114;refine (zg1 _).mono ?_;rintro e w' ⟨rfl,rfl⟩))
 go_ret
 exact ⟨rfl,by rw [HBW.out];exact (HB.out.trans (hb2.mono (by omega))).alloc (by have:=hb2.size;omega) _⟩
theorem CloneLt_any (w:World) (B:Nat) (bb off n c:Nat) (l:List LtV) (hl:l.length=n) (hn:n≤100000) (h:Rd w B (some ⟨bb,off,none⟩) (zbs l)) (hB:B≤w.heap.size) :
 Calls Tryz.prog 369 #[.slice (some ⟨bb,off,none⟩) n c] w (zd8 w 224 2 (zbs l) n):=by
 obtain ⟨i1,hi1,hy0,hy1,hy2⟩:=info_parts zl0
 have HL:=Lib.hid hl
 have h':=h.below (((Below.refl _ _).alloc (Nat.le_refl _) (.cells #[] 224):Below w.heap.size w (w.alloc (.cells #[] 224))).mono hB)
 have hb0:=hB1 w (.cells #[] 224)
 clear hl
 go_enter Tryz.func369,Tryz.ntmps369
 go_wp2
 rw [Lib.run_eql_slice_nil w 101 224 _ _ _ _ _ Tryz.underlying101]
 simp only [Result.andThen,Option.isNone_some]
 rw [Oper.upon_value]
 go_wp2_with (at_builtin;refine stp ?_)
 unfold Stp
 refine za6 _ rfl _ _ 101 rfl w.heap.size 224 i1 _ 2 32 Tryz.underlying101 hi1 hy0 hy1 hy2 rfl (by omega) w.heap.size rfl (by rw [zae,if_pos rfl]) (Nat.le_refl _) B (some ⟨bb,off,none⟩) n c (zbs l) rfl (by rw [ltCells_len,HL.out]) h' (zdr ltVals_one _) (by simp only [maxLen];omega) (by omega) (by simp) ?_
 intro g cap w1 hown hgrow _
 have hb1:Below w.heap.size w w1:=hb0.grown hgrow (by simp) (fun k hk=>by rw [← Option.some.inj hk];exact Nat.le_refl _)
 have HR:=Lib.hid hown
 have hcap:=zbn hown
 have HB:=Lib.hid hb1
 clear hown hgrow hb0 hb1 h h'
 go_wp2
 go_ret
 exact ⟨_,_,rfl,hcap,HR.out,HB.out⟩
theorem lt_set0 {w:World} {B g n c:Nat} {l:List LtV} {x:LtV} (h:w.ownsRow B 224 2 (.slice (some ⟨g,0,none⟩) n c) n (zbs (x :: l))) (t:LtV) :
 Rd ((w.setCell ⟨g,0,none⟩ (.slice t.s.A t.s.n t.s.c)).setCell ⟨g,1,none⟩ (.int .i64 t.under)) w.heap.size (some ⟨g,0,none⟩) (zbs (t :: l)):=by
 have hr:=za7 h
 have c0:=zby hr (k:=0) (u:=x.s.v) rfl
 have c1:=zby hr (k:=1) (u:=.int .i64 x.under) rfl
 have hg:g<w.heap.size:=zfz c0
 rw [Nat.zero_add] at c0 c1
 intro k u hk
 refine ⟨g,0,rfl,hg,?_⟩
 rw [Nat.zero_add]
 have hne:((⟨g,0,none⟩:Addr)≠⟨g,1,none⟩):=fun he=>by cases he
 match k,hk with
 | 0,hk =>
  rw [World.cell?_setCell_other _ _ _ _ hne.symm,World.cell?_setCell_same _ _ _ c0]
  simpa [zbs,zg0,SlV.v] using hk
 | 1,hk =>
  rw [World.cell?_setCell_same _ _ _ ((World.cell?_setCell_other _ _ _ _ hne).trans c1)]
  simpa [zbs,zg0,SlV.v] using hk
 | k+2,hk =>
  rw [World.cell?_setCell_other _ _ _ _ (fun he=>by have:1=k+2:=congrArg Addr.off he;omega),World.cell?_setCell_other _ _ _ _ (fun he=>by have:0=k+2:=congrArg Addr.off he;omega)]
  have h9:=zby hr (k:=k+2) (u:=u) (by simpa [zbs,zg0] using hk)
  rwa [Nat.zero_add] at h9
theorem own_at {w:World} {B e size n c:Nat} {A:Option Addr} {xs:List Value} (h:w.ownsRow B e size (.slice A n c) n xs) (hn:0<n):∃ g cur,A=some ⟨g,0,none⟩∧B≤g∧w.heap[g]?=some (.cells cur e (0,0)):=by
 rcases h.2 with ⟨_,h2⟩ | ⟨g,cap,cur,h1,h2,h3,_⟩
 · omega
 · simp only [Value.slice.injEq] at h1
   exact ⟨g,cur,h1.1,h2,h3⟩
def zfj (q:LsV) (A:Option Addr) (c:Nat) (t:LtV):LsV:=⟨q.sw,q.sws,⟨A,q.tr.n,c⟩,t :: q.trs.tail,q.ctr⟩
def NextPost (w:World) (p:PlantV) (q:LsV) (t:LtV) (e:Ending) (w':World):Prop:=
 ∃ b A c,e=.returned (.pointer (some ⟨b,0,none⟩))∧w.heap.size≤b∧LnAt w' w'.heap.size b p (zfj q A c t)∧Below w.heap.size w w'
theorem next_ok (w:World) (B b:Nat) (p:PlantV) (q:LsV) (t:LtV) (h:LnAt w B b p q) (hn:0<q.tr.n) (hn2:q.tr.n≤1000) (ht:zcs w w.heap.size t.s t.chain.length (zai t.chain)) (htc:t.s.n≤t.s.c) (hB:B≤w.heap.size) :
 Calls Tryz.prog 327 #[.pointer (some ⟨b,0,none⟩),.int .i64 0,t.s.v,.int .i64 t.under] w (NextPost w p q t):=by
 obtain ⟨x,hx⟩:∃ x,q.trs[0]?=some x:=⟨_,List.getElem?_eq_getElem (by rw [h.st.trs.1];exact hn)⟩
 obtain ⟨bb,off,hA,hbB,z0,z1⟩:=Rd.lt h.st.trs.2 hx
 have hk:=h.blk
 simp only [SlV.v,hA] at hk
 have HH:=Lib.hid h
 have HT:=Lib.hid ht
 have HX:=Lib.hid hx
 have HAA:=Lib.hid hA
 obtain ⟨⟨tA,tn,tc⟩,ch,un⟩:=t
 show Calls Tryz.prog 327 #[.pointer (some ⟨b,0,none⟩),.int .i64 0,.slice tA tn tc,.int .i64 un] w _
 clear z0 z1 h ht hx
 go_enter Tryz.func327,Tryz.ntmps327
 go_upto_region 1 with (fail)
 have hb3:=fun y:Xt w=>(y.2.block b (lt_of_block hk)).trans hk
 obtain ⟨d0,d1,d2,d3,d4,d5,d6⟩:_∧_∧_∧_∧_∧_∧_:=zdc hk
 have x0:=fun y:Xt w=>y.cell d0
 have x1:=fun y:Xt w=>y.cell d1
 have x2:=fun y:Xt w=>y.cell d2
 have x3:=fun y:Xt w=>y.cell d3
 have x4:=fun y:Xt w=>y.cell d4
 have x5:=fun y:Xt w=>y.cell d5
 have x6:=fun y:Xt w=>y.cell d6
 clear d0 d1 d2 d3 d4 d5 d6 hb3
 refine zax [] [0,1,2,3,4,5,6,7,8] 9 [10] (fun w'=>∃ y:Xt w,w'=y.1) (by as_aux_lemma=>kernel_rfl) (by as_aux_lemma=>kernel_rfl) ⟨⟨w.drew,(Below.refl _ _).drew⟩,rfl⟩ ?_
 simp only [zad,zac,zaa,zX1,zX2,zX3]
 refine wpQuiet_nil ?_
 show wpQuiet _ _ _ _ _ _
 repeat (go_big_quiet_step (fail))
 refine wpQuiet_nil ?_
 intro wb hy
 have hb3:=Xt.below hy
 clear x0 x1 x2 x3 x4 x5 x6 hy
 go_upto_region 2 with (fail)
 refine zab ?_
 have hbn:=hB1 wb (.cells #[.slice p.ss.A p.ss.n p.ss.c,.slice p.ts.A p.ts.n p.ts.c,.slice p.ws.A p.ws.n p.ws.c,.slice p.rs.A p.rs.n p.rs.c,.slice q.sw.A q.sw.n q.sw.c,.slice (some ⟨bb,off,none⟩) q.tr.n q.tr.c,.int .i64 q.ctr] 437)
 have k1:=hA1 wb (.cells #[.slice p.ss.A p.ss.n p.ss.c,.slice p.ts.A p.ts.n p.ts.c,.slice p.ws.A p.ws.n p.ws.c,.slice p.rs.A p.rs.n p.rs.c,.slice q.sw.A q.sw.n q.sw.c,.slice (some ⟨bb,off,none⟩) q.tr.n q.tr.c,.int .i64 q.ctr] 437)
 have hlt1:=lt_of_block k1
 have hs1:=hb3.size
 have HB1:=Lib.hid (hb3.trans (hbn.mono hs1))
 generalize wb.alloc (.cells #[.slice p.ss.A p.ss.n p.ss.c,.slice p.ts.A p.ts.n p.ts.c,.slice p.ws.A p.ws.n p.ws.c,.slice p.rs.A p.rs.n p.rs.c,.slice q.sw.A q.sw.n q.sw.c,.slice (some ⟨bb,off,none⟩) q.tr.n q.tr.c,.int .i64 q.ctr] 437)=w1 at *
 generalize wb.heap.size=y1 at *
 have hrd:=(HH.out.keep HB1.out).st.trs.2
 rw [HAA.out] at hrd
 have CL:=CloneLt_any w1 B bb off q.tr.n q.tr.c q.trs HH.out.st.trs.1 (by omega) hrd (by have:=HB1.out.size;omega)
 have hlk:=hk
 clear hk hbn hb3 hA hrd
 obtain ⟨d0,d1,d2,d3,d4,d5,d6⟩:_∧_∧_∧_∧_∧_∧_:=zdc (blk HB1.out hlk)
 clear d0 d1 d2 d3 d4 d6
 have HK1:=Lib.hid k1
 clear k1 hlk
 go_upto_region 3 with (go_at_call 369;refine CL.mono ?_;rintro e w2 ⟨A',c',rfl,hnc,hown,hb2⟩;have k2:=blk hb2 HK1.out;have f5:=frozen_of_row w2 y1 5 _ _ k2;have c5:=(cell_of_row w2 y1 5 _ _ _ k2).trans (by rfl:_=some (.slice (some ⟨bb,off,none⟩) q.tr.n q.tr.c)))
 have hnc9:=hnc
 clear CL d5 hnc
 obtain ⟨g,cur,rfl,hg,hcur⟩:=own_at hown hn
 have k3:(w2.setCell ⟨y1,5,none⟩ (.slice (some ⟨g,0,none⟩) q.tr.n c')).heap[y1]?=some (.cells #[.slice p.ss.A p.ss.n p.ss.c,.slice p.ts.A p.ts.n p.ts.c,.slice p.ws.A p.ws.n p.ws.c,.slice p.rs.A p.rs.n p.rs.c,.slice q.sw.A q.sw.n q.sw.c,.slice (some ⟨g,0,none⟩) q.tr.n c',.int .i64 q.ctr] 437 (0,0)):=by
  rw [zd6,if_pos rfl,k2]
  rfl
 have hy1:∀ k,(Value.slice (some ⟨g,0,none⟩) q.tr.n c').ownBlock=some k→k≠y1:=fun k hk=>by
  have:k=g:=(Option.some.inj hk).symm
  omega
 have hown3:(w2.setCell ⟨y1,5,none⟩ (.slice (some ⟨g,0,none⟩) q.tr.n c')).ownsRow w1.heap.size 224 2 (.slice (some ⟨g,0,none⟩) q.tr.n c') q.tr.n (zbs q.trs):=zbx hown hy1
 have HB3:Hid (Below w.heap.size w (w2.setCell ⟨y1,5,none⟩ (.slice (some ⟨g,0,none⟩) q.tr.n c'))):=(HB1.out.trans (hb2.mono (by omega))).setCell hs1 _
 clear k2 f5 c5 hown hb2 hy1 HK1 hcur
 generalize w2.setCell ⟨y1,5,none⟩ (.slice (some ⟨g,0,none⟩) q.tr.n c')=w3 at *
 obtain ⟨_,cur,hgg,_,hcur⟩:=own_at hown3 hn
 obtain rfl:=(congrArg (fun o=>(o.getD ⟨0,0,none⟩).block) hgg:g=_)
 clear hgg
 obtain ⟨d0,d1,d2,d3,d4,d5,d6⟩:_∧_∧_∧_∧_∧_∧_:=zdc k3
 clear d0 d1 d2 d3 d4 d6
 obtain ⟨x1,rest,hq⟩:∃ x1 rest,q.trs=x1 :: rest:=by
  have:=HX.out
  cases h9:q.trs with
  | nil=>rw [h9] at this;cases this
  | cons x1 rest=>exact ⟨x1,rest,rfl⟩
 rw [hq] at hown3
 have c0:=zby (za7 hown3) (k:=0) (u:=x1.s.v) rfl
 have c1:=zby (za7 hown3) (k:=1) (u:=.int .i64 x1.under) rfl
 rw [Nat.zero_add] at c0 c1
 have f0:=frozen_of_row w3 g 0 _ _ hcur
 have f1:=frozen_of_row w3 g 1 _ _ hcur
 have HS:=Lib.hid (lt_set0 hown3 ⟨⟨tA,tn,tc⟩,ch,un⟩)
 have HB4:Hid (Below w.heap.size w ((w3.setCell ⟨g,0,none⟩ (.slice tA tn tc)).setCell ⟨g,1,none⟩ (.int .i64 un))):=(HB3.out.setCell (p:=⟨g,0,none⟩) (by show w.heap.size≤g;omega) _).setCell (p:=⟨g,1,none⟩) (by show w.heap.size≤g;omega) _
 have HK4:Hid (((w3.setCell ⟨g,0,none⟩ (.slice tA tn tc)).setCell ⟨g,1,none⟩ (.int .i64 un)).heap[y1]?=some (.cells #[.slice p.ss.A p.ss.n p.ss.c,.slice p.ts.A p.ts.n p.ts.c,.slice p.ws.A p.ws.n p.ws.c,.slice p.rs.A p.rs.n p.rs.c,.slice q.sw.A q.sw.n q.sw.c,.slice (some ⟨g,0,none⟩) q.tr.n c',.int .i64 q.ctr] 437 (0,0))):=
  zdn (zdn k3 (by omega) _ _) (by omega) _ _
 have HQ:=Lib.hid hq
 have HSZ:Hid (((w3.setCell ⟨g,0,none⟩ (.slice tA tn tc)).setCell ⟨g,1,none⟩ (.int .i64 un)).heap.size=w3.heap.size):=by simp [Hid]
 clear hq hown3 k3 hcur
 go_wp2
 go_ret
 have hsz:=HB4.out.size
 refine ⟨y1,some ⟨g,0,none⟩,c',rfl,hs1,⟨HK4.out,(HH.out.plant.keep HB4.out).mono (by omega),⟨((HH.out.st.sws.keep HB4.out).mono (by omega)),⟨?_,?_⟩,?_,?_⟩⟩,HB4.out⟩
 · have:=HH.out.st.trs.1
   simp only [zfj,List.length_cons,List.length_tail]
   omega
 · have h9:=HS.out
   rw [← HSZ.out] at h9
   simpa [zfj,HQ.out] using h9
 · intro t ht
   simp only [zfj,List.mem_cons] at ht
   rcases ht with rfl | ht
   · exact (HT.out.keep HB4.out).mono hsz
   · exact ((HH.out.st.t t (List.mem_of_mem_tail ht)).keep HB4.out).mono (by omega)
 · refine ⟨HH.out.st.cap.1,hnc9,fun t ht=>?_⟩
   simp only [zfj,List.mem_cons] at ht
   rcases ht with rfl | ht
   · exact htc
   · exact HH.out.st.cap.2.2 t (List.mem_of_mem_tail ht)
theorem row_of {w:World} {t size n:Nat} {xs:List Value} {v:Value} {e:Ending} {w':World} (he:e=.returned v) (ho:w'.ownsRow w.heap.size t size v n xs) (hb:Below w.heap.size w w'):zd8 w t size xs n e w':=by
 obtain ⟨A,c,rfl⟩:=zcn ho
 exact ⟨A,c,he,zbn ho,ho,hb⟩
theorem zk5 (w:World) (B:Nat) (A:Option Addr) (n c:Nat) (l:List Int) (hl:l.length=n) (hn:n≤100000) (h:Rd w B A (zai l)):Calls Tryz.prog 293 #[.slice A n c] w (zd8 w 3 1 (zai l) n):=by
 subst hl
 cases l with
 | nil =>
  cases A with
  | none=>exact (Tryz.slices_Clone_int_nil 0 c w).mono fun e w' ⟨he,hw⟩=>row_of he ⟨rfl,.inl ⟨rfl,rfl⟩⟩ (hw ▸ Below.refl _ _)
  | some a=>exact (Tryz.slices_Clone_int_zero a c w).mono fun e w' ⟨v,he,ho,_,hb⟩=>row_of he ho hb
 | cons x l =>
  obtain ⟨b,off,rfl,hb,_⟩:=h.at_ (k:=0) (u:=.int .i64 x) rfl
  refine (Tryz.slices_Clone_int b off (x :: l).length c (x :: l) w (Nat.le_refl _) (by omega) (fun j hj=>?_)).mono fun e w' ⟨v,he,ho,_,hb⟩=>row_of he ?_ hb
  · refine zby h ?_
    rw [zai,List.getElem?_map,List.getElem?_eq_getElem hj,List.getD_eq_getElem?_getD,List.getElem?_eq_getElem hj]
    rfl
  · have h9:=ho
    rw [List.take_of_length_le (Nat.le_refl _)] at h9
    exact h9
def LiRel (w0:World) (n:Nat) (u:Value) (wr:World):Prop:=∃ k:Nat,k≤n∧u=.int .i64 k∧Below w0.heap.size w0 wr
def LiesOk (p:PlantV) (q:LsV) (r:RtV) (secs:List Int):Prop:=∀ (i:Nat) (x:Sw),p.sws[i]?=some x→ze1 secs x.2=true→∃ v,r.needs[i]?=some v∧q.sws[i]?=some v
theorem lies_ok (w:World) (B b:Nat) (p:PlantV) (q:LsV) (r:RtV) (A:Option Addr) (n c:Nat) (secs:List Int) (h:LnAt w B b p q) (hd:zcs w B r.d r.needs.length (zai r.needs)) (hs:Rd w B A (zai secs)) (hl:secs.length=n) (hn:n≤1000) (hp:p.ws.n≤1000)
 (hO:LiesOk p q r secs) :
 Calls Tryz.prog 328 #[.pointer (some ⟨b,0,none⟩),.agg #[.string r.nm,.slice r.s.A r.s.n r.s.c,.slice r.d.A r.d.n r.d.c],.slice A n c] w fun e w'=>e=.returned (.bool true)∧Below w.heap.size w w':=by
 have hb0:=hB1 w (.cells #[.string r.nm,.slice r.s.A r.s.n r.s.c,.slice r.d.A r.d.n r.d.c] 78)
 have k0:=hA1 w (.cells #[.string r.nm,.slice r.s.A r.s.n r.s.c,.slice r.d.A r.d.n r.d.c] 78)
 have HH:=Lib.hid (h.keep hb0)
 have HD:=Lib.hid (hd.keep hb0)
 have HS:=Lib.hid (hs.keep hb0)
 have HL:=Lib.hid hl
 have HOO:=Lib.hid hO
 have HB:=Lib.hid hb0
 have hs0:=hb0.size
 have hlen:=h.plant.sws.1
 have hk:=HH.out.blk
 clear hb0 h hd hs hl hO
 go_enter Tryz.func328,Tryz.ntmps328
 go_upto_region 1 with (fail)
 generalize w.alloc (.cells #[.string r.nm,.slice r.s.A r.s.n r.s.c,.slice r.d.A r.d.n r.d.c] 78)=w0 at *
 generalize hbw:w.heap.size=bw at *
 have HBW:=Lib.hid hbw
 have HLEN:=Lib.hid hlen
 have HK0:=Lib.hid k0
 clear hbw hlen k0
 obtain ⟨d0,d1,d2,d3,d4,d5,d6⟩:_∧_∧_∧_∧_∧_∧_:=zdc hk
 simp only [SlV.v] at d2
 clear d0 d1 d3 d4 d5 d6 hk
 obtain ⟨Aw,hAw⟩:∃ A,p.ws.A=A:=⟨_,rfl⟩
 rw [hAw] at d2
 have HAW:=Lib.hid hAw
 clear hAw
 go_wp2
 go_loopw [15] (fun u15 wr=>LiRel w0 p.ws.n u15 wr) (fun u15 _=>p.ws.n - (intOf u15).toNat)
 case atStart=>exact ⟨0,Nat.zero_le _,rfl,Below.refl _ _⟩
 case round =>
  clear d2
  obtain ⟨k,hk,rfl,hb⟩:=hrel
  by_cases hlt:k<p.ws.n
  · obtain ⟨x,hx⟩:∃ x,p.sws[k]?=some x:=⟨_,List.getElem?_eq_getElem (by rw [HLEN.out];exact hlt)⟩
    obtain ⟨nm,sc⟩:=x
    obtain ⟨sb,so,hA,hsb,z0,z1⟩:=Rd.sw (HH.out.keep hb).plant.sws.2 hx
    obtain rfl:Aw=some ⟨sb,so,none⟩:=HAW.out.symm.trans hA
    have HHW:=Lib.hid (HH.out.keep hb)
    have HBL:=Lib.hid hb
    have hb5:=hB1 wr (.cells #[.string nm,.int .i64 sc] 76)
    obtain ⟨e0,e1⟩:_∧_:=zaz (W:=wr.alloc (.cells #[.string nm,.int .i64 sc] 76)) (by rw [zae,if_pos rfl])
    have HB5:=Lib.hid (hb.trans (hb5.mono hb.size))
    have hsr:=hb5.size
    have HX:=Lib.hid hx
    clear hb hb5 hA hx
    go_upto_region 4 with (fail)
    clear z0 z1
    generalize wr.alloc (.cells #[.string nm,.int .i64 sc] 76)=w5 at *
    generalize wr.heap.size=z5 at *
    have CC:=fun y:Xt w5=>zcv A n c B secs sc _ rfl y.1 (by omega) HL.out ((HS.out.keep HB5.out).keep y.2)
    have x1:=fun y:Xt w5=>y.cell e1
    refine zak [19] (fun w'=>∃ y:Xt w5,w'=y.1) (by kernel_rfl) ⟨⟨w5.drew,(Below.refl _ _).drew⟩,rfl⟩ ?_
    refine zdx [0,1,2] 17 rfl (by kernel_rfl) ?_
    simp only [zad,zac,zaa,zX1,zX2,zX3]
    repeat (go_big_quiet_step (fail))
    refine wpQuiet_nil ?_
    have hb3:Below w5.heap.size w5 w5.drew:=(Below.refl _ _).drew
    replace CC:=CC ⟨w5.drew,hb3⟩
    show wpE _ _ _ _ _ _ _ _ _ w5.drew
    generalize hwb:w5.drew=wb at *
    clear x1 e0 e1 hwb
    refine zan (i:=3) rfl (by kernel_rfl) rfl ?_
    unfold zar
    simp only [zad,zac,zaa,zX1,zX2,zX3]
    cases hV:ze1 secs sc with
    | false =>
     rw [hV] at CC
     have HB7:=Lib.hid (HB5.out.trans (hb3.mono HB5.out.size))
     clear hV
     go_wp2_with (go_at_call 194;refine CC.mono ?_;rintro e w' ⟨rfl,rfl⟩)
     refine zab ⟨⟨⟨_,hb3⟩,rfl⟩,?_⟩
     refine zan (i:=4) rfl (by kernel_rfl) rfl ?_
     unfold zar
     simp only [zad,zac,zaa,zX1,zX2,zX3]
     go_wp2
     refine zab ⟨⟨⟨_,hb3⟩,rfl⟩,?_⟩
     refine zao [5,6,7,8,9,10,11,12,13,14,15,16,17,18] 1 rfl (by kernel_rfl) ?_
     simp only [zad,zac,zaa,zX1,zX2,zX3]
     repeat (go_big_quiet_step (fail))
     refine wpQuiet_nil ?_
     refine zau rfl (by kernel_rfl) ?_
     simp only [zad,zac,zaa,zX1,zX2,zX3]
     clear hb3
     go_wp2
     refine zab ?_
     go_wp2
     go_roundw
     case rel=>exact ⟨k+1,by omega,by go_num,HB7.out⟩
     case measure=>simp [intOf];omega
    | true =>
     rw [hV] at CC
     obtain ⟨v,hv1,hv2⟩:=HOO.out k (nm,sc) HX.out hV
     obtain ⟨nb,no,hdA,_,n0⟩:=(HD.out.keep HB5.out).2.at_ (k:=k) (u:=.int .i64 v) (by simp only [zai,List.getElem?_map,hv1,Option.map_some])
     obtain ⟨qb,qo,hqA,_,s0⟩:=(HH.out.keep HB5.out).st.sws.2.at_ (k:=k) (u:=.int .i64 v) (by simp only [zai,List.getElem?_map,hv2,Option.map_some])
     have hkd:k<r.d.n:=by rw [← HD.out.1];exact (List.getElem?_eq_some_iff.1 hv1).1
     have hkq:k<q.sw.n:=by rw [← HH.out.st.sws.1];exact (List.getElem?_eq_some_iff.1 hv2).1
     obtain ⟨_,_,f2⟩:_∧_∧_:=zba (blk HB5.out HK0.out)
     obtain ⟨_,_,_,_,g4,_,_⟩:_∧_∧_∧_∧_∧_∧_:=zdc (HH.out.keep HB5.out).blk
     obtain ⟨dn,hdn⟩:∃ m,r.d.n=m:=⟨_,rfl⟩
     obtain ⟨qn,hqn⟩:∃ m,q.sw.n=m:=⟨_,rfl⟩
     simp only [hdA,hdn] at f2
     simp only [SlV.v,hqA,hqn] at g4
     rw [hdn] at hkd
     rw [hqn] at hkq
     clear hdn hqn
     have y0:=fun y:Xt w5=>y.cell n0
     have y1:=fun y:Xt w5=>y.cell s0
     have y2:=fun y:Xt w5=>y.cell f2
     have y3:=fun y:Xt w5=>y.cell g4
     have HB7:=Lib.hid (HB5.out.trans (hb3.mono HB5.out.size))
     clear hV n0 s0 f2 g4 hv1 hv2 hdA hqA
     go_wp2_with (go_at_call 194;refine CC.mono ?_;rintro e w' ⟨rfl,rfl⟩)
     refine zab ⟨⟨⟨_,hb3⟩,rfl⟩,?_⟩
     refine zan (i:=4) rfl (by kernel_rfl) rfl ?_
     unfold zar
     simp only [zad,zac,zaa,zX1,zX2,zX3]
     go_wp2
     refine zab ⟨⟨⟨_,hb3⟩,rfl⟩,?_⟩
     refine zao [5,6,7,8,9,10,11,12,13,14,15,16,17,18] 1 rfl (by kernel_rfl) ?_
     simp only [zad,zac,zaa,zX1,zX2,zX3]
     repeat (go_big_quiet_step (fail))
     refine wpQuiet_nil ?_
     refine zau rfl (by kernel_rfl) ?_
     simp only [zad,zac,zaa,zX1,zX2,zX3]
     clear hb3 y0 y1 y2 y3
     go_wp2
     refine zab ?_
     go_wp2
     go_roundw
     case rel=>exact ⟨k+1,by omega,by go_num,HB7.out⟩
     case measure=>simp [intOf];omega
  · have HB7:=Lib.hid (HB.out.trans (hb.mono hs0))
    clear hb
    go_wp2
    go_ret
    exact ⟨rfl,by rw [HBW.out];exact HB7.out⟩
def grow362_ren:Go.Shelf.Ren:=⟨fun | 4=>370 | n=>n,fun | 0=>0 | 3=>3 | 4=>4 | 9=>9 | 20=>20 | 22=>32 | 25=>3 | n=>n,fun | n=>n⟩
theorem grow362:Go.Proofs.Lays8.n4 Tryz.prog grow362_ren:={
 mixed:=by kernel_rfl
 f4:=⟨Tryz.f370.name,by decide,Tryz.func370.trans (congrArg some (by kernel_rfl))⟩
 t0:=Tryz.underlying0
 a0:=Tryz.isAgg0
 z0:=Tryz.sizeOf0
 v0:=Tryz.zeroValue0
 t3:=Tryz.underlying3
 a3:=Tryz.isAgg3
 z3:=Tryz.sizeOf3
 v3:=Tryz.zeroValue3
 t4:=Tryz.underlying4
 a4:=Tryz.isAgg4
 z4:=Tryz.sizeOf4
 v4:=Tryz.zeroValue4
 t9:=Tryz.underlying9
 a9:=Tryz.isAgg9
 z9:=Tryz.sizeOf9
 v9:=Tryz.zeroValue9
 t20:=Tryz.underlying20
 a20:=Tryz.isAgg20
 z20:=Tryz.sizeOf20
 v20:=Tryz.zeroValue20
 t22:=Tryz.underlying32
 a22:=Tryz.isAgg32
 z22:=Tryz.sizeOf32
 v22:=Tryz.zeroValue32 }
theorem Grow_nil (n:Nat) (hn:0<n) (hn2:n≤100000) (w:World):Calls Tryz.prog 370 #[.slice none 0 0,.int .i64 n] w fun e w' =>
 ∃ g cap,e=.returned (.slice (some ⟨g,0,none⟩) 0 cap)∧w'.ownsRow w.heap.size 3 1 (.slice (some ⟨g,0,none⟩) 0 cap) 0 []∧Below w.heap.size w w':=by
 obtain ⟨i1,hi1,hy0,hy1,hy2⟩:=info_parts zh8
 refine (Any8.slices_Grow_grow grow362 i1 (.int .i64 0) hi1 hy0 (by omega) none 0 0 n [] w (Nat.le_refl _) (by omega) (by rw [hy2];omega) (by omega) (by simp) (fun _=>rfl) (fun a h=>by cases h)).mono fun e w' ⟨he,hw⟩=>⟨_,_,he,?_,?_⟩
 · rw [hw]
   have hX:∀ C:Array Value,(w.drew.alloc (.cells C 3)).heap[w.heap.size]?=some (.cells C 3 (0,0)):=fun C=>by
    show (w.drew.alloc (.cells C 3)).heap[w.drew.heap.size]?=_
    rw [zae,if_pos rfl]
   have h9:=grownCap_ge w (0+n) 0 3
   refine ⟨rfl,.inr ⟨w.heap.size,_,_,rfl,Nat.le_refl _,hX _,Nat.zero_le _,grownCap_le_maxLen w _ _ _ (by unfold maxLen;omega),?_,by simp⟩⟩
   simp only [Builtin.zeroCells,Array.size_append,Array.size_map,Array.size_range,Value.cells,Array.size_empty]
   show 0+(0+n - 0) * 1+(grownCap w (0+n) 0 3 - (0+n)) * 1=grownCap w (0+n) 0 3 * 1
   omega
 · rw [hw]
   exact ((Below.refl _ _).drew).alloc (show w.heap.size≤w.drew.heap.size from Nat.le_refl _) _
def CcRel (w0:World) (n1 n2:Nat) (u3 u11:Value) (wr:World):Prop:=
 wr=w0∧((u11=.int .i64 0∧u3=.int .i64 0)∨(u11=.int .i64 1∧u3=.int .i64 n1)∨(u11=.int .i64 2∧u3=.int .i64 (n1+n2:Nat)))
def CdRel (w0:World) (n1 n2:Nat) (l1 l2:List Int) (u6 u27:Value) (wr:World):Prop:=
 ∃ g cap,Below w0.heap.size w0 wr∧((u27=.int .i64 0∧u6=.slice (some ⟨g,0,none⟩) 0 cap∧wr.ownsRow w0.heap.size 3 1 (.slice (some ⟨g,0,none⟩) 0 cap) 0 []) ∨
  (u27=.int .i64 1∧u6=.slice (some ⟨g,0,none⟩) n1 cap∧wr.ownsRow w0.heap.size 3 1 (.slice (some ⟨g,0,none⟩) n1 cap) n1 (zai l1)) ∨
  (u27=.int .i64 2∧u6=.slice (some ⟨g,0,none⟩) (n1+n2) cap∧wr.ownsRow w0.heap.size 3 1 (.slice (some ⟨g,0,none⟩) (n1+n2) cap) (n1+n2) (zai l1++zai l2)))
theorem Concat2_ok (w:World) (B k:Nat) (A1 A2:Option Addr) (c1 c2:Nat) (l1 l2:List Int) (h1:Rd w B A1 (zai l1)) (h2:Rd w B A2 (zai l2)) (hn1:0<l1.length) (hb1:l1.length≤1000) (hb2:l2.length≤1000)
 (z0:w.cell? ⟨k,0,none⟩=some (.slice A1 l1.length c1)) (z1:w.cell? ⟨k,1,none⟩=some (.slice A2 l2.length c2)) :
 Calls Tryz.prog 329 #[.slice (some ⟨k,0,none⟩) 2 2] w (zd8 w 3 1 (zai (l1++l2)) (l1.length+l2.length)):=by
 obtain ⟨i1,hi1,hy0,hy1,hy2⟩:=info_parts zh8
 have GN:=fun W=>Grow_nil (l1.length+l2.length) (by omega) (by omega) W
 have HE:Hid (zai (l1++l2)=zai l1++zai l2):=by simp [Hid,zai]
 obtain ⟨n1,e1⟩:∃ n,l1.length=n:=⟨_,rfl⟩
 obtain ⟨n2,e2⟩:∃ n,l2.length=n:=⟨_,rfl⟩
 have HN1:=Lib.hid e1
 have HN2:=Lib.hid e2
 have HR1:=Lib.hid h1
 have HR2:=Lib.hid h2
 rw [e1,e2] at GN ⊢
 rw [e1] at z0 hb1 hn1
 rw [e2] at z1 hb2
 clear e1 e2 h1 h2
 go_enter Tryz.func329,Tryz.ntmps329
 go_wp2
 go_loopw [3,11] (fun u3 u11 wr=>CcRel w n1 n2 u3 u11 wr) (fun _ u11 _=>2 - (intOf u11).toNat)
 case atStart=>exact ⟨rfl,.inl ⟨rfl,rfl⟩⟩
 case round =>
  obtain ⟨hw,hrel⟩:=hrel
  replace hw:=hw.symm
  subst hw
  rcases hrel with ⟨rfl,rfl⟩ | ⟨rfl,rfl⟩ | ⟨rfl,rfl⟩
  · have q0:¬ (n1:Int)<0:=by omega
    go_wp2
    go_roundw
    case rel=>exact ⟨rfl,.inr (.inl ⟨rfl,by go_num⟩)⟩
    case measure=>simp [intOf]
  · have q0:¬ (n1:Int)+(n2:Int)<0:=by omega
    go_wp2
    go_roundw
    case rel=>exact ⟨rfl,.inr (.inr ⟨rfl,by go_num⟩)⟩
    case measure=>simp [intOf]
  · go_upto_region 10 with (go_at_call 370;refine (GN _).mono ?_;rintro e w1 ⟨g,cap,rfl,hown,hb⟩)
    clear GN
    go_wp2
    go_loopw [6,27] (fun u6 u27 wr=>CdRel w n1 n2 l1 l2 u6 u27 wr) (fun _ u27 _=>2 - (intOf u27).toNat)
    case atStart=>exact ⟨g,cap,hb,.inl ⟨rfl,rfl,hown⟩⟩
    case round =>
     clear hown hb
     obtain ⟨g2,cap2,hb,hrel⟩:=hrel
     replace z0:=zat hb z0
     replace z1:=zat hb z1
     have r1:=HR1.out.keep hb
     have r2:=HR2.out.keep hb
     have hsz:=hb.size
     have HB:=Lib.hid hb
     clear hb
     rcases hrel with ⟨rfl,rfl,hown⟩ | ⟨rfl,rfl,hown⟩ | ⟨rfl,rfl,hown⟩
     · have HO:=Lib.hid hown
       clear hown
       go_wp2_with (at_builtin;refine stp ?_)
       unfold Stp
       refine zfa _ rfl _ _ 32 rfl w.heap.size 3 i1 _ 1 8 Tryz.underlying32 hi1 hy0 hy1 hy2 rfl (by omega) g2 0 cap2 [] rfl HO.out B A1 n1 c1 (zai l1) rfl (by rw [zc0,HN1.out,Nat.mul_one]) r1 (zdi l1) (by simp only [maxLen];omega) (by omega) hsz ?_
       intro g3 cap3 w3 hown3 hgrow3 _
       have HB3:=Lib.hid (HB.out.grown hgrow3 hsz (fun j hj=>by rw [← Option.some.inj hj];exact (zbi HO.out (k:=g2) rfl).1))
       rw [Nat.zero_add,List.nil_append] at hown3
       have HO3:=Lib.hid hown3
       clear hown3 hgrow3 r1 r2 z0 z1
       rw [Nat.zero_add]
       go_wp2
       go_roundw
       case rel=>exact ⟨g3,cap3,HB3.out,.inr (.inl ⟨rfl,rfl,HO3.out⟩)⟩
       case measure=>simp [intOf]
     · have HO:=Lib.hid hown
       clear hown
       go_wp2_with (at_builtin;refine stp ?_)
       unfold Stp
       refine zfa _ rfl _ _ 32 rfl w.heap.size 3 i1 _ 1 8 Tryz.underlying32 hi1 hy0 hy1 hy2 rfl (by omega) g2 n1 cap2 (zai l1) rfl HO.out B A2 n2 c2 (zai l2) rfl (by rw [zc0,HN2.out,Nat.mul_one]) r2 (zdi l2) (by simp only [maxLen];omega) (by omega) hsz ?_
       intro g3 cap3 w3 hown3 hgrow3 _
       have HB3:=Lib.hid (HB.out.grown hgrow3 hsz (fun j hj=>by rw [← Option.some.inj hj];exact (zbi HO.out (k:=g2) rfl).1))
       have HO3:=Lib.hid hown3
       clear hown3 hgrow3 r1 r2 z0 z1
       go_wp2
       go_roundw
       case rel=>exact ⟨g3,cap3,HB3.out,.inr (.inr ⟨rfl,rfl,HO3.out⟩)⟩
       case measure=>simp [intOf]
     · have HO:=Lib.hid hown
       clear hown z0 z1 r1 r2
       go_wp2
       go_ret
       exact ⟨_,_,rfl,zbn HO.out,by rw [HE.out];exact HO.out,HB.out⟩
def tdFr (b bw:Nat) (A:Option Addr) (n c:Nat) (ct:Int) (e3 e11 e17:Value):Go.Act:=⟨#[.pointer (some ⟨b,0,none⟩),undef,.pointer (some ⟨bw,0,none⟩),e3,undef,undef,.pointer (some ⟨b,0,none⟩),.pointer (some ⟨b,0,none⟩),.pointer (some ⟨b,4,none⟩),.pointer (some ⟨b,4,none⟩),.slice A n c,e11,.pointer (some ⟨b,0,none⟩),.pointer (some ⟨b,0,none⟩),.pointer (some ⟨b,4,none⟩),.pointer (some ⟨b,6,none⟩),.int .i64 ct,e17,undef,undef,undef,undef,undef,undef,undef,undef,undef,undef,undef,undef,undef,undef,undef,undef,undef,undef,undef,undef,undef,undef,undef],[]⟩
def TdI (b bw:Nat) (A:Option Addr) (n c:Nat) (ct:Int) (l:List Int) (w0:World) (L:Nat→Bool) (a:Go.Act) (w:World):Prop:=
 ∃ e3 e11 e17,a=tdFr b bw A n c ct e3 e11 e17∧Below w0.heap.size w0 w∧(L 5=true→OwAt w w0.heap.size 3 1 n (zai l) e11)∧(L 11=true→L 5=true∧e17=.agg #[e11,.slice none 0 0,.int .i64 ct]) ∧
  (L 12=true→BlAt w w0.heap.size (.cells #[.slice none 0 0,.slice none 0 0,.int .i64 0] 103 (0,0)) e3)
structure TdO (w:World) (x:Nat) (A1:Option Addr) (n c1:Nat) (sws:List Int) (q:List LtV):Prop where
 sws:w.ownsRow x 3 1 (.slice A1 n c1) n (zai sws)
 t:∀ t∈q,t.chain.length=t.s.n∧w.ownsRow x 3 1 t.s.v t.s.n (zai t.chain)
theorem TdO.keep {w w':World} {x:Nat} {A1:Option Addr} {n c1:Nat} {sws:List Int} {q:List LtV} (h:TdO w x A1 n c1 sws q) (hb:Below w.heap.size w w'):TdO w' x A1 n c1 sws q:=
 ⟨zaf h.sws hb,fun t ht=>⟨(h.t t ht).1,zaf (h.t t ht).2 hb⟩⟩
theorem TdO.other {w w':World} {x:Nat} {A1:Option Addr} {n c1:Nat} {sws:List Int} {q:List LtV} (h:TdO w x A1 n c1 sws q) (hk:∀ (k:Nat) (cur:Array Value),w.heap[k]?=some (.cells cur 3 (0,0))→w'.heap[k]?=w.heap[k]?):TdO w' x A1 n c1 sws q:=
 ⟨zbc h.sws hk,fun t ht=>⟨(h.t t ht).1,zbc (h.t t ht).2 hk⟩⟩
def LtV.key (t:LtV):List Int × Int:=(t.chain,t.under)
def TdRel (x g:Nat) (w0:World) (q:LsV) (A1:Option Addr) (n c1:Nat) (u:Value) (wr:World):Prop:=∃ (k:Nat) (A3:Option Addr) (c3:Nat) (q':List LtV),
 k≤q.tr.n∧u=.int .i64 k∧Below x w0 wr∧wr.heap[g]?=some (.cells #[.slice A1 n c1,.slice A3 k c3,.int .i64 q.ctr] 103 (0,0))∧TdO wr x A1 n c1 q.sws q'∧wr.ownsRow x 224 2 (.slice A3 k c3) k (zbs q')∧q'.map LtV.key=(q.trs.take k).map LtV.key
theorem told_any (w:World) (B b:Nat) (p:PlantV) (q:LsV) (h:LnAt w B b p q) (hS:LsS q):Calls Tryz.prog 267 #[.pointer (some ⟨b,0,none⟩)] w fun e w' =>
 ∃ q':LsV,q'.sws=q.sws∧q'.trs.map LtV.key=q.trs.map LtV.key∧q'.ctr=q.ctr∧e=.returned (.agg (zbf q').toArray)∧LsOw w' w.heap.size q'∧Below w.heap.size w w':=by
 have hb0:=hB1 w (.cells #[.slice none 0 0,.slice none 0 0,.int .i64 0] 103)
 have k0:=hA1 w (.cells #[.slice none 0 0,.slice none 0 0,.int .i64 0] 103)
 have hs:=hS1 w (.cells #[.slice none 0 0,.slice none 0 0,.int .i64 0] 103)
 have HH:=Lib.hid (h.keep hb0)
 have HSS:=Lib.hid hS
 have HB:=Lib.hid hb0
 clear hb0 h
 go_enter Tryz.func267,Tryz.ntmps267
 go_upto_region 1 with (fail)
 generalize w.alloc (.cells #[.slice none 0 0,.slice none 0 0,.int .i64 0] 103)=w0 at *
 generalize hbw:w.heap.size=bw at *
 have HBW:=Lib.hid hbw
 clear hbw
 obtain ⟨d0,d1,d2,d3,d4,d5,d6⟩:_∧_∧_∧_∧_∧_∧_:=zdc HH.out.blk
 simp only [SlV.v] at d4 d5
 have x4:=fun y:Xt w0=>y.cell d4
 have x6:=fun y:Xt w0=>y.cell d6
 clear d0 d1 d2 d3 d4 d5 d6
 refine zak [13] (fun w'=>∃ y:Xt w0,w'=y.1) (by kernel_rfl) ⟨⟨w0.drew,(Below.refl _ _).drew⟩,rfl⟩ ?_
 refine zao [0,1,2,3,4,6,7,8,9,10] 4 rfl (by kernel_rfl) ?_
 simp only [zad,zac,zaa,zX1,zX2,zX3]
 repeat (go_big_quiet_step (fail))
 refine wpQuiet_nil ?_
 have hbd:Below w0.heap.size w0 w0.drew:=(Below.refl _ _).drew
 show wpE _ _ _ _ _ _ _ _ _ w0.drew
 generalize w0.drew=wd at *
 clear x4 x6
 refine zdt (g:=1) [5,11,12] (TdI b bw q.sw.A q.sw.n q.sw.c q.ctr q.sws w0) rfl (by kernel_rfl) ?_ ?_ ?_
 · exact ⟨undef,undef,undef,rfl,hbd,fun h=>absurd (show false=true from h) (by decide),fun h=>absurd (show false=true from h) (by decide),fun h=>absurd (show false=true from h) (by decide)⟩
 · intro a w8 hS8 hI
   obtain ⟨e3,e11,e17,rfl,hb8,hF5,hF11,hF12⟩:=hI
   obtain ⟨A1,c1,rfl,hc1,hf1⟩:=hF5 (by kernel_rfl)
   obtain ⟨_,rfl⟩:=hF11 (by kernel_rfl)
   obtain ⟨g,rfl,hg,hk8⟩:=hF12 (by kernel_rfl)
   refine zau rfl (by kernel_rfl) ?_
   simp only [zad,zac,zaa,zX1,zX2,zX3]
   unfold tdFr
   refine wpList_store_row rfl 103 _ _ rfl g #[.slice A1 q.sw.n c1,.slice none 0 0,.int .i64 q.ctr] rfl rfl 103 _ hk8 (by kernel_rfl) rfl (by kernel_rfl) ?_
   go_wp2
   refine zab ?_
   have HK9:=Lib.hid (setRow_heap w8 g _ #[.slice A1 q.sw.n c1,.slice none 0 0,.int .i64 q.ctr] 103 (0,0) hk8)
   have HO9:=Lib.hid (zaq hf1 #[.slice A1 q.sw.n c1,.slice none 0 0,.int .i64 q.ctr] (zca hf1 hk8 (by decide)))
   have HB9:=Lib.hid (below_setRow hb8 hg #[.slice A1 q.sw.n c1,.slice none 0 0,.int .i64 q.ctr])
   have hlg:g<w8.heap.size:=lt_of_block hk8
   clear hF5 hF11 hF12 hf1 hk8 hb8 hS8 hbd
   change Exit.then _ _ Exit.normal _ (w8.setRow g #[.slice A1 q.sw.n c1,.slice none 0 0,.int .i64 q.ctr])
   generalize w8.setRow g #[.slice A1 q.sw.n c1,.slice none 0 0,.int .i64 q.ctr]=w9 at *
   obtain ⟨_,_,_,_,_,d5,_⟩:_∧_∧_∧_∧_∧_∧_:=zdc (HH.out.keep HB9.out).blk
   simp only [SlV.v] at d5
   obtain ⟨At,hAt⟩:∃ A,q.tr.A=A:=⟨_,rfl⟩
   rw [hAt] at d5
   have HAT:=Lib.hid hAt
   clear hAt
   go_wp2
   go_loopw [24] (fun u24 wr=>TdRel w0.heap.size g w0 q A1 q.sw.n c1 u24 wr) (fun u24 _=>q.tr.n - (intOf u24).toNat)
   case atStart=>exact ⟨0,none,0,[],Nat.zero_le _,rfl,HB9.out,HK9.out,⟨HO9.out,fun t ht=>absurd ht (by simp)⟩,⟨rfl,.inl ⟨rfl,rfl⟩⟩,rfl⟩
   case round =>
    clear d5
    obtain ⟨k,A3,c3,q',hk,rfl,hb,hk3,hO,ho3,hkey⟩:=hrel
    have HKEY:=Lib.hid hkey
    have HBK:=Lib.hid hb
    have hsk:=hb.size
    have k0r:=(hb.block bw (by omega)).trans k0
    have HLN:=Lib.hid (HH.out.keep hb)
    clear hkey hb
    by_cases hlt:k<q.tr.n
    · obtain ⟨x,hev⟩:∃ ev,q.trs[k]?=some ev:=⟨_,List.getElem?_eq_getElem (by rw [HLN.out.st.trs.1];exact hlt)⟩
      obtain ⟨bb,off,hA,hbB,z0,z1⟩:=Rd.lt HLN.out.st.trs.2 hev
      obtain rfl:At=some ⟨bb,off,none⟩:=HAT.out.symm.trans hA
      have hxs:=HLN.out.st.t x (List.mem_of_getElem? hev)
      have hxc:=HSS.out.2.2 x (List.mem_of_getElem? hev)
      have hba:=hB1 wr (.cells #[.slice x.s.A x.s.n x.s.c,.int .i64 x.under] 224)
      obtain ⟨e0,e1⟩:_∧_:=zaz (W:=wr.alloc (.cells #[.slice x.s.A x.s.n x.s.c,.int .i64 x.under] 224)) (by rw [zae,if_pos rfl])
      have HXS:=Lib.hid (hxs.keep hba)
      have hOa:=hO.keep hba
      have ho3a:=zaf ho3 hba
      have hk3a:=blk hba hk3
      have HBA:=Lib.hid (HBK.out.trans (hba.mono hsk))
      have hsa:=Nat.le_trans hsk hba.size
      have HEV:=Lib.hid hev
      have hxn:x.s.n≤1000:=by rw [← hxs.1];exact hxc
      have htn:q.tr.n≤1000:=by rw [← HLN.out.st.trs.1];exact HSS.out.1
      obtain ⟨i1,hi1,hy0,hy1,hy2⟩:=info_parts zl0
      clear hev hba HBK hxs hxc hO ho3 k0r hA HLN hk3
      go_upto_region 5 with (fail)
      clear z0 z1
      generalize wr.alloc (.cells #[.slice x.s.A x.s.n x.s.c,.int .i64 x.under] 224)=wa at *
      generalize wr.heap.size=y at *
      obtain ⟨b0,b1,b2⟩:_∧_∧_:=zba hk3a
      have x0:=fun z:Xt wa=>z.cell e0
      have x1:=fun z:Xt wa=>z.cell e1
      have x2:=fun z:Xt wa=>z.cell b1
      refine zak [9,10,11] (fun w'=>∃ z:Xt wa,w'=z.1) (by kernel_rfl) ⟨⟨wa.drew,(Below.refl _ _).drew⟩,rfl⟩ ?_
      refine zao [0,1,2,3,5,6] 6 rfl (by kernel_rfl) ?_
      simp only [zad,zac,zaa,zX1,zX2,zX3]
      repeat (go_big_quiet_step (fail))
      refine wpQuiet_nil ?_
      have hbd:Below wa.heap.size wa wa.drew:=(Below.refl _ _).drew
      show wpE _ _ _ _ _ _ _ _ _ wa.drew
      generalize wa.drew=we at *
      clear x0 x1 x2 b0 b1 b2 e0 e1
      have CI:=zk5 we B x.s.A x.s.n x.s.c x.chain HXS.out.1 (by omega) (HXS.out.2.keep hbd)
      refine zan (i:=4) rfl (by kernel_rfl) rfl ?_
      unfold zar
      simp only [zad,zac,zaa,zX1,zX2,zX3]
      go_wp2_with (go_at_call 293;refine CI.mono ?_;rintro e w1 ⟨A5,c5,rfl,hc5,ho5,hb1⟩)
      have hbe1:=hbd.trans (hb1.mono hbd.size)
      refine zab ⟨⟨⟨_,hbe1⟩,rfl⟩,?_⟩
      refine zan (i:=7) rfl (by kernel_rfl) rfl ?_
      unfold zar
      simp only [zad,zac,zaa,zX1,zX2,zX3]
      go_wp2
      refine zab ⟨⟨⟨_,hbe1⟩,rfl⟩,?_⟩
      refine zan (i:=8) rfl (by kernel_rfl) rfl ?_
      unfold zar
      simp only [zad,zac,zaa,zX1,zX2,zX3]
      go_wp2
      have hbn:=hB1 w1 (.cells #[.slice A5 x.s.n c5,.int .i64 x.under] 224)
      have hbe3:=hbe1.trans (hbn.mono hbe1.size)
      refine zab ⟨⟨⟨_,hbe3⟩,rfl⟩,?_⟩
      refine zau rfl (by kernel_rfl) ?_
      simp only [zad,zac,zaa,zX1,zX2,zX3]
      have ho3d:=zaf ho3a hbe3
      have hxa:w0.heap.size≤(w1.alloc (.cells #[.slice A5 x.s.n c5,.int .i64 x.under] 224)).heap.size:=Nat.le_trans hsa hbe3.size
      refine wpList_append_lies _ rfl _ _ 101 rfl w0.heap.size 224 i1 _ 2 32 Tryz.underlying101 hi1 hy0 hy1 hy2 rfl (by omega) (.slice A3 k c3) k _ rfl ho3d ⟨w1.heap.size,0,none⟩ 1 1 [.slice A5 x.s.n c5,.int .i64 x.under] rfl rfl (zey (f:=(0,0)) (t:=224) (by rw [zae,if_pos rfl])) (by simp [Value.oneCell']) (by omega) (by simp only [maxLen];omega) (by omega) hxa _ rfl ?_
      intro gg cap2 w6 hown6 hgrow6 _ _
      have hk3d:=blk hbe3 hk3a
      have hk3e:w6.heap[g]?=some (.cells #[.slice A1 q.sw.n c1,.slice A3 k c3,.int .i64 q.ctr] 103 (0,0)):=(hgrow6.block g (lt_of_block hk3d) (fun he=>zca ho3d hk3d (by decide) g he.symm rfl)).trans hk3d
      have hOd:=(hOa.keep hbe3).other (w':=w6) (fun k' cur hk'=>hgrow6.block k' (lt_of_block hk') (fun he=>zca ho3d hk' (by decide) k' he.symm rfl))
      have ho5d:=zbc (w':=w6) (zaf ho5 hbn) (fun k' cur hk'=>hgrow6.block k' (lt_of_block hk') (fun he=>zca ho3d hk' (by decide) k' he.symm rfl))
      have HB6:=Lib.hid ((HBA.out.trans (hbe3.mono hsa)).grown hgrow6 hxa (fun j hj=>(zbi ho3d hj).1))
      have f3:=frozen_of_row w6 g 1 _ _ hk3e
      obtain ⟨q0,q1,q2⟩:_∧_∧_:=zba hk3e
      have hwe:=hbd.size
      have hw1:=hbe1.size
      clear hOa ho3a hk3a hbe3 hbn hbe1 hbd hb1 ho5 hgrow6 ho3d hk3d HBA hy0 hy1 hy2 hi1 CI
      go_wp2
      refine zab ?_
      have hk3f:(w6.setCell ⟨g,1,none⟩ (.slice (some ⟨gg,0,none⟩) (k+1) cap2)).heap[g]?=some (.cells #[.slice A1 q.sw.n c1,.slice (some ⟨gg,0,none⟩) (k+1) cap2,.int .i64 q.ctr] 103 (0,0)):=zdy hk3e 1 _
      have HK3:=Lib.hid hk3f
      have HOf:=Lib.hid (hOd.other (w':=w6.setCell ⟨g,1,none⟩ (.slice (some ⟨gg,0,none⟩) (k+1) cap2)) (fun k cur hk=>zdn hk (zct hk hk3e (by decide)) _ _ |>.trans hk.symm))
      have HO5:=Lib.hid (za0 (zbx (i:=1) (u:=.slice (some ⟨gg,0,none⟩) (k+1) cap2) ho5d (zca ho5d hk3e (by decide))) (show w0.heap.size≤_ by omega))
      have HO6:=Lib.hid (zbx (i:=1) (u:=.slice (some ⟨gg,0,none⟩) (k+1) cap2) hown6 (zca hown6 hk3e (by decide)))
      have HB7:=Lib.hid (HB6.out.setCell (p:=⟨g,1,none⟩) hg (.slice (some ⟨gg,0,none⟩) (k+1) cap2))
      clear hk3f hOd ho5d hown6 hk3e q0 q1 q2 f3 HB6
      go_wp2
      go_roundw
      case rel =>
       refine ⟨k+1,some ⟨gg,0,none⟩,cap2,q'++[⟨⟨A5,x.s.n,c5⟩,x.chain,x.under⟩],hlt,by go_num,HB7.out,HK3.out,⟨HOf.out.sws,fun t ht=>?_⟩,?_,?_⟩
       · rcases List.mem_append.1 ht with h | h
         · exact HOf.out.t t h
         · rw [List.mem_singleton] at h
           subst h
           exact ⟨HXS.out.1,HO5.out⟩
       · have e:zbs (q'++[⟨⟨A5,x.s.n,c5⟩,x.chain,x.under⟩])=zbs q'++[.slice A5 x.s.n c5,.int .i64 x.under]:=by simp [zbs,zg0,SlV.v]
         rw [e]
         exact HO6.out
       · rw [List.take_add_one,HEV.out,List.map_append,List.map_append,HKEY.out]
         rfl
      case measure=>simp [intOf];omega
    · obtain rfl:k=q.tr.n:=by omega
      have hz1:=HBK.out.size
      have HOW:=Lib.hid (show LsOw wr w0.heap.size _ from (show LsOw wr w0.heap.size ⟨⟨A1,q.sw.n,c1⟩,q.sws,⟨A3,q.tr.n,c3⟩,q',q.ctr⟩ from ⟨hO.sws,ho3,hO.t,HH.out.st.sws.1,by have:=congrArg List.length HKEY.out;simp only [List.length_map,List.length_take,HLN.out.st.trs.1,Nat.min_self] at this;exact this⟩))
      clear hO ho3
      go_wp2_with (with_reducible refine zaw 103 ?_)
      unfold Stp
      refine wpList_load_row rfl 103 _ rfl g rfl 103 _ (0,0) _ hk3 Tryz.underlying103 rfl (by kernel_rfl) ?_
      go_wp2_with (with_reducible refine zas 103 ?_)
      unfold Stp
      refine wpList_store_row rfl 103 _ _ rfl bw #[.slice A1 q.sw.n c1,.slice A3 q.tr.n c3,.int .i64 q.ctr] rfl rfl 103 _ k0r (by kernel_rfl) rfl (by kernel_rfl) ?_
      have HSR:=Lib.hid (setRow_heap wr bw _ #[.slice A1 q.sw.n c1,.slice A3 q.tr.n c3,.int .i64 q.ctr] 103 (0,0) k0r)
      have HB8:=Lib.hid (below_setRow (HB.out.trans (HBK.out.mono (by omega))) (Nat.le_refl bw) #[.slice A1 q.sw.n c1,.slice A3 q.tr.n c3,.int .i64 q.ctr])
      go_wp2
      refine bodyPost_ret (v:=.agg #[.slice A1 q.sw.n c1,.slice A3 q.tr.n c3,.int .i64 q.ctr]) (results_cell_row rfl _ _ bw 103 _ (0,0) _ rfl HSR.out Tryz.underlying103 rfl (by kernel_rfl)) rfl ⟨⟨⟨A1,q.sw.n,c1⟩,q.sws,⟨A3,q.tr.n,c3⟩,q',q.ctr⟩,rfl,?_,rfl,rfl,?_,?_⟩
      · have:=HKEY.out
        rw [List.take_of_length_le (by rw [HLN.out.st.trs.1];exact Nat.le_refl _)] at this
        exact this
      · rw [HBW.out]
        exact (HOW.out.setRow _ (by omega)).base (by omega)
      · rw [HBW.out]
        exact HB8.out
 · intro i hi L a w8 hL hd hS8 hI
   obtain ⟨e3,e11,e17,rfl,hb8,hF5,hF11,hF12⟩:=hI
   simp only [List.mem_cons,List.not_mem_nil,or_false] at hi
   rcases hi with rfl | rfl | rfl
   · have CI:=zk5 w8 B q.sw.A q.sw.n q.sw.c q.sws HH.out.st.sws.1 (by have:=HSS.out.2.1;have:=HH.out.st.sws.1;omega) (HH.out.st.sws.2.keep hb8)
     unfold zar
     simp only [zad,zac,zaa,zX1,zX2,zX3]
     unfold tdFr
     go_wp2_with (go_at_call 293;refine CI.mono ?_;rintro e w9 ⟨A1,c1,rfl,hc1,hown,hb9⟩)
     exact zab ⟨⟨⟨_,hb8.trans (hb9.mono hb8.size)⟩,rfl⟩,⟨e3,_,e17,rfl,hb8.trans (hb9.mono hb8.size),fun _=>⟨_,_,rfl,hc1,za0 hown hb8.size⟩,fun h=>absurd (hF11 h).1 (by rw [hL];decide),fun h=>(hF12 h).keep hb9⟩⟩
   · obtain ⟨A1,c1,rfl,hc1,hf1⟩:=hF5 (hd 5 (by kernel_rfl))
     unfold zar
     simp only [zad,zac,zaa,zX1,zX2,zX3]
     unfold tdFr
     go_wp2
     exact zab ⟨⟨⟨_,hb8⟩,rfl⟩,⟨e3,_,_,rfl,hb8,hF5,fun _=>⟨hd 5 (by kernel_rfl),rfl⟩,hF12⟩⟩
   · unfold zar
     simp only [zad,zac,zaa,zX1,zX2,zX3]
     unfold tdFr
     go_wp2
     have hbn:=hB1 w8 (.cells #[.slice none 0 0,.slice none 0 0,.int .i64 0] 103)
     have hbx:=hb8.trans (hbn.mono hb8.size)
     exact zab ⟨⟨⟨_,hbx⟩,rfl⟩,⟨_,e11,e17,rfl,hbx,fun h=>(hF5 h).keep hbn,hF11,fun _=>⟨_,rfl,hb8.size,by rw [zae,if_pos rfl]⟩⟩⟩
end Go.Proofs.YtoodbfkbbchjiaaGreatDoor
