import Derived.Test.YtfdmeojcopkaoaaGreatDoorf3M6
set_option maxRecDepth 100000
set_option maxHeartbeats 16000000
namespace Go.Proofs.YtfdmeojcopkaoaaGreatDoor
open Go.RowKit
theorem ix151_0 (v:Array Value) (W:World):Sem.run Tryz.prog (Instr.index 151 (Value.agg #[.func (.func 53) #[] v,.func (.func 56) #[] v,.func (.func 57) #[] v,.func (.func 62) #[] v]) (.int .i64 0)) W=.ok (.func (.func 53) #[] v) W:=by kernel_rfl
theorem ix151_1 (v:Array Value) (W:World):Sem.run Tryz.prog (Instr.index 151 (Value.agg #[.func (.func 53) #[] v,.func (.func 56) #[] v,.func (.func 57) #[] v,.func (.func 62) #[] v]) (.int .i64 1)) W=.ok (.func (.func 56) #[] v) W:=by kernel_rfl
theorem ix151_2 (v:Array Value) (W:World):Sem.run Tryz.prog (Instr.index 151 (Value.agg #[.func (.func 53) #[] v,.func (.func 56) #[] v,.func (.func 57) #[] v,.func (.func 62) #[] v]) (.int .i64 2)) W=.ok (.func (.func 57) #[] v) W:=by kernel_rfl
theorem ix151_3 (v:Array Value) (W:World):Sem.run Tryz.prog (Instr.index 151 (Value.agg #[.func (.func 53) #[] v,.func (.func 56) #[] v,.func (.func 57) #[] v,.func (.func 62) #[] v]) (.int .i64 3)) W=.ok (.func (.func 62) #[] v) W:=by kernel_rfl
def lstV (V1 V2 V3 V4:Int):Nat→Int
 | 0=>zam [V1,V2,V3,V4]
 | 1=>zam [V2,V3,V4]
 | 2=>zam [V3,V4]
 | 3=>zam [V4]
 | _=>0
def LsRel (w0:World) (V1 V2 V3 V4 V:Int) (u:Value) (wr:World):Prop:=∃ k:Nat,k≤4∧u=.int .i64 k∧lstV V1 V2 V3 V4 k=V∧Below w0.heap.size w0 wr
theorem zim (w:World) (B:Nat) (p:PlantV) (h:PlantAt w B p) (hS:PlantS p) (hB:B≤w.heap.size):Calls Tryz.prog 16 #[.agg (zan p).toArray] w (zcg w (zch p)):=by
 obtain ⟨⟨As,ns,cs⟩,secs,⟨At,nt,ct⟩,trains,⟨Aw,nw,cw⟩,sws,⟨Ar,nr,cr⟩,rts⟩:=p
 show Calls Tryz.prog 16 #[.agg #[.slice As ns cs,.slice At nt ct,.slice Aw nw cw,.slice Ar nr cr]] w _
 have hl1:secs.length=ns:=h.secs.1
 have hl2:trains.length=nt:=h.trains.1
 have hl3:sws.length=nw:=h.sws.1
 have hl4:rts.length=nr:=h.rts.1
 have hn1:ns≤1000:=by rw [← hl1];exact hS.secs.1
 have hn2:nt≤1000:=by rw [← hl2];exact hS.trains.1
 have hn3:nw≤1000:=by rw [← hl3];exact hS.sws.1
 have hn4:nr≤1000:=by rw [← hl4];exact hS.rts.1
 have k0:((w.alloc (.cells #[.slice As ns cs,.slice At nt ct,.slice Aw nw cw,.slice Ar nr cr] 26)).alloc (.cells #[.int .i64 0,.int .i64 0] 80)).heap[w.heap.size]?=some (.cells #[.slice As ns cs,.slice At nt ct,.slice Aw nw cw,.slice Ar nr cr] 26 (0,0)):=by
  rw [zae,if_neg (by simp),zae,if_pos rfl]
 have k1:((w.alloc (.cells #[.slice As ns cs,.slice At nt ct,.slice Aw nw cw,.slice Ar nr cr] 26)).alloc (.cells #[.int .i64 0,.int .i64 0] 80)).heap[w.heap.size+1]?=some (.cells #[.int .i64 0,.int .i64 0] 80 (0,0)):=by
  rw [zae,if_pos (by simp)]
 have hb0:=hB2 w (.cells #[.slice As ns cs,.slice At nt ct,.slice Aw nw cw,.slice Ar nr cr] 26) (.cells #[.int .i64 0,.int .i64 0] 80)
 have hs:=hS2 w (.cells #[.slice As ns cs,.slice At nt ct,.slice Aw nw cw,.slice Ar nr cr] 26) (.cells #[.int .i64 0,.int .i64 0] 80)
 have HH:=Lib.hid ((h.keep hb0).mono hB)
 have HS:=Lib.hid hS
 have HB:=Lib.hid hb0
 obtain ⟨V,hV⟩:∃ V,zch ⟨⟨As,ns,cs⟩,secs,⟨At,nt,ct⟩,trains,⟨Aw,nw,cw⟩,sws,⟨Ar,nr,cr⟩,rts⟩=V:=⟨_,rfl⟩
 rw [hV]
 obtain ⟨E1,hE1⟩:∃ E,zbs ns nt nw nr=E:=⟨_,rfl⟩
 obtain ⟨V1,hV1⟩:∃ V,za4 nmE [] secs=V:=⟨_,rfl⟩
 obtain ⟨V2,hV2⟩:∃ V,za4 nmE [] trains=V:=⟨_,rfl⟩
 obtain ⟨V3,hV3⟩:∃ V,za4 (swE secs.length) [] sws=V:=⟨_,rfl⟩
 obtain ⟨V4,hV4⟩:∃ V,za4 (rtE secs.length sws) [] rts=V:=⟨_,rfl⟩
 have HV:Hid (V=if E1=0 then zam [V1,V2,V3,V4] else E1):=by
  rw [Hid,← hV,zch]
  simp only [hV1,hV2,hV3,hV4]
  rw [hl1,hl2,hl3,hl4,hE1]
 have HE1:=Lib.hid hE1
 have HV1:=Lib.hid hV1
 have HV2:=Lib.hid hV2
 have HV3:=Lib.hid hV3
 have HV4:=Lib.hid hV4
 clear hb0 h hS hl1 hl2 hl3 hl4 hV hE1 hV1 hV2 hV3 hV4
 go_enter Tryz.func16,Tryz.ntmps16
 go_upto_region 1 with (fail)
 generalize ((w.alloc (.cells #[.slice As ns cs,.slice At nt ct,.slice Aw nw cw,.slice Ar nr cr] 26)).alloc (.cells #[.int .i64 0,.int .i64 0] 80))=w0 at *
 generalize hbw:w.heap.size=bw at *
 have HBW:=Lib.hid hbw
 clear hbw
 have d0:=(cell_of_row w0 _ 0 _ _ _ k0).trans (by rfl:_=some (.slice As ns cs))
 have d1:=(cell_of_row w0 _ 1 _ _ _ k0).trans (by rfl:_=some (.slice At nt ct))
 have d2:=(cell_of_row w0 _ 2 _ _ _ k0).trans (by rfl:_=some (.slice Aw nw cw))
 have d3:=(cell_of_row w0 _ 3 _ _ _ k0).trans (by rfl:_=some (.slice Ar nr cr))
 by_cases hE:E1=0
 · have HVV:Hid (V=zam [V1,V2,V3,V4]):=by rw [Hid,HV.out,if_pos hE]
   obtain ⟨a1,a2,f1,f2,f3,f4⟩:=zje (HE1.out.trans hE)
   have g1:¬ (8:Int)<(ns:Int):=by omega
   have g2:¬ (3:Int)<(nt:Int):=by omega
   have g3:¬ (4:Int)<(nw:Int):=by omega
   have g4:¬ (10:Int)<(nr:Int):=by omega
   have HE2:zbs ns nt nw nr=0:=HE1.out.trans hE
   simp only [zbs,a1,a2,g1,g2,g3,g4,decide_true,decide_false,Bool.and_self,Bool.or_self,Bool.not_false] at HE2
   have HE3:=Lib.hid HE2
   clear hE HV HE1 HE2
   go_upto_region 3 with (first | (go_at_call 52;refine (zb2 _ _ _).mono ?_;rintro e w' ⟨rfl,rfl⟩) | (go_at_call 51;refine (zdn _ _ _).mono ?_;rintro e w' ⟨he,rfl⟩;rw [HE3.out] at he;subst he))
   have HB2:∀ o,Below w0.heap.size w0 (w0.alloc o):=fun o=>(Below.refl _ _).alloc (Nat.le_refl _) o
   generalize hw2:w0.alloc _=w2
   have hb2:Below w0.heap.size w0 w2:=by rw [← hw2];exact HB2 _
   clear HB2 hw2 HE3
   replace k0:=blk hb2 k0
   replace k1:=blk hb2 k1
   replace HH:=Lib.hid (HH.out.keep hb2)
   replace HB:=Lib.hid (HB.out.trans (hb2.mono (by omega)))
   replace hs:=Nat.le_trans hs hb2.size
   clear d0 d1 d2 d3 hb2 f1 f2 f3 f4 g1 g2 g3 g4
   go_wp2
   go_loopw [57] (fun u wr=>LsRel w2 V1 V2 V3 V4 V u wr) (fun u _=>4 - (intOf u).toNat)
   case atStart=>exact ⟨0,by decide,rfl,HVV.out.symm,Below.refl _ _⟩
   case round =>
    obtain ⟨k,hk,rfl,hgo,hb⟩:=hrel
    have HGO:=Lib.hid hgo
    have HBK:=Lib.hid hb
    have HF:=HH.out.keep hb
    have hsk:=hb.size
    replace k0:=blk hb k0
    replace k1:=blk hb k1
    clear hgo hb
    have L1:=list_secs wr bw bw _ HF HS.out (by omega) k0
    have L2:=list_trains wr bw bw _ HF HS.out (by omega) k0
    have L3:=list_sws wr bw bw _ HF HS.out (by omega) k0
    have L4:=list_rts wr bw bw _ HF HS.out (by omega) k0
    rw [HV1.out] at L1
    rw [HV2.out] at L2
    rw [HV3.out] at L3
    rw [HV4.out] at L4
    have HK0:=Lib.hid k0
    clear HF k0
    match k,hk with
    | 0,_ =>
     clear L2 L3 L4
     have ix:=fun W=>ix151_0 #[.pointer (some ⟨bw,0,none⟩)] W
     go_upto_region 8 with (fail)
     go_upto_region 9 with (go_at_call 53;refine L1.mono ?_;rintro e wx ⟨ma,mb,rfl,hbx⟩)
     have k2:=blk hbx k1
     have HBX:=Lib.hid (HBK.out.trans (hbx.mono hsk))
     have hsx:=Nat.le_trans hsk hbx.size
     clear k1 L1
     have ka:=hA1 wx (.cells #[.int .i64 ma,.int .i64 mb] 80)
     have hba:=hB1 wx (.cells #[.int .i64 ma,.int .i64 mb] 80)
     have HBA:=Lib.hid (HBX.out.trans (hba.mono hsx))
     replace k2:=blk hba k2
     clear HBX hba hbx HBK
     generalize wx.alloc (.cells #[.int .i64 ma,.int .i64 mb] 80)=wy at *
     by_cases h0:V1=0
     · have h0':(V1 != 0)=false:=by simp [h0]
       have HN:Hid (lstV V1 V2 V3 V4 1=V):=by
        rw [Hid,← HGO.out]
        simp only [lstV,h0]
        rfl
       clear h0
       go_wp2
       go_roundw
       case rel=>exact ⟨1,by decide,by go_num,HN.out,HBA.out⟩
       case measure=>decide
     · have h0':(V1 != 0)=true:=by simp [h0]
       have HN:Hid (V=V1):=by rw [Hid,← HGO.out];exact if_neg h0
       obtain ⟨r2,r3,q2,q3⟩:=zbr k2
       obtain ⟨s2,s3,t2,t3⟩:=zbr ka
       clear h0
       go_wp2
       refine bodyPost_ret (v:=.tuple #[.agg #[.int .i64 ma,.int .i64 mb],.int .i64 V1]) (by simp [results,Tryz.results16,go_sem,r2,r3]) rfl ⟨ma,mb,?_,?_⟩
       · rw [HN.out]
       · rw [HBW.out]
         exact (HB.out.trans (HBA.out.mono (by omega))).trans (zal _ _ (Nat.le_succ _))
    | 1,_ =>
     clear L1 L3 L4
     have ix:=fun W=>ix151_1 #[.pointer (some ⟨bw,0,none⟩)] W
     go_upto_region 8 with (fail)
     go_upto_region 9 with (go_at_call 56;refine L2.mono ?_;rintro e wx ⟨ma,mb,rfl,hbx⟩)
     have k2:=blk hbx k1
     have HBX:=Lib.hid (HBK.out.trans (hbx.mono hsk))
     have hsx:=Nat.le_trans hsk hbx.size
     clear k1 L2
     have ka:=hA1 wx (.cells #[.int .i64 ma,.int .i64 mb] 80)
     have hba:=hB1 wx (.cells #[.int .i64 ma,.int .i64 mb] 80)
     have HBA:=Lib.hid (HBX.out.trans (hba.mono hsx))
     replace k2:=blk hba k2
     clear HBX hba hbx HBK
     generalize wx.alloc (.cells #[.int .i64 ma,.int .i64 mb] 80)=wy at *
     by_cases h0:V2=0
     · have h0':(V2 != 0)=false:=by simp [h0]
       have HN:Hid (lstV V1 V2 V3 V4 2=V):=by
        rw [Hid,← HGO.out]
        simp only [lstV,h0]
        rfl
       clear h0
       go_wp2
       go_roundw
       case rel=>exact ⟨2,by decide,by go_num,HN.out,HBA.out⟩
       case measure=>decide
     · have h0':(V2 != 0)=true:=by simp [h0]
       have HN:Hid (V=V2):=by rw [Hid,← HGO.out];exact if_neg h0
       obtain ⟨r2,r3,q2,q3⟩:=zbr k2
       obtain ⟨s2,s3,t2,t3⟩:=zbr ka
       clear h0
       go_wp2
       refine bodyPost_ret (v:=.tuple #[.agg #[.int .i64 ma,.int .i64 mb],.int .i64 V2]) (by simp [results,Tryz.results16,go_sem,r2,r3]) rfl ⟨ma,mb,?_,?_⟩
       · rw [HN.out]
       · rw [HBW.out]
         exact (HB.out.trans (HBA.out.mono (by omega))).trans (zal _ _ (Nat.le_succ _))
    | 2,_ =>
     clear L1 L2 L4
     have ix:=fun W=>ix151_2 #[.pointer (some ⟨bw,0,none⟩)] W
     go_upto_region 8 with (fail)
     go_upto_region 9 with (go_at_call 57;refine L3.mono ?_;rintro e wx ⟨ma,mb,rfl,hbx⟩)
     have k2:=blk hbx k1
     have HBX:=Lib.hid (HBK.out.trans (hbx.mono hsk))
     have hsx:=Nat.le_trans hsk hbx.size
     clear k1 L3
     have ka:=hA1 wx (.cells #[.int .i64 ma,.int .i64 mb] 80)
     have hba:=hB1 wx (.cells #[.int .i64 ma,.int .i64 mb] 80)
     have HBA:=Lib.hid (HBX.out.trans (hba.mono hsx))
     replace k2:=blk hba k2
     clear HBX hba hbx HBK
     generalize wx.alloc (.cells #[.int .i64 ma,.int .i64 mb] 80)=wy at *
     by_cases h0:V3=0
     · have h0':(V3 != 0)=false:=by simp [h0]
       have HN:Hid (lstV V1 V2 V3 V4 3=V):=by
        rw [Hid,← HGO.out]
        simp only [lstV,h0]
        rfl
       clear h0
       go_wp2
       go_roundw
       case rel=>exact ⟨3,by decide,by go_num,HN.out,HBA.out⟩
       case measure=>decide
     · have h0':(V3 != 0)=true:=by simp [h0]
       have HN:Hid (V=V3):=by rw [Hid,← HGO.out];exact if_neg h0
       obtain ⟨r2,r3,q2,q3⟩:=zbr k2
       obtain ⟨s2,s3,t2,t3⟩:=zbr ka
       clear h0
       go_wp2
       refine bodyPost_ret (v:=.tuple #[.agg #[.int .i64 ma,.int .i64 mb],.int .i64 V3]) (by simp [results,Tryz.results16,go_sem,r2,r3]) rfl ⟨ma,mb,?_,?_⟩
       · rw [HN.out]
       · rw [HBW.out]
         exact (HB.out.trans (HBA.out.mono (by omega))).trans (zal _ _ (Nat.le_succ _))
    | 3,_ =>
     clear L1 L2 L3
     have ix:=fun W=>ix151_3 #[.pointer (some ⟨bw,0,none⟩)] W
     go_upto_region 8 with (fail)
     go_upto_region 9 with (go_at_call 62;refine L4.mono ?_;rintro e wx ⟨ma,mb,rfl,hbx⟩)
     have k2:=blk hbx k1
     have HBX:=Lib.hid (HBK.out.trans (hbx.mono hsk))
     have hsx:=Nat.le_trans hsk hbx.size
     clear k1 L4
     have ka:=hA1 wx (.cells #[.int .i64 ma,.int .i64 mb] 80)
     have hba:=hB1 wx (.cells #[.int .i64 ma,.int .i64 mb] 80)
     have HBA:=Lib.hid (HBX.out.trans (hba.mono hsx))
     replace k2:=blk hba k2
     clear HBX hba hbx HBK
     generalize wx.alloc (.cells #[.int .i64 ma,.int .i64 mb] 80)=wy at *
     by_cases h0:V4=0
     · have h0':(V4 != 0)=false:=by simp [h0]
       have HN:Hid (lstV V1 V2 V3 V4 4=V):=by
        rw [Hid,← HGO.out]
        simp only [lstV,h0]
        rfl
       clear h0
       go_wp2
       go_roundw
       case rel=>exact ⟨4,by decide,by go_num,HN.out,HBA.out⟩
       case measure=>decide
     · have h0':(V4 != 0)=true:=by simp [h0]
       have HN:Hid (V=V4):=by rw [Hid,← HGO.out];exact if_neg h0
       obtain ⟨r2,r3,q2,q3⟩:=zbr k2
       obtain ⟨s2,s3,t2,t3⟩:=zbr ka
       clear h0
       go_wp2
       refine bodyPost_ret (v:=.tuple #[.agg #[.int .i64 ma,.int .i64 mb],.int .i64 V4]) (by simp [results,Tryz.results16,go_sem,r2,r3]) rfl ⟨ma,mb,?_,?_⟩
       · rw [HN.out]
       · rw [HBW.out]
         exact (HB.out.trans (HBA.out.mono (by omega))).trans (zal _ _ (Nat.le_succ _))
    | 4,_ =>
     have HN1:Hid (V=0):=HGO.out.symm
     obtain ⟨r2,r3,q2,q3⟩:=zbr k1
     clear L1 L2 L3 L4
     go_wp2
     refine bodyPost_ret (v:=.tuple #[.agg #[.int .i64 0,.int .i64 0],.int .i64 0]) (by simp [results,Tryz.results16,go_sem, *]) rfl ⟨0,0,?_,?_⟩
     · rw [HN1.out]
     · rw [HBW.out]
       exact (HB.out.trans (HBK.out.mono (by omega))).trans (zal _ _ (Nat.le_succ _))
 · have HVV:Hid (V=E1):=by rw [Hid,HV.out,if_neg hE]
   have hE':(E1 != 0)=true:=by simp [hE]
   clear hE HV
   by_cases a1:0<ns <;> by_cases f1:(8:Int)<(ns:Int) <;> by_cases f2:(3:Int)<(nt:Int) <;> by_cases f3:(4:Int)<(nw:Int)
   all_goals try (exfalso;omega)
   all_goals
    have HE2:zbs ns nt nw nr=E1:=HE1.out
    simp only [zbs,a1,f1,f2,f3,decide_true,decide_false,Bool.true_and,Bool.false_and,Bool.true_or,Bool.false_or,Bool.or_true,Bool.or_false,Bool.not_true] at HE2
    have HE3:=Lib.hid HE2
    clear HE1 HE2
    go_upto_region 3 with (first | (go_at_call 52;refine (zb2 _ _ _).mono ?_;rintro e w' ⟨rfl,rfl⟩) | (go_at_call 51;refine (zdn _ _ _).mono ?_;rintro e w' ⟨he,rfl⟩;rw [HE3.out] at he;subst he))
    have HB2:∀ o,Below bw w (w0.alloc o):=fun o=>HB.out.alloc (by omega) o
    have K2:∀ o,(w0.alloc o).heap[bw+1]?=some (.cells #[.int .i64 0,.int .i64 0] 80 (0,0)):=fun o=>blk ((Below.refl _ _).alloc (Nat.le_refl _) o) k1
    generalize hw2:w0.alloc _=w2
    have hb2:Below bw w w2:=by rw [← hw2];exact HB2 _
    have k2:w2.heap[bw+1]?=some (.cells #[.int .i64 0,.int .i64 0] 80 (0,0)):=by rw [← hw2];exact K2 _
    obtain ⟨r2,r3,q2,q3⟩:=zbr k2
    have HB3:=Lib.hid hb2
    clear HB2 K2 hb2 hw2
    go_wp2
    refine bodyPost_ret (v:=.tuple #[.agg #[.int .i64 0,.int .i64 0],.int .i64 E1]) (by simp [results,Tryz.results16,go_sem,r2,r3]) rfl ⟨0,0,?_,?_⟩
    · rw [HVV.out]
    · rw [HBW.out]
      exact HB3.out.trans (zal _ _ (Nat.le_succ _))
end Go.Proofs.YtfdmeojcopkaoaaGreatDoor
