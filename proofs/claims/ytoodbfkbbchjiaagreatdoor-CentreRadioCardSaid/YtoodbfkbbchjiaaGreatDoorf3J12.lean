import Derived.Test.YtoodbfkbbchjiaaGreatDoorf3R4
import Derived.Test.YtoodbfkbbchjiaaGreatDoorf3Q1
import Derived.Test.YtoodbfkbbchjiaaGreatDoorf3S9
set_option maxRecDepth 100000
set_option maxHeartbeats 16000000
namespace Go.Proofs.YtoodbfkbbchjiaaGreatDoor
open Go.RowKit
def HsPost (w:World) (V:Int × Int × Int) (e:Ending) (w':World):Prop:=e=.returned (.tuple #[.agg #[.int .i64 V.1,.int .i64 V.2.1],.int .i64 V.2.2])∧Below w.heap.size w w'
theorem zlm (w:World) (B:Nat) (s d:SlV) (evs:List ByteArray) (acts:List Act) (h:zcs w B s evs.length (strCells evs)) (h2:zcs w B d acts.length (zb4 acts)) (hB:B≤w.heap.size) (hn:evs.length≤1000) (hn2:acts.length≤1000) (hcap:s.n≤s.c) (hz:∀ s∈evs,s.size≤20) :
 Calls Tryz.prog 43 #[.agg #[.slice s.A s.n s.c,.slice d.A d.n d.c]] w (zay w (netE evs acts)):=by
 have hb0:=hB1 w (.cells #[.slice s.A s.n s.c,.slice d.A d.n d.c] 42)
 have RT:Calls Tryz.prog 72 #[.agg #[.slice s.A s.n s.c,.slice d.A d.n d.c]] (w.alloc (.cells #[.slice s.A s.n s.c,.slice d.A d.n d.c] 42)) _:=
  zi0 (w.alloc (.cells #[.slice s.A s.n s.c,.slice d.A d.n d.c] 42)) B s.A d.A s.n s.c d.n d.c evs acts ⟨h.1,h2.1,h.2.keep hb0,h2.2.keep hb0,hz,hcap⟩ (Nat.le_trans hB hb0.size) (by rw [← h.1];omega) (by rw [← h2.1];omega)
 generalize netE evs acts=V at *
 have k0:=hA1 w (.cells #[.slice s.A s.n s.c,.slice d.A d.n d.c] 42)
 have HB:=Lib.hid hb0
 have hs0:=hb0.size
 clear hb0 h h2 hB
 go_enter Tryz.func43,Tryz.ntmps43
 go_upto_region 1 with (fail)
 generalize (w.alloc (.cells #[.slice s.A s.n s.c,.slice d.A d.n d.c] 42))=w0 at *
 generalize hbw:w.heap.size=bw at *
 have HBW:=Lib.hid hbw
 clear hbw
 obtain ⟨d0,d1⟩:_∧_:=zaz k0
 go_wp2_with (go_at_call 72;refine RT.mono ?_;rintro e wa ⟨ma,mb,rfl,hb1⟩)
 go_ret
 exact ⟨rfl,by rw [HBW.out];exact HB.out.trans ((hb1.mono hs0).alloc (Nat.le_trans hs0 hb1.size) _)⟩
theorem refHouse_any (w:World) (B:Nat) (h:HouseV) (H:HouseAt w B h) (hS:HouseS h) (hz:∀ s∈h.evs,s.size≤20) (hB:B≤w.heap.size):Calls Tryz.prog 21 #[.agg (zah h).toArray] w (HsPost w (zcg h)):=by
 obtain ⟨plant,net,vanes,tn,ps,pcs,sys,es,evs,acs,acts,ms,masts,⟨Ap,np,cp⟩,people⟩:=h
 show Calls Tryz.prog 21 #[.agg #[.slice plant.ss.A plant.ss.n plant.ss.c,.slice plant.ts.A plant.ts.n plant.ts.c,.slice plant.ws.A plant.ws.n plant.ws.c,.slice plant.rs.A plant.rs.n plant.rs.c,.slice net.ss.A net.ss.n net.ss.c,.slice net.fs.A net.fs.n net.fs.c,.slice net.ts.A net.ts.n net.ts.c,.slice vanes.vs.A vanes.vs.n vanes.vs.c,.int .i64 vanes.window,.int .i64 vanes.tooth,.int .i64 vanes.per,.int .i64 vanes.first,.int .i64 vanes.modulus,.int .i64 vanes.slack,.int .i64 vanes.errors,.bool vanes.round,.string tn,.slice ps.A ps.n ps.c,.int .i64 sys.brake,.int .i64 sys.drag,.int .i64 sys.drive,.slice es.A es.n es.c,.slice acs.A acs.n acs.c,.slice ms.A ms.n ms.c,.slice Ap np cp]] w _
 have k0:((w.alloc (.cells #[.slice plant.ss.A plant.ss.n plant.ss.c,.slice plant.ts.A plant.ts.n plant.ts.c,.slice plant.ws.A plant.ws.n plant.ws.c,.slice plant.rs.A plant.rs.n plant.rs.c,.slice net.ss.A net.ss.n net.ss.c,.slice net.fs.A net.fs.n net.fs.c,.slice net.ts.A net.ts.n net.ts.c,.slice vanes.vs.A vanes.vs.n vanes.vs.c,.int .i64 vanes.window,.int .i64 vanes.tooth,.int .i64 vanes.per,.int .i64 vanes.first,.int .i64 vanes.modulus,.int .i64 vanes.slack,.int .i64 vanes.errors,.bool vanes.round,.string tn,.slice ps.A ps.n ps.c,.int .i64 sys.brake,.int .i64 sys.drag,.int .i64 sys.drive,.slice es.A es.n es.c,.slice acs.A acs.n acs.c,.slice ms.A ms.n ms.c,.slice Ap np cp] 45)).alloc (.cells #[.int .i64 0,.int .i64 0] 85)).heap[w.heap.size]?=some (.cells #[.slice plant.ss.A plant.ss.n plant.ss.c,.slice plant.ts.A plant.ts.n plant.ts.c,.slice plant.ws.A plant.ws.n plant.ws.c,.slice plant.rs.A plant.rs.n plant.rs.c,.slice net.ss.A net.ss.n net.ss.c,.slice net.fs.A net.fs.n net.fs.c,.slice net.ts.A net.ts.n net.ts.c,.slice vanes.vs.A vanes.vs.n vanes.vs.c,.int .i64 vanes.window,.int .i64 vanes.tooth,.int .i64 vanes.per,.int .i64 vanes.first,.int .i64 vanes.modulus,.int .i64 vanes.slack,.int .i64 vanes.errors,.bool vanes.round,.string tn,.slice ps.A ps.n ps.c,.int .i64 sys.brake,.int .i64 sys.drag,.int .i64 sys.drive,.slice es.A es.n es.c,.slice acs.A acs.n acs.c,.slice ms.A ms.n ms.c,.slice Ap np cp] 45 (0,0)):=by
  rw [zae,if_neg (by simp),zae,if_pos rfl]
 have k1:((w.alloc (.cells #[.slice plant.ss.A plant.ss.n plant.ss.c,.slice plant.ts.A plant.ts.n plant.ts.c,.slice plant.ws.A plant.ws.n plant.ws.c,.slice plant.rs.A plant.rs.n plant.rs.c,.slice net.ss.A net.ss.n net.ss.c,.slice net.fs.A net.fs.n net.fs.c,.slice net.ts.A net.ts.n net.ts.c,.slice vanes.vs.A vanes.vs.n vanes.vs.c,.int .i64 vanes.window,.int .i64 vanes.tooth,.int .i64 vanes.per,.int .i64 vanes.first,.int .i64 vanes.modulus,.int .i64 vanes.slack,.int .i64 vanes.errors,.bool vanes.round,.string tn,.slice ps.A ps.n ps.c,.int .i64 sys.brake,.int .i64 sys.drag,.int .i64 sys.drive,.slice es.A es.n es.c,.slice acs.A acs.n acs.c,.slice ms.A ms.n ms.c,.slice Ap np cp] 45)).alloc (.cells #[.int .i64 0,.int .i64 0] 85)).heap[w.heap.size+1]?=some (.cells #[.int .i64 0,.int .i64 0] 85 (0,0)):=by
  rw [zae,if_pos (by simp)]
 have hb0:=hB2 w (.cells #[.slice plant.ss.A plant.ss.n plant.ss.c,.slice plant.ts.A plant.ts.n plant.ts.c,.slice plant.ws.A plant.ws.n plant.ws.c,.slice plant.rs.A plant.rs.n plant.rs.c,.slice net.ss.A net.ss.n net.ss.c,.slice net.fs.A net.fs.n net.fs.c,.slice net.ts.A net.ts.n net.ts.c,.slice vanes.vs.A vanes.vs.n vanes.vs.c,.int .i64 vanes.window,.int .i64 vanes.tooth,.int .i64 vanes.per,.int .i64 vanes.first,.int .i64 vanes.modulus,.int .i64 vanes.slack,.int .i64 vanes.errors,.bool vanes.round,.string tn,.slice ps.A ps.n ps.c,.int .i64 sys.brake,.int .i64 sys.drag,.int .i64 sys.drive,.slice es.A es.n es.c,.slice acs.A acs.n acs.c,.slice ms.A ms.n ms.c,.slice Ap np cp] 45) (.cells #[.int .i64 0,.int .i64 0] 85)
 have hs:=hS2 w (.cells #[.slice plant.ss.A plant.ss.n plant.ss.c,.slice plant.ts.A plant.ts.n plant.ts.c,.slice plant.ws.A plant.ws.n plant.ws.c,.slice plant.rs.A plant.rs.n plant.rs.c,.slice net.ss.A net.ss.n net.ss.c,.slice net.fs.A net.fs.n net.fs.c,.slice net.ts.A net.ts.n net.ts.c,.slice vanes.vs.A vanes.vs.n vanes.vs.c,.int .i64 vanes.window,.int .i64 vanes.tooth,.int .i64 vanes.per,.int .i64 vanes.first,.int .i64 vanes.modulus,.int .i64 vanes.slack,.int .i64 vanes.errors,.bool vanes.round,.string tn,.slice ps.A ps.n ps.c,.int .i64 sys.brake,.int .i64 sys.drag,.int .i64 sys.drive,.slice es.A es.n es.c,.slice acs.A acs.n acs.c,.slice ms.A ms.n ms.c,.slice Ap np cp] 45) (.cells #[.int .i64 0,.int .i64 0] 85)
 have HH:=Lib.hid ((H.keep hb0).mono hB)
 have HS:=Lib.hid hS
 have HZ:=Lib.hid hz
 have HB:=Lib.hid hb0
 obtain ⟨E1,hE1⟩:∃ E,zb7 plant=E:=⟨_,rfl⟩
 obtain ⟨E2,hE2⟩:∃ E,zfp net=E:=⟨_,rfl⟩
 obtain ⟨E3,hE3⟩:∃ E,zj2 vanes=E:=⟨_,rfl⟩
 obtain ⟨E4,hE4⟩:∃ E,zeb tn pcs=E:=⟨_,rfl⟩
 obtain ⟨E5,hE5⟩:∃ E,zj4 sys=E:=⟨_,rfl⟩
 obtain ⟨E6,hE6⟩:∃ E,netE evs acts=E:=⟨_,rfl⟩
 obtain ⟨⟨N7,E7⟩,hE7⟩:∃ E,zdh 6 nmE masts=E:=⟨_,rfl⟩
 obtain ⟨⟨N8,E8⟩,hE8⟩:∃ E,zdh 12 zio people=E:=⟨_,rfl⟩
 obtain ⟨bc,hbc⟩:∃ b,(people.any fun p=>decide (p.2=3))=b:=⟨_,rfl⟩
 obtain ⟨V,hV⟩:∃ V,zcg ⟨plant,net,vanes,tn,ps,pcs,sys,es,evs,acs,acts,ms,masts,⟨Ap,np,cp⟩,people⟩=V:=⟨_,rfl⟩
 rw [hV]
 have HV:Hid (V=if E1≠0 then (1,0,E1) else if E2≠0 then (2,0,E2) else if E3≠0 then (3,0,E3) else if E4≠0 then (4,0,E4) else if E5≠0 then (5,0,E5) else if E6≠0 then (6,0,E6) else if E7≠0 then (7,N7,E7) else if E8≠0 then (8,N8,E8) else (0,0,zag bc 12)):=by
  rw [Hid,← hV,zcg]
  simp only [hE1,hE2,hE3,hE4,hE5,hE6,hE7,hE8,hbc]
 have HE1:=Lib.hid hE1
 have HE2:=Lib.hid hE2
 have HE3:=Lib.hid hE3
 have HE4:=Lib.hid hE4
 have HE5:=Lib.hid hE5
 have HE6:=Lib.hid hE6
 have HE7:=Lib.hid hE7
 have HE8:=Lib.hid hE8
 have HBC:=Lib.hid hbc
 clear hb0 H hS hz hV hE1 hE2 hE3 hE4 hE5 hE6 hE7 hE8 hbc
 go_enter Tryz.func21,Tryz.ntmps21
 go_upto_region 1 with (fail)
 generalize ((w.alloc (.cells #[.slice plant.ss.A plant.ss.n plant.ss.c,.slice plant.ts.A plant.ts.n plant.ts.c,.slice plant.ws.A plant.ws.n plant.ws.c,.slice plant.rs.A plant.rs.n plant.rs.c,.slice net.ss.A net.ss.n net.ss.c,.slice net.fs.A net.fs.n net.fs.c,.slice net.ts.A net.ts.n net.ts.c,.slice vanes.vs.A vanes.vs.n vanes.vs.c,.int .i64 vanes.window,.int .i64 vanes.tooth,.int .i64 vanes.per,.int .i64 vanes.first,.int .i64 vanes.modulus,.int .i64 vanes.slack,.int .i64 vanes.errors,.bool vanes.round,.string tn,.slice ps.A ps.n ps.c,.int .i64 sys.brake,.int .i64 sys.drag,.int .i64 sys.drive,.slice es.A es.n es.c,.slice acs.A acs.n acs.c,.slice ms.A ms.n ms.c,.slice Ap np cp] 45)).alloc (.cells #[.int .i64 0,.int .i64 0] 85))=w0 at *
 generalize hbw:w.heap.size=bw at *
 have HBW:=Lib.hid hbw
 clear hbw
 have d0:=(cell_of_row w0 _ 0 _ _ _ k0).trans (by rfl:_=some (.slice plant.ss.A plant.ss.n plant.ss.c))
 have d1:=(cell_of_row w0 _ 1 _ _ _ k0).trans (by rfl:_=some (.slice plant.ts.A plant.ts.n plant.ts.c))
 have d2:=(cell_of_row w0 _ 2 _ _ _ k0).trans (by rfl:_=some (.slice plant.ws.A plant.ws.n plant.ws.c))
 have d3:=(cell_of_row w0 _ 3 _ _ _ k0).trans (by rfl:_=some (.slice plant.rs.A plant.rs.n plant.rs.c))
 have RT:Calls Tryz.prog 38 #[.agg #[.slice plant.ss.A plant.ss.n plant.ss.c,.slice plant.ts.A plant.ts.n plant.ts.c,.slice plant.ws.A plant.ws.n plant.ws.c,.slice plant.rs.A plant.rs.n plant.rs.c]] w0 (zay w0 E1):=by
  have h9:=ziz w0 bw plant HH.out.plant HS.out.plant (by omega)
  rw [HE1.out] at h9
  exact h9
 go_upto_region 2 with (go_at_call 38;refine RT.mono ?_;rintro e v1 ⟨rfl,hb⟩)
 clear RT d0 d1 d2 d3
 replace k0:=blk hb k0
 replace k1:=blk hb k1
 replace HB:=Lib.hid (HB.out.trans (hb.mono (by omega)))
 replace HH:=Lib.hid (HH.out.belowC (hb.mono (by omega)))
 replace hs:=Nat.le_trans hs hb.size
 clear hb
 by_cases h1:E1≠0
 · have HN:Hid (V=(1,0,E1)):=by rw [Hid,HV.out,if_pos h1]
   have h':(E1 != 0)=true:=by simp [h1]
   clear h1
   obtain ⟨r2,r3,q2,q3⟩:=zbu k1
   go_wp2
   refine bodyPost_ret (v:=.tuple #[.agg #[.int .i64 1,.int .i64 0],.int .i64 E1]) (by simp [results,Tryz.results21,go_sem,r2,r3]) rfl ⟨?_,?_⟩
   · rw [HN.out]
   · rw [HBW.out]
     exact (HB.out).trans (zal _ _ (Nat.le_succ _))
 replace h1:=Classical.not_not.1 h1
 have g1:(E1 != 0)=false:=by simp [h1]
 have HG1:=Lib.hid h1
 clear h1
 have d4:=(cell_of_row v1 _ 4 _ _ _ k0).trans (by rfl:_=some (.slice net.ss.A net.ss.n net.ss.c))
 have d5:=(cell_of_row v1 _ 5 _ _ _ k0).trans (by rfl:_=some (.slice net.fs.A net.fs.n net.fs.c))
 have d6:=(cell_of_row v1 _ 6 _ _ _ k0).trans (by rfl:_=some (.slice net.ts.A net.ts.n net.ts.c))
 have RT:Calls Tryz.prog 39 #[.agg #[.slice net.ss.A net.ss.n net.ss.c,.slice net.fs.A net.fs.n net.fs.c,.slice net.ts.A net.ts.n net.ts.c]] v1 (zay v1 E2):=by
  have h9:=zlq v1 bw net HH.out.net HS.out.net (by omega)
  rw [HE2.out] at h9
  exact h9
 go_upto_region 5 with (go_at_call 39;refine RT.mono ?_;rintro e v2 ⟨rfl,hb⟩)
 clear RT d4 d5 d6
 replace k0:=blk hb k0
 replace k1:=blk hb k1
 replace HB:=Lib.hid (HB.out.trans (hb.mono (by omega)))
 replace HH:=Lib.hid (HH.out.belowC (hb.mono (by omega)))
 replace hs:=Nat.le_trans hs hb.size
 clear hb
 by_cases h2:E2≠0
 · have HN:Hid (V=(2,0,E2)):=by rw [Hid,HV.out,if_neg (fun h=>h HG1.out),if_pos h2]
   have h':(E2 != 0)=true:=by simp [h2]
   clear h2
   obtain ⟨r2,r3,q2,q3⟩:=zbu k1
   go_wp2
   refine bodyPost_ret (v:=.tuple #[.agg #[.int .i64 2,.int .i64 0],.int .i64 E2]) (by simp [results,Tryz.results21,go_sem,r2,r3]) rfl ⟨?_,?_⟩
   · rw [HN.out]
   · rw [HBW.out]
     exact (HB.out).trans (zal _ _ (Nat.le_succ _))
 replace h2:=Classical.not_not.1 h2
 have g2:(E2 != 0)=false:=by simp [h2]
 have HG2:=Lib.hid h2
 clear h2
 have d7:=(cell_of_row v2 _ 7 _ _ _ k0).trans (by rfl:_=some (.slice vanes.vs.A vanes.vs.n vanes.vs.c))
 have d8:=(cell_of_row v2 _ 8 _ _ _ k0).trans (by rfl:_=some (.int .i64 vanes.window))
 have d9:=(cell_of_row v2 _ 9 _ _ _ k0).trans (by rfl:_=some (.int .i64 vanes.tooth))
 have d10:=(cell_of_row v2 _ 10 _ _ _ k0).trans (by rfl:_=some (.int .i64 vanes.per))
 have d11:=(cell_of_row v2 _ 11 _ _ _ k0).trans (by rfl:_=some (.int .i64 vanes.first))
 have d12:=(cell_of_row v2 _ 12 _ _ _ k0).trans (by rfl:_=some (.int .i64 vanes.modulus))
 have d13:=(cell_of_row v2 _ 13 _ _ _ k0).trans (by rfl:_=some (.int .i64 vanes.slack))
 have d14:=(cell_of_row v2 _ 14 _ _ _ k0).trans (by rfl:_=some (.int .i64 vanes.errors))
 have d15:=(cell_of_row v2 _ 15 _ _ _ k0).trans (by rfl:_=some (.bool vanes.round))
 have RT:Calls Tryz.prog 40 #[.agg #[.slice vanes.vs.A vanes.vs.n vanes.vs.c,.int .i64 vanes.window,.int .i64 vanes.tooth,.int .i64 vanes.per,.int .i64 vanes.first,.int .i64 vanes.modulus,.int .i64 vanes.slack,.int .i64 vanes.errors,.bool vanes.round]] v2 (zay v2 E3):=by
  have h9:=zix v2 bw vanes HH.out.vanes (by omega) HS.out.vanes
  rw [HE3.out] at h9
  exact h9
 go_upto_region 8 with (go_at_call 40;refine RT.mono ?_;rintro e v3 ⟨rfl,hb⟩)
 clear RT d7 d8 d9 d10 d11 d12 d13 d14 d15
 replace k0:=blk hb k0
 replace k1:=blk hb k1
 replace HB:=Lib.hid (HB.out.trans (hb.mono (by omega)))
 replace HH:=Lib.hid (HH.out.belowC (hb.mono (by omega)))
 replace hs:=Nat.le_trans hs hb.size
 clear hb
 by_cases h3:E3≠0
 · have HN:Hid (V=(3,0,E3)):=by rw [Hid,HV.out,if_neg (fun h=>h HG1.out),if_neg (fun h=>h HG2.out),if_pos h3]
   have h':(E3 != 0)=true:=by simp [h3]
   clear h3
   obtain ⟨r2,r3,q2,q3⟩:=zbu k1
   go_wp2
   refine bodyPost_ret (v:=.tuple #[.agg #[.int .i64 3,.int .i64 0],.int .i64 E3]) (by simp [results,Tryz.results21,go_sem,r2,r3]) rfl ⟨?_,?_⟩
   · rw [HN.out]
   · rw [HBW.out]
     exact (HB.out).trans (zal _ _ (Nat.le_succ _))
 replace h3:=Classical.not_not.1 h3
 have g3:(E3 != 0)=false:=by simp [h3]
 have HG3:=Lib.hid h3
 clear h3
 have d16:=(cell_of_row v3 _ 16 _ _ _ k0).trans (by rfl:_=some (.string tn))
 have d17:=(cell_of_row v3 _ 17 _ _ _ k0).trans (by rfl:_=some (.slice ps.A ps.n ps.c))
 have RT:Calls Tryz.prog 41 #[.agg #[.string tn,.slice ps.A ps.n ps.c]] v3 (zay v3 E4):=by
  have h9:=ziy v3 bw tn ps pcs HH.out.pcs (by omega) HS.out.pcs HS.out.tn
  rw [HE4.out] at h9
  exact h9
 go_upto_region 11 with (go_at_call 41;refine RT.mono ?_;rintro e v4 ⟨rfl,hb⟩)
 clear RT d16 d17
 replace k0:=blk hb k0
 replace k1:=blk hb k1
 replace HB:=Lib.hid (HB.out.trans (hb.mono (by omega)))
 replace HH:=Lib.hid (HH.out.belowC (hb.mono (by omega)))
 replace hs:=Nat.le_trans hs hb.size
 clear hb
 by_cases h4:E4≠0
 · have HN:Hid (V=(4,0,E4)):=by rw [Hid,HV.out,if_neg (fun h=>h HG1.out),if_neg (fun h=>h HG2.out),if_neg (fun h=>h HG3.out),if_pos h4]
   have h':(E4 != 0)=true:=by simp [h4]
   clear h4
   obtain ⟨r2,r3,q2,q3⟩:=zbu k1
   go_wp2
   refine bodyPost_ret (v:=.tuple #[.agg #[.int .i64 4,.int .i64 0],.int .i64 E4]) (by simp [results,Tryz.results21,go_sem,r2,r3]) rfl ⟨?_,?_⟩
   · rw [HN.out]
   · rw [HBW.out]
     exact (HB.out).trans (zal _ _ (Nat.le_succ _))
 replace h4:=Classical.not_not.1 h4
 have g4:(E4 != 0)=false:=by simp [h4]
 have HG4:=Lib.hid h4
 clear h4
 have d18:=(cell_of_row v4 _ 18 _ _ _ k0).trans (by rfl:_=some (.int .i64 sys.brake))
 have d19:=(cell_of_row v4 _ 19 _ _ _ k0).trans (by rfl:_=some (.int .i64 sys.drag))
 have d20:=(cell_of_row v4 _ 20 _ _ _ k0).trans (by rfl:_=some (.int .i64 sys.drive))
 have RT:Calls Tryz.prog 42 #[.agg #[.int .i64 sys.brake,.int .i64 sys.drag,.int .i64 sys.drive]] v4 (zay v4 E5):=by
  have h9:=zln v4 sys
  rw [HE5.out] at h9
  exact h9
 go_upto_region 14 with (go_at_call 42;refine RT.mono ?_;rintro e v5 ⟨rfl,hb⟩)
 clear RT d18 d19 d20
 replace k0:=blk hb k0
 replace k1:=blk hb k1
 replace HB:=Lib.hid (HB.out.trans (hb.mono (by omega)))
 replace HH:=Lib.hid (HH.out.belowC (hb.mono (by omega)))
 replace hs:=Nat.le_trans hs hb.size
 clear hb
 by_cases h5:E5≠0
 · have HN:Hid (V=(5,0,E5)):=by rw [Hid,HV.out,if_neg (fun h=>h HG1.out),if_neg (fun h=>h HG2.out),if_neg (fun h=>h HG3.out),if_neg (fun h=>h HG4.out),if_pos h5]
   have h':(E5 != 0)=true:=by simp [h5]
   clear h5
   obtain ⟨r2,r3,q2,q3⟩:=zbu k1
   go_wp2
   refine bodyPost_ret (v:=.tuple #[.agg #[.int .i64 5,.int .i64 0],.int .i64 E5]) (by simp [results,Tryz.results21,go_sem,r2,r3]) rfl ⟨?_,?_⟩
   · rw [HN.out]
   · rw [HBW.out]
     exact (HB.out).trans (zal _ _ (Nat.le_succ _))
 replace h5:=Classical.not_not.1 h5
 have g5:(E5 != 0)=false:=by simp [h5]
 have HG5:=Lib.hid h5
 clear h5
 have d21:=(cell_of_row v5 _ 21 _ _ _ k0).trans (by rfl:_=some (.slice es.A es.n es.c))
 have d22:=(cell_of_row v5 _ 22 _ _ _ k0).trans (by rfl:_=some (.slice acs.A acs.n acs.c))
 have RT:Calls Tryz.prog 43 #[.agg #[.slice es.A es.n es.c,.slice acs.A acs.n acs.c]] v5 (zay v5 E6):=by
  have h9:=zlm v5 bw es acs evs acts HH.out.evs HH.out.acts (by omega) HS.out.evs.1 HS.out.acts HH.out.cap.1 HZ.out
  rw [HE6.out] at h9
  exact h9
 go_upto_region 17 with (go_at_call 43;refine RT.mono ?_;rintro e v6 ⟨rfl,hb⟩)
 clear RT d21 d22
 replace k0:=blk hb k0
 replace k1:=blk hb k1
 replace HB:=Lib.hid (HB.out.trans (hb.mono (by omega)))
 replace HH:=Lib.hid (HH.out.belowC (hb.mono (by omega)))
 replace hs:=Nat.le_trans hs hb.size
 clear hb
 by_cases h6:E6≠0
 · have HN:Hid (V=(6,0,E6)):=by rw [Hid,HV.out,if_neg (fun h=>h HG1.out),if_neg (fun h=>h HG2.out),if_neg (fun h=>h HG3.out),if_neg (fun h=>h HG4.out),if_neg (fun h=>h HG5.out),if_pos h6]
   have h':(E6 != 0)=true:=by simp [h6]
   clear h6
   obtain ⟨r2,r3,q2,q3⟩:=zbu k1
   go_wp2
   refine bodyPost_ret (v:=.tuple #[.agg #[.int .i64 6,.int .i64 0],.int .i64 E6]) (by simp [results,Tryz.results21,go_sem,r2,r3]) rfl ⟨?_,?_⟩
   · rw [HN.out]
   · rw [HBW.out]
     exact (HB.out).trans (zal _ _ (Nat.le_succ _))
 replace h6:=Classical.not_not.1 h6
 have g6:(E6 != 0)=false:=by simp [h6]
 have HG6:=Lib.hid h6
 clear h6
 have d23:=(cell_of_row v6 _ 23 _ _ _ k0).trans (by rfl:_=some (.slice ms.A ms.n ms.c))
 have RT:Calls Tryz.prog 44 #[.slice ms.A ms.n ms.c] v6 (fun e w'=>e=.returned (.tuple #[.int .i64 N7,.int .i64 E7])∧Below v6.heap.size v6 w'):=by
  have h9:=refMasts_any v6 bw ms.A ms.n ms.c masts HH.out.masts.1 HH.out.masts.2 (by omega) (by have h2:masts.length=ms.n:=HH.out.masts.1;have:=HS.out.masts.1;simp only at this;omega) HH.out.cap.2.1 HS.out.masts.2
  rw [HE7.out] at h9
  exact h9
 go_upto_region 20 with (go_at_call 44;refine RT.mono ?_;rintro e v7 ⟨rfl,hb⟩)
 clear RT d23
 replace k0:=blk hb k0
 replace k1:=blk hb k1
 replace HB:=Lib.hid (HB.out.trans (hb.mono (by omega)))
 replace HH:=Lib.hid (HH.out.belowC (hb.mono (by omega)))
 replace hs:=Nat.le_trans hs hb.size
 clear hb
 by_cases h7:E7≠0
 · have HN:Hid (V=(7,N7,E7)):=by rw [Hid,HV.out,if_neg (fun h=>h HG1.out),if_neg (fun h=>h HG2.out),if_neg (fun h=>h HG3.out),if_neg (fun h=>h HG4.out),if_neg (fun h=>h HG5.out),if_neg (fun h=>h HG6.out),if_pos h7]
   have h':(E7 != 0)=true:=by simp [h7]
   clear h7
   obtain ⟨r2,r3,q2,q3⟩:=zbu k1
   go_wp2
   refine bodyPost_ret (v:=.tuple #[.agg #[.int .i64 7,.int .i64 N7],.int .i64 E7]) (by simp [results,Tryz.results21,go_sem,r2,r3]) rfl ⟨?_,?_⟩
   · rw [HN.out]
   · rw [HBW.out]
     exact (HB.out).trans (zal _ _ (Nat.le_succ _))
 replace h7:=Classical.not_not.1 h7
 have g7:(E7 != 0)=false:=by simp [h7]
 have HG7:=Lib.hid h7
 clear h7
 have d24:=(cell_of_row v7 _ 24 _ _ _ k0).trans (by rfl:_=some (.slice Ap np cp))
 have RT:Calls Tryz.prog 45 #[.slice Ap np cp] v7 (fun e w'=>e=.returned (.tuple #[.int .i64 N8,.int .i64 E8])∧Below v7.heap.size v7 w'):=by
  have h9:=zlp v7 bw Ap np cp people HH.out.people.1 HH.out.people.2 (by omega) (by have h2:people.length=np:=HH.out.people.1;have:=HS.out.people.1;simp only at this;omega) HS.out.people.2
  rw [HE8.out] at h9
  exact h9
 go_upto_region 23 with (go_at_call 45;refine RT.mono ?_;rintro e v8 ⟨rfl,hb⟩)
 clear RT d24
 replace k0:=blk hb k0
 replace k1:=blk hb k1
 replace HB:=Lib.hid (HB.out.trans (hb.mono (by omega)))
 replace HH:=Lib.hid (HH.out.belowC (hb.mono (by omega)))
 replace hs:=Nat.le_trans hs hb.size
 clear hb
 by_cases h8:E8≠0
 · have HN:Hid (V=(8,N8,E8)):=by rw [Hid,HV.out,if_neg (fun h=>h HG1.out),if_neg (fun h=>h HG2.out),if_neg (fun h=>h HG3.out),if_neg (fun h=>h HG4.out),if_neg (fun h=>h HG5.out),if_neg (fun h=>h HG6.out),if_neg (fun h=>h HG7.out),if_pos h8]
   have h':(E8 != 0)=true:=by simp [h8]
   clear h8
   obtain ⟨r2,r3,q2,q3⟩:=zbu k1
   go_wp2
   refine bodyPost_ret (v:=.tuple #[.agg #[.int .i64 8,.int .i64 N8],.int .i64 E8]) (by simp [results,Tryz.results21,go_sem,r2,r3]) rfl ⟨?_,?_⟩
   · rw [HN.out]
   · rw [HBW.out]
     exact (HB.out).trans (zal _ _ (Nat.le_succ _))
 replace h8:=Classical.not_not.1 h8
 have g8:(E8 != 0)=false:=by simp [h8]
 have HG8:=Lib.hid h8
 clear h8
 have HN:Hid (V=(0,0,zag bc 12)):=by rw [Hid,HV.out,if_neg (fun h=>h HG1.out),if_neg (fun h=>h HG2.out),if_neg (fun h=>h HG3.out),if_neg (fun h=>h HG4.out),if_neg (fun h=>h HG5.out),if_neg (fun h=>h HG6.out),if_neg (fun h=>h HG7.out),if_neg (fun h=>h HG8.out)]
 have hpl:people.length=np:=HH.out.people.1
 have hpn:people.length≤1000:=HS.out.people.1
 rw [hpl] at hpn
 have HPL:=Lib.hid hpl
 have d24:=(cell_of_row v8 _ 24 _ _ _ k0).trans (by rfl:_=some (.slice Ap np cp))
 have HR:=HH.out.people.2
 clear hpl HV
 go_wp2
 clear g1 g2 g3 g4 g5 g6 g7 g8
 go_loop [14] (fun u=>∃ k:Nat,k≤np∧u=.int .i64 k∧((people.drop k).any fun p=>decide (p.2=3))=bc) (fun u=>np - (intOf u).toNat)
 case atStart=>exact ⟨0,Nat.zero_le _,rfl,HBC.out⟩
 case round =>
  clear HBC
  obtain ⟨k,hk,rfl,he⟩:=hrel
  have HE:=Lib.hid he
  clear he
  by_cases hlt:k<np
  · have hkl:k<people.length:=by rw [HPL.out];exact hlt
    obtain ⟨⟨nm,ro⟩,hev⟩:∃ ev,people[k]?=some ev:=⟨_,List.getElem?_eq_getElem hkl⟩
    obtain ⟨bb,off,hA,hbB,z0,z1⟩:=Rd.sw HR hev
    cases hA
    simp only at z1
    have HS3:=Lib.hid (za9 hev)
    clear hkl hev z0
    by_cases hr:ro=3
    · have HB3:Hid (bc=true):=by rw [Hid,← HE.out,HS3.out,List.any_cons];simp [hr]
      have HN2:Hid (V=(0,0,0)):=by rw [Hid,HN.out,HB3.out];rfl
      replace HN:=HN2
      subst hr
      obtain ⟨r2,r3,q2,q3⟩:=zbu k1
      go_wp2
      refine bodyPost_ret (v:=.tuple #[.agg #[.int .i64 0,.int .i64 0],.int .i64 0]) (by simp [results,Tryz.results21,go_sem,r2,r3]) rfl ⟨?_,?_⟩
      · rw [HN.out]
      · rw [HBW.out]
        exact (HB.out).trans (zal _ _ (Nat.le_succ _))
    · have hr1:(ro == 3)=false:=by simp [hr]
      have HN3:Hid (((people.drop (k+1)).any fun p=>decide (p.2=3))=bc):=by
       have h9:=HE.out
       rw [HS3.out,List.any_cons] at h9
       rw [Hid]
       simpa [hr] using h9
      clear hr HE
      go_wp2
      go_round
      case rel=>exact ⟨k+1,by omega,by go_num,HN3.out⟩
      case measure=>simp [intOf];omega
  · have HB3:Hid (bc=false):=by
     rw [Hid,← HE.out,List.drop_eq_nil_iff.2 (by rw [HPL.out];omega)]
     rfl
    have HN2:Hid (V=(0,0,12)):=by rw [Hid,HN.out,HB3.out];rfl
    replace HN:=HN2
    obtain ⟨r2,r3,q2,q3⟩:=zbu k1
    go_wp2
    refine bodyPost_ret (v:=.tuple #[.agg #[.int .i64 0,.int .i64 0],.int .i64 12]) (by simp [results,Tryz.results21,go_sem,r2,r3]) rfl ⟨?_,?_⟩
    · rw [HN.out]
    · rw [HBW.out]
      exact (HB.out).trans (zal _ _ (Nat.le_succ _))
theorem HouseErr_any (w:World) (B:Nat) (h:HouseV) (H:HouseAt w B h) (hS:HouseS h) (hz:∀ s∈h.evs,s.size≤20) (hB:B≤w.heap.size):Calls Tryz.prog 6 #[.agg (zah h).toArray] w (zay w (zcg h).2.2):=by
 obtain ⟨V,hV⟩:∃ V,zcg h=V:=⟨_,rfl⟩
 obtain ⟨n1,n2,n3⟩:=V
 rw [hV]
 have hb0:=hB1 w (.cells (zah h).toArray 45)
 have k0:=hA1 w (.cells (zah h).toArray 45)
 have hs0:=hS1 w (.cells (zah h).toArray 45)
 have RF:=refHouse_any (w.alloc (.cells (zah h).toArray 45)) B h (H.keep hb0) hS hz (Nat.le_trans hB hb0.size)
 rw [hV] at RF
 have HB:=Lib.hid hb0
 clear hb0 H hS hz hV
 go_enter Tryz.func6,Tryz.ntmps6
 go_upto_region 1 with (fail)
 generalize w.alloc (.cells (zah h).toArray 45)=w0 at *
 generalize hbw:w.heap.size=bw at *
 have HBW:=Lib.hid hbw
 clear hbw
 go_wp2_with (with_reducible refine zaw 45 ?_)
 unfold Stp
 refine wpList_load_row rfl 45 _ rfl bw rfl 45 _ (0,0) _ k0 Tryz.underlying45 rfl (by kernel_rfl) ?_
 go_wp2_with (first | (go_at_call 21;refine RF.mono ?_;rintro e w1 ⟨rfl,hb⟩) | (with_reducible refine zas 85 ?_))
 have hba:=hB1 w1 (.cells #[.int .i64 0,.int .i64 0] 85)
 have k3:=hA1 w1 (.cells #[.int .i64 0,.int .i64 0] 85)
 unfold Stp
 refine wpList_store_row rfl 85 _ _ rfl w1.heap.size #[.int .i64 n1,.int .i64 n2] rfl rfl 85 _ k3 (by kernel_rfl) rfl (by kernel_rfl) ?_
 have hb4:Below w0.heap.size w0 ((w1.alloc (.cells #[.int .i64 0,.int .i64 0] 85)).setRow w1.heap.size #[.int .i64 n1,.int .i64 n2]):=below_setRow (hb.trans (hba.mono hb.size)) hb.size _
 clear k3 hba RF
 go_upto_region 2 with (fail)
 generalize (w1.alloc (.cells #[.int .i64 0,.int .i64 0] 85)).setRow w1.heap.size #[.int .i64 n1,.int .i64 n2]=w2 at *
 have HB9:=Lib.hid (HB.out.trans (hb4.mono (by omega)))
 clear hb hb4 k0
 go_wp2
 go_ret
 exact ⟨rfl,by rw [HBW.out];exact HB9.out⟩
end Go.Proofs.YtoodbfkbbchjiaaGreatDoor
