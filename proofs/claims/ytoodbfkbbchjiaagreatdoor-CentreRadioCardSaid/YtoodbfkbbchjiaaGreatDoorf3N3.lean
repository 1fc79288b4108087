import Derived.Test.YtoodbfkbbchjiaaGreatDoorf3Y1
import Derived.Test.YtoodbfkbbchjiaaGreatDoorf3M7
import Derived.Test.YtoodbfkbbchjiaaGreatDoorf3Y4
import Derived.Test.YtoodbfkbbchjiaaGreatDoorf3S3
set_option maxRecDepth 100000
set_option maxHeartbeats 16000000
namespace Go.Proofs.YtoodbfkbbchjiaaGreatDoor
open Go.RowKit
theorem FeedAt.below {w w':World} {B:Nat} {p:NetV} (h:FeedAt w B p) (hb:Below B w w'):FeedAt w' B p:=
 ⟨h.sts.below hb,h.fss.below hb,h.tns.below hb,fun r hr=>(h.tn r hr).below hb⟩
theorem zdj {W:World} {b k:Nat} {ob:Obj} (h:W.heap[k]?=some ob) (hne:k≠b) (i:Nat) (v:Value):(W.setCell ⟨b,i,none⟩ v).heap[k]?=some ob:=by
 rw [zd6,if_neg hne]
 exact h
theorem zfy {W:World} {b t:Nat} {cs:Array Value} {f:Nat × Nat} (h:W.heap[b]?=some (.cells cs t f)) (i:Nat) (v:Value):(W.setCell ⟨b,i,none⟩ v).heap[b]?=some (.cells (cs.setIfInBounds i v) t f):=by
 rw [zd6,if_pos rfl,h]
 rfl
theorem ix78_0 (e0 e1 e2 e3 e4 e5 e6 e7:Int) (W:World):Sem.run Tryz.prog (Instr.index 195 (Value.agg #[.int .i64 e0,.int .i64 e1,.int .i64 e2,.int .i64 e3,.int .i64 e4,.int .i64 e5,.int .i64 e6,.int .i64 e7]) (.int .i64 0)) W=.ok (.int .i64 e0) W:=by kernel_rfl
theorem ix78_1 (e0 e1 e2 e3 e4 e5 e6 e7:Int) (W:World):Sem.run Tryz.prog (Instr.index 195 (Value.agg #[.int .i64 e0,.int .i64 e1,.int .i64 e2,.int .i64 e3,.int .i64 e4,.int .i64 e5,.int .i64 e6,.int .i64 e7]) (.int .i64 1)) W=.ok (.int .i64 e1) W:=by kernel_rfl
theorem ix78_2 (e0 e1 e2 e3 e4 e5 e6 e7:Int) (W:World):Sem.run Tryz.prog (Instr.index 195 (Value.agg #[.int .i64 e0,.int .i64 e1,.int .i64 e2,.int .i64 e3,.int .i64 e4,.int .i64 e5,.int .i64 e6,.int .i64 e7]) (.int .i64 2)) W=.ok (.int .i64 e2) W:=by kernel_rfl
theorem ix78_3 (e0 e1 e2 e3 e4 e5 e6 e7:Int) (W:World):Sem.run Tryz.prog (Instr.index 195 (Value.agg #[.int .i64 e0,.int .i64 e1,.int .i64 e2,.int .i64 e3,.int .i64 e4,.int .i64 e5,.int .i64 e6,.int .i64 e7]) (.int .i64 3)) W=.ok (.int .i64 e3) W:=by kernel_rfl
theorem ix78_4 (e0 e1 e2 e3 e4 e5 e6 e7:Int) (W:World):Sem.run Tryz.prog (Instr.index 195 (Value.agg #[.int .i64 e0,.int .i64 e1,.int .i64 e2,.int .i64 e3,.int .i64 e4,.int .i64 e5,.int .i64 e6,.int .i64 e7]) (.int .i64 4)) W=.ok (.int .i64 e4) W:=by kernel_rfl
theorem ix78_5 (e0 e1 e2 e3 e4 e5 e6 e7:Int) (W:World):Sem.run Tryz.prog (Instr.index 195 (Value.agg #[.int .i64 e0,.int .i64 e1,.int .i64 e2,.int .i64 e3,.int .i64 e4,.int .i64 e5,.int .i64 e6,.int .i64 e7]) (.int .i64 5)) W=.ok (.int .i64 e5) W:=by kernel_rfl
theorem ix78_6 (e0 e1 e2 e3 e4 e5 e6 e7:Int) (W:World):Sem.run Tryz.prog (Instr.index 195 (Value.agg #[.int .i64 e0,.int .i64 e1,.int .i64 e2,.int .i64 e3,.int .i64 e4,.int .i64 e5,.int .i64 e6,.int .i64 e7]) (.int .i64 6)) W=.ok (.int .i64 e6) W:=by kernel_rfl
theorem ix78_7 (e0 e1 e2 e3 e4 e5 e6 e7:Int) (W:World):Sem.run Tryz.prog (Instr.index 195 (Value.agg #[.int .i64 e0,.int .i64 e1,.int .i64 e2,.int .i64 e3,.int .i64 e4,.int .i64 e5,.int .i64 e6,.int .i64 e7]) (.int .i64 7)) W=.ok (.int .i64 e7) W:=by kernel_rfl
def zgf (most n:Nat):Int:=zam [zag (decide (0<n)) 10,zag (decide ((n:Int)≤(most:Int))) 8]
theorem zkr {α:Type} (most:Nat) (f:List α→α→Int) (l:List α):zdh most f l=if zgf most l.length=0 then zfc f 0 [] l else (0,zgf most l.length):=by
 unfold zdh
 by_cases h1:l.length=0
 · have e:zgf most l.length=10:=by simp [zgf,h1,zam,zag]
   rw [if_pos h1,e]
   rfl
 · have e1:0<l.length:=by omega
   by_cases h2:most<l.length
   · have e2:¬ (l.length:Int)≤(most:Int):=by omega
     have e:zgf most l.length=8:=by simp only [zgf,e1,e2,decide_true,decide_false];rfl
     rw [if_neg h1,if_pos h2,e]
     rfl
   · have e2:(l.length:Int)≤(most:Int):=by omega
     have e:zgf most l.length=0:=by simp only [zgf,e1,e2,decide_true];rfl
     rw [if_neg h1,if_neg h2,e,if_pos rfl]
theorem chkN_zero {α:Type} {f:List α→α→Int}:∀ (l pre:List α) (k:Nat),(zfc f k pre l).2=0→(zfc f k pre l).1=0
 | [],_,_,_=>rfl
 | x :: l,pre,k,h=>by
  rw [zfc] at h ⊢
  by_cases h0:f pre x=0
  · rw [if_pos h0] at h ⊢
    exact chkN_zero l _ _ h
  · rw [if_neg h0] at h
    exact absurd h h0
def zj6 (E1 E2 E3 E4 E5 E6:Int) (R:Int × Int × Int):Int × Int × Int:=if E1≠0 then (1,0,E1) else if E2≠0 then (2,0,E2) else if E3≠0 then (3,0,E3) else if E4≠0 then (4,0,E4) else if E5≠0 then (5,0,E5) else if E6≠0 then (6,0,E6) else R
def restV (masts:List ByteArray) (people:List Sw):Int × Int × Int:=
 if (zdh 6 nmE masts).2≠0 then (7,(zdh 6 nmE masts).1,(zdh 6 nmE masts).2)
 else if (zdh 12 zio people).2≠0 then (8,(zdh 12 zio people).1,(zdh 12 zio people).2)
 else (0,0,zag (people.any fun p=>decide (p.2=3)) 12)
theorem houseE_parts (h:HouseV):zcg h=zj6 (zb7 h.plant) (zfp h.net) (zj2 h.vanes) (zeb h.tn h.pcs) (zj4 h.sys) (netE h.evs h.acts) (restV h.masts h.people):=rfl
def HousePost (w:World) (V:Int × Int × Int) (e:Ending) (w':World):Prop:=e=.returned (.tuple #[.agg #[.int .i64 V.1,.int .i64 V.2.1],.int .i64 V.2.2])∧Below w.heap.size w w'
def roleF (l:List Sw) (k:Nat):Int:=match l[k]? with | some y=>zag (zaj y.2 0 3) 15 | none=>0
theorem roleF_at {l:List Sw} {k:Nat} {y:Sw} (h:l[k]?=some y):roleF l k=zag (zaj y.2 0 3) 15:=by rw [roleF,h]
theorem chkN_roles (l:List Sw):zfc (nkE (roleF l)) 0 [] (l.map (·.1))=zfc zio 0 [] l:=zjp l (roleF l) (fun _ _ h=>roleF_at h) l [] rfl
def PnRel (w0:World) (l:List Sw) (n:Nat) (u un:Value) (wr:World):Prop:=∃ k:Nat,k≤n∧u=.int .i64 k∧wr.ownsRow w0.heap.size 9 1 un k (strCells ((l.take k).map (·.1)))∧Below w0.heap.size w0 wr
def PtRel (w2:World) (E1 E2 E3 E4 E5 E6:Int) (u:Value) (wr:World):Prop:=∃ k:Nat,k≤8∧u=.int .i64 k∧(1<k→E1=0)∧(2<k→E2=0)∧(3<k→E3=0)∧(4<k→E4=0)∧(5<k→E5=0)∧(6<k→E6=0)∧wr=w2
theorem cnHouse_any (w:World) (B:Nat) (h:HouseV) (H:HouseAt w B h) (hS:HouseS h) (hB:B≤w.heap.size):Calls Tryz.prog 51 #[.agg (zah h).toArray] w (HousePost w (zcg h)):=by
 rw [houseE_parts]
 obtain ⟨plant,net,vanes,tn,ps,pcs,sys,es,evs,acs,acts,ms,masts,⟨Ap,np,cp⟩,people⟩:=h
 show Calls Tryz.prog 51 #[.agg #[.slice plant.ss.A plant.ss.n plant.ss.c,.slice plant.ts.A plant.ts.n plant.ts.c,.slice plant.ws.A plant.ws.n plant.ws.c,.slice plant.rs.A plant.rs.n plant.rs.c,.slice net.ss.A net.ss.n net.ss.c,.slice net.fs.A net.fs.n net.fs.c,.slice net.ts.A net.ts.n net.ts.c,.slice vanes.vs.A vanes.vs.n vanes.vs.c,.int .i64 vanes.window,.int .i64 vanes.tooth,.int .i64 vanes.per,.int .i64 vanes.first,.int .i64 vanes.modulus,.int .i64 vanes.slack,.int .i64 vanes.errors,.bool vanes.round,.string tn,.slice ps.A ps.n ps.c,.int .i64 sys.brake,.int .i64 sys.drag,.int .i64 sys.drive,.slice es.A es.n es.c,.slice acs.A acs.n acs.c,.slice ms.A ms.n ms.c,.slice Ap np cp]] w (HousePost w (zj6 (zb7 plant) (zfp net) (zj2 vanes) (zeb tn pcs) (zj4 sys) (netE evs acts) (restV masts people)))
 have k0:(((w.alloc (.cells #[.slice plant.ss.A plant.ss.n plant.ss.c,.slice plant.ts.A plant.ts.n plant.ts.c,.slice plant.ws.A plant.ws.n plant.ws.c,.slice plant.rs.A plant.rs.n plant.rs.c,.slice net.ss.A net.ss.n net.ss.c,.slice net.fs.A net.fs.n net.fs.c,.slice net.ts.A net.ts.n net.ts.c,.slice vanes.vs.A vanes.vs.n vanes.vs.c,.int .i64 vanes.window,.int .i64 vanes.tooth,.int .i64 vanes.per,.int .i64 vanes.first,.int .i64 vanes.modulus,.int .i64 vanes.slack,.int .i64 vanes.errors,.bool vanes.round,.string tn,.slice ps.A ps.n ps.c,.int .i64 sys.brake,.int .i64 sys.drag,.int .i64 sys.drive,.slice es.A es.n es.c,.slice acs.A acs.n acs.c,.slice ms.A ms.n ms.c,.slice Ap np cp] 45)).alloc (.cells #[.int .i64 0,.int .i64 0] 85)).alloc (.cells #[.int .i64 0,.int .i64 0,.int .i64 0,.int .i64 0,.int .i64 0,.int .i64 0,.int .i64 0,.int .i64 0] 195)).heap[w.heap.size]?=some (.cells #[.slice plant.ss.A plant.ss.n plant.ss.c,.slice plant.ts.A plant.ts.n plant.ts.c,.slice plant.ws.A plant.ws.n plant.ws.c,.slice plant.rs.A plant.rs.n plant.rs.c,.slice net.ss.A net.ss.n net.ss.c,.slice net.fs.A net.fs.n net.fs.c,.slice net.ts.A net.ts.n net.ts.c,.slice vanes.vs.A vanes.vs.n vanes.vs.c,.int .i64 vanes.window,.int .i64 vanes.tooth,.int .i64 vanes.per,.int .i64 vanes.first,.int .i64 vanes.modulus,.int .i64 vanes.slack,.int .i64 vanes.errors,.bool vanes.round,.string tn,.slice ps.A ps.n ps.c,.int .i64 sys.brake,.int .i64 sys.drag,.int .i64 sys.drive,.slice es.A es.n es.c,.slice acs.A acs.n acs.c,.slice ms.A ms.n ms.c,.slice Ap np cp] 45 (0,0)):=by
  rw [zae,if_neg (by simp;omega),zae,if_neg (by simp),zae,if_pos rfl]
 have k1:(((w.alloc (.cells #[.slice plant.ss.A plant.ss.n plant.ss.c,.slice plant.ts.A plant.ts.n plant.ts.c,.slice plant.ws.A plant.ws.n plant.ws.c,.slice plant.rs.A plant.rs.n plant.rs.c,.slice net.ss.A net.ss.n net.ss.c,.slice net.fs.A net.fs.n net.fs.c,.slice net.ts.A net.ts.n net.ts.c,.slice vanes.vs.A vanes.vs.n vanes.vs.c,.int .i64 vanes.window,.int .i64 vanes.tooth,.int .i64 vanes.per,.int .i64 vanes.first,.int .i64 vanes.modulus,.int .i64 vanes.slack,.int .i64 vanes.errors,.bool vanes.round,.string tn,.slice ps.A ps.n ps.c,.int .i64 sys.brake,.int .i64 sys.drag,.int .i64 sys.drive,.slice es.A es.n es.c,.slice acs.A acs.n acs.c,.slice ms.A ms.n ms.c,.slice Ap np cp] 45)).alloc (.cells #[.int .i64 0,.int .i64 0] 85)).alloc (.cells #[.int .i64 0,.int .i64 0,.int .i64 0,.int .i64 0,.int .i64 0,.int .i64 0,.int .i64 0,.int .i64 0] 195)).heap[w.heap.size+1]?=some (.cells #[.int .i64 0,.int .i64 0] 85 (0,0)):=by
  rw [zae,if_neg (by simp),zae,if_pos (by simp)]
 have kA:(((w.alloc (.cells #[.slice plant.ss.A plant.ss.n plant.ss.c,.slice plant.ts.A plant.ts.n plant.ts.c,.slice plant.ws.A plant.ws.n plant.ws.c,.slice plant.rs.A plant.rs.n plant.rs.c,.slice net.ss.A net.ss.n net.ss.c,.slice net.fs.A net.fs.n net.fs.c,.slice net.ts.A net.ts.n net.ts.c,.slice vanes.vs.A vanes.vs.n vanes.vs.c,.int .i64 vanes.window,.int .i64 vanes.tooth,.int .i64 vanes.per,.int .i64 vanes.first,.int .i64 vanes.modulus,.int .i64 vanes.slack,.int .i64 vanes.errors,.bool vanes.round,.string tn,.slice ps.A ps.n ps.c,.int .i64 sys.brake,.int .i64 sys.drag,.int .i64 sys.drive,.slice es.A es.n es.c,.slice acs.A acs.n acs.c,.slice ms.A ms.n ms.c,.slice Ap np cp] 45)).alloc (.cells #[.int .i64 0,.int .i64 0] 85)).alloc (.cells #[.int .i64 0,.int .i64 0,.int .i64 0,.int .i64 0,.int .i64 0,.int .i64 0,.int .i64 0,.int .i64 0] 195)).heap[w.heap.size+1+1]?=some (.cells #[.int .i64 0,.int .i64 0,.int .i64 0,.int .i64 0,.int .i64 0,.int .i64 0,.int .i64 0,.int .i64 0] 195 (0,0)):=by
  rw [zae,if_pos (by simp)]
 have hb0:Below w.heap.size w (((w.alloc (.cells #[.slice plant.ss.A plant.ss.n plant.ss.c,.slice plant.ts.A plant.ts.n plant.ts.c,.slice plant.ws.A plant.ws.n plant.ws.c,.slice plant.rs.A plant.rs.n plant.rs.c,.slice net.ss.A net.ss.n net.ss.c,.slice net.fs.A net.fs.n net.fs.c,.slice net.ts.A net.ts.n net.ts.c,.slice vanes.vs.A vanes.vs.n vanes.vs.c,.int .i64 vanes.window,.int .i64 vanes.tooth,.int .i64 vanes.per,.int .i64 vanes.first,.int .i64 vanes.modulus,.int .i64 vanes.slack,.int .i64 vanes.errors,.bool vanes.round,.string tn,.slice ps.A ps.n ps.c,.int .i64 sys.brake,.int .i64 sys.drag,.int .i64 sys.drive,.slice es.A es.n es.c,.slice acs.A acs.n acs.c,.slice ms.A ms.n ms.c,.slice Ap np cp] 45)).alloc (.cells #[.int .i64 0,.int .i64 0] 85)).alloc (.cells #[.int .i64 0,.int .i64 0,.int .i64 0,.int .i64 0,.int .i64 0,.int .i64 0,.int .i64 0,.int .i64 0] 195)):=(((Below.refl _ _).alloc (Nat.le_refl _) _).alloc (by simp) _).alloc (by simp;omega) _
 have hs:w.heap.size+3≤(((w.alloc (.cells #[.slice plant.ss.A plant.ss.n plant.ss.c,.slice plant.ts.A plant.ts.n plant.ts.c,.slice plant.ws.A plant.ws.n plant.ws.c,.slice plant.rs.A plant.rs.n plant.rs.c,.slice net.ss.A net.ss.n net.ss.c,.slice net.fs.A net.fs.n net.fs.c,.slice net.ts.A net.ts.n net.ts.c,.slice vanes.vs.A vanes.vs.n vanes.vs.c,.int .i64 vanes.window,.int .i64 vanes.tooth,.int .i64 vanes.per,.int .i64 vanes.first,.int .i64 vanes.modulus,.int .i64 vanes.slack,.int .i64 vanes.errors,.bool vanes.round,.string tn,.slice ps.A ps.n ps.c,.int .i64 sys.brake,.int .i64 sys.drag,.int .i64 sys.drive,.slice es.A es.n es.c,.slice acs.A acs.n acs.c,.slice ms.A ms.n ms.c,.slice Ap np cp] 45)).alloc (.cells #[.int .i64 0,.int .i64 0] 85)).alloc (.cells #[.int .i64 0,.int .i64 0,.int .i64 0,.int .i64 0,.int .i64 0,.int .i64 0,.int .i64 0,.int .i64 0] 195)).heap.size:=by simp
 have HH:=Lib.hid H
 have HS:=Lib.hid hS
 have HB:=Lib.hid hb0
 obtain ⟨E1,hE1⟩:∃ E,zb7 plant=E:=⟨_,rfl⟩
 obtain ⟨E2,hE2⟩:∃ E,zfp net=E:=⟨_,rfl⟩
 obtain ⟨E3,hE3⟩:∃ E,zj2 vanes=E:=⟨_,rfl⟩
 obtain ⟨E4,hE4⟩:∃ E,zeb tn pcs=E:=⟨_,rfl⟩
 obtain ⟨E5,hE5⟩:∃ E,zj4 sys=E:=⟨_,rfl⟩
 obtain ⟨E6,hE6⟩:∃ E,netE evs acts=E:=⟨_,rfl⟩
 rw [hE1,hE2,hE3,hE4,hE5,hE6]
 obtain ⟨V,hV⟩:∃ V,zj6 E1 E2 E3 E4 E5 E6 (restV masts people)=V:=⟨_,rfl⟩
 rw [hV]
 have HV:=Lib.hid hV
 have HE1:=Lib.hid hE1
 have HE2:=Lib.hid hE2
 have HE3:=Lib.hid hE3
 have HE4:=Lib.hid hE4
 have HE5:=Lib.hid hE5
 have HE6:=Lib.hid hE6
 clear hb0 H hS hV hE1 hE2 hE3 hE4 hE5 hE6
 go_enter Tryz.func51,Tryz.ntmps51
 go_upto_region 2 with (fail)
 generalize (((w.alloc (.cells #[.slice plant.ss.A plant.ss.n plant.ss.c,.slice plant.ts.A plant.ts.n plant.ts.c,.slice plant.ws.A plant.ws.n plant.ws.c,.slice plant.rs.A plant.rs.n plant.rs.c,.slice net.ss.A net.ss.n net.ss.c,.slice net.fs.A net.fs.n net.fs.c,.slice net.ts.A net.ts.n net.ts.c,.slice vanes.vs.A vanes.vs.n vanes.vs.c,.int .i64 vanes.window,.int .i64 vanes.tooth,.int .i64 vanes.per,.int .i64 vanes.first,.int .i64 vanes.modulus,.int .i64 vanes.slack,.int .i64 vanes.errors,.bool vanes.round,.string tn,.slice ps.A ps.n ps.c,.int .i64 sys.brake,.int .i64 sys.drag,.int .i64 sys.drive,.slice es.A es.n es.c,.slice acs.A acs.n acs.c,.slice ms.A ms.n ms.c,.slice Ap np cp] 45)).alloc (.cells #[.int .i64 0,.int .i64 0] 85)).alloc (.cells #[.int .i64 0,.int .i64 0,.int .i64 0,.int .i64 0,.int .i64 0,.int .i64 0,.int .i64 0,.int .i64 0] 195))=W0 at *
 generalize hbw:w.heap.size=bw at *
 have HBW:=Lib.hid hbw
 clear hbw
 have c0:=(cell_of_row W0 _ 0 _ _ _ k0).trans (by rfl:_=some (.slice plant.ss.A plant.ss.n plant.ss.c))
 have c1:=(cell_of_row W0 _ 1 _ _ _ k0).trans (by rfl:_=some (.slice plant.ts.A plant.ts.n plant.ts.c))
 have c2:=(cell_of_row W0 _ 2 _ _ _ k0).trans (by rfl:_=some (.slice plant.ws.A plant.ws.n plant.ws.c))
 have c3:=(cell_of_row W0 _ 3 _ _ _ k0).trans (by rfl:_=some (.slice plant.rs.A plant.rs.n plant.rs.c))
 have CT:Calls Tryz.prog 76 #[.agg #[.slice plant.ss.A plant.ss.n plant.ss.c,.slice plant.ts.A plant.ts.n plant.ts.c,.slice plant.ws.A plant.ws.n plant.ws.c,.slice plant.rs.A plant.rs.n plant.rs.c]] W0 _:=zjc W0 B plant (HH.out.plant.below (HB.out.mono hB)) HS.out.plant (by omega)
 rw [HE1.out] at CT
 try unfold syV at CT
 try unfold zea at CT
 try unfold SlV.v at CT
 go_upto_region 3 with (go_at_call 76;refine CT.mono ?_;rintro e w9 ⟨ma,mb,rfl,hb9⟩;have fz:=frozen_of_row w9 (bw+1+1) 1 _ _ (blk hb9 kA);have fc:=(cell_of_row w9 (bw+1+1) 1 _ _ _ (blk hb9 kA)).trans (by rfl:_=some (.int .i64 0)))
 have K0:=zdj (blk hb9 k0) (show bw≠bw+1+1 by omega) 1 (.int .i64 E1)
 have K1:=zdj (blk hb9 k1) (show bw+1≠bw+1+1 by omega) 1 (.int .i64 E1)
 have KA:=zfy (blk hb9 kA) 1 (.int .i64 E1)
 have hb8:Below bw w (w9.setCell ⟨bw+1+1,1,none⟩ (.int .i64 E1)):=(HB.out.trans (hb9.mono (by omega))).setCell (p:=⟨bw+1+1,1,none⟩) (show bw≤bw+1+1 by omega) _
 have hs8:bw+3≤(w9.setCell ⟨bw+1+1,1,none⟩ (.int .i64 E1)).heap.size:=by
  have:=hb9.size
  simp
  omega
 clear k0 k1 kA HB hs CT fz fc c0 c1 c2 c3
 generalize w9.setCell ⟨bw+1+1,1,none⟩ (.int .i64 E1)=W1 at *
 have k0:=K0
 have k1:=K1
 have kA:W1.heap[bw+1+1]?=some (.cells #[.int .i64 0,.int .i64 E1,.int .i64 0,.int .i64 0,.int .i64 0,.int .i64 0,.int .i64 0,.int .i64 0] 195 (0,0)):=KA
 have hs:=hs8
 have HB:=Lib.hid hb8
 clear K0 K1 KA hb8 hs8 hb9
 have c4:=(cell_of_row W1 _ 4 _ _ _ k0).trans (by rfl:_=some (.slice net.ss.A net.ss.n net.ss.c))
 have c5:=(cell_of_row W1 _ 5 _ _ _ k0).trans (by rfl:_=some (.slice net.fs.A net.fs.n net.fs.c))
 have c6:=(cell_of_row W1 _ 6 _ _ _ k0).trans (by rfl:_=some (.slice net.ts.A net.ts.n net.ts.c))
 have CT:Calls Tryz.prog 77 #[.agg #[.slice net.ss.A net.ss.n net.ss.c,.slice net.fs.A net.fs.n net.fs.c,.slice net.ts.A net.ts.n net.ts.c]] W1 _:=fdNet_any W1 B net (HH.out.net.below (HB.out.mono hB)) HS.out.net (by omega)
 rw [HE2.out] at CT
 try unfold syV at CT
 try unfold zea at CT
 try unfold SlV.v at CT
 go_upto_region 4 with (go_at_call 77;refine CT.mono ?_;rintro e w9 ⟨ma,mb,rfl,hb9⟩;have fz:=frozen_of_row w9 (bw+1+1) 2 _ _ (blk hb9 kA);have fc:=(cell_of_row w9 (bw+1+1) 2 _ _ _ (blk hb9 kA)).trans (by rfl:_=some (.int .i64 0)))
 have K0:=zdj (blk hb9 k0) (show bw≠bw+1+1 by omega) 2 (.int .i64 E2)
 have K1:=zdj (blk hb9 k1) (show bw+1≠bw+1+1 by omega) 2 (.int .i64 E2)
 have KA:=zfy (blk hb9 kA) 2 (.int .i64 E2)
 have hb8:Below bw w (w9.setCell ⟨bw+1+1,2,none⟩ (.int .i64 E2)):=(HB.out.trans (hb9.mono (by omega))).setCell (p:=⟨bw+1+1,2,none⟩) (show bw≤bw+1+1 by omega) _
 have hs8:bw+3≤(w9.setCell ⟨bw+1+1,2,none⟩ (.int .i64 E2)).heap.size:=by
  have:=hb9.size
  simp
  omega
 clear k0 k1 kA HB hs CT fz fc c4 c5 c6
 generalize w9.setCell ⟨bw+1+1,2,none⟩ (.int .i64 E2)=W2 at *
 have k0:=K0
 have k1:=K1
 have kA:W2.heap[bw+1+1]?=some (.cells #[.int .i64 0,.int .i64 E1,.int .i64 E2,.int .i64 0,.int .i64 0,.int .i64 0,.int .i64 0,.int .i64 0] 195 (0,0)):=KA
 have hs:=hs8
 have HB:=Lib.hid hb8
 clear K0 K1 KA hb8 hs8 hb9
 have c7:=(cell_of_row W2 _ 7 _ _ _ k0).trans (by rfl:_=some (.slice vanes.vs.A vanes.vs.n vanes.vs.c))
 have c8:=(cell_of_row W2 _ 8 _ _ _ k0).trans (by rfl:_=some (.int .i64 vanes.window))
 have c9:=(cell_of_row W2 _ 9 _ _ _ k0).trans (by rfl:_=some (.int .i64 vanes.tooth))
 have c10:=(cell_of_row W2 _ 10 _ _ _ k0).trans (by rfl:_=some (.int .i64 vanes.per))
 have c11:=(cell_of_row W2 _ 11 _ _ _ k0).trans (by rfl:_=some (.int .i64 vanes.first))
 have c12:=(cell_of_row W2 _ 12 _ _ _ k0).trans (by rfl:_=some (.int .i64 vanes.modulus))
 have c13:=(cell_of_row W2 _ 13 _ _ _ k0).trans (by rfl:_=some (.int .i64 vanes.slack))
 have c14:=(cell_of_row W2 _ 14 _ _ _ k0).trans (by rfl:_=some (.int .i64 vanes.errors))
 have c15:=(cell_of_row W2 _ 15 _ _ _ k0).trans (by rfl:_=some (.bool vanes.round))
 have CT:Calls Tryz.prog 78 #[.agg #[.slice vanes.vs.A vanes.vs.n vanes.vs.c,.int .i64 vanes.window,.int .i64 vanes.tooth,.int .i64 vanes.per,.int .i64 vanes.first,.int .i64 vanes.modulus,.int .i64 vanes.slack,.int .i64 vanes.errors,.bool vanes.round]] W2 _:=zja W2 B vanes (HH.out.vanes.below (HB.out.mono hB)) (by omega) HS.out.vanes
 rw [HE3.out] at CT
 try unfold syV at CT
 try unfold zea at CT
 try unfold SlV.v at CT
 go_upto_region 5 with (go_at_call 78;refine CT.mono ?_;rintro e w9 ⟨mi,rfl,hb9⟩;have fz:=frozen_of_row w9 (bw+1+1) 3 _ _ (blk hb9 kA);have fc:=(cell_of_row w9 (bw+1+1) 3 _ _ _ (blk hb9 kA)).trans (by rfl:_=some (.int .i64 0)))
 have K0:=zdj (blk hb9 k0) (show bw≠bw+1+1 by omega) 3 (.int .i64 E3)
 have K1:=zdj (blk hb9 k1) (show bw+1≠bw+1+1 by omega) 3 (.int .i64 E3)
 have KA:=zfy (blk hb9 kA) 3 (.int .i64 E3)
 have hb8:Below bw w (w9.setCell ⟨bw+1+1,3,none⟩ (.int .i64 E3)):=(HB.out.trans (hb9.mono (by omega))).setCell (p:=⟨bw+1+1,3,none⟩) (show bw≤bw+1+1 by omega) _
 have hs8:bw+3≤(w9.setCell ⟨bw+1+1,3,none⟩ (.int .i64 E3)).heap.size:=by
  have:=hb9.size
  simp
  omega
 clear k0 k1 kA HB hs CT fz fc c7 c8 c9 c10 c11 c12 c13 c14 c15
 generalize w9.setCell ⟨bw+1+1,3,none⟩ (.int .i64 E3)=W3 at *
 have k0:=K0
 have k1:=K1
 have kA:W3.heap[bw+1+1]?=some (.cells #[.int .i64 0,.int .i64 E1,.int .i64 E2,.int .i64 E3,.int .i64 0,.int .i64 0,.int .i64 0,.int .i64 0] 195 (0,0)):=KA
 have hs:=hs8
 have HB:=Lib.hid hb8
 clear K0 K1 KA hb8 hs8 hb9
 have c16:=(cell_of_row W3 _ 16 _ _ _ k0).trans (by rfl:_=some (.string tn))
 have c17:=(cell_of_row W3 _ 17 _ _ _ k0).trans (by rfl:_=some (.slice ps.A ps.n ps.c))
 have CT:=bkTrack_any W3 B tn ps pcs (HH.out.pcs.below (HB.out.mono hB)) (by omega) HS.out.pcs HS.out.tn
 rw [HE4.out] at CT
 try unfold syV at CT
 try unfold zea at CT
 try unfold SlV.v at CT
 go_upto_region 6 with (go_at_call 79;refine CT.mono ?_;rintro e w9 ⟨mi,rfl,hb9⟩;have fz:=frozen_of_row w9 (bw+1+1) 4 _ _ (blk hb9 kA);have fc:=(cell_of_row w9 (bw+1+1) 4 _ _ _ (blk hb9 kA)).trans (by rfl:_=some (.int .i64 0)))
 have K0:=zdj (blk hb9 k0) (show bw≠bw+1+1 by omega) 4 (.int .i64 E4)
 have K1:=zdj (blk hb9 k1) (show bw+1≠bw+1+1 by omega) 4 (.int .i64 E4)
 have KA:=zfy (blk hb9 kA) 4 (.int .i64 E4)
 have hb8:Below bw w (w9.setCell ⟨bw+1+1,4,none⟩ (.int .i64 E4)):=(HB.out.trans (hb9.mono (by omega))).setCell (p:=⟨bw+1+1,4,none⟩) (show bw≤bw+1+1 by omega) _
 have hs8:bw+3≤(w9.setCell ⟨bw+1+1,4,none⟩ (.int .i64 E4)).heap.size:=by
  have:=hb9.size
  simp
  omega
 clear k0 k1 kA HB hs CT fz fc c16 c17
 generalize w9.setCell ⟨bw+1+1,4,none⟩ (.int .i64 E4)=W4 at *
 have k0:=K0
 have k1:=K1
 have kA:W4.heap[bw+1+1]?=some (.cells #[.int .i64 0,.int .i64 E1,.int .i64 E2,.int .i64 E3,.int .i64 E4,.int .i64 0,.int .i64 0,.int .i64 0] 195 (0,0)):=KA
 have hs:=hs8
 have HB:=Lib.hid hb8
 clear K0 K1 KA hb8 hs8 hb9
 have c18:=(cell_of_row W4 _ 18 _ _ _ k0).trans (by rfl:_=some (.int .i64 sys.brake))
 have c19:=(cell_of_row W4 _ 19 _ _ _ k0).trans (by rfl:_=some (.int .i64 sys.drag))
 have c20:=(cell_of_row W4 _ 20 _ _ _ k0).trans (by rfl:_=some (.int .i64 sys.drive))
 have CT:=bkSystem_any W4 sys
 rw [HE5.out] at CT
 try unfold syV at CT
 try unfold zea at CT
 try unfold SlV.v at CT
 go_upto_region 7 with (go_at_call 80;refine CT.mono ?_;rintro e w9 ⟨rfl,hb9⟩;have fz:=frozen_of_row w9 (bw+1+1) 5 _ _ (blk hb9 kA);have fc:=(cell_of_row w9 (bw+1+1) 5 _ _ _ (blk hb9 kA)).trans (by rfl:_=some (.int .i64 0)))
 have K0:=zdj (blk hb9 k0) (show bw≠bw+1+1 by omega) 5 (.int .i64 E5)
 have K1:=zdj (blk hb9 k1) (show bw+1≠bw+1+1 by omega) 5 (.int .i64 E5)
 have KA:=zfy (blk hb9 kA) 5 (.int .i64 E5)
 have hb8:Below bw w (w9.setCell ⟨bw+1+1,5,none⟩ (.int .i64 E5)):=(HB.out.trans (hb9.mono (by omega))).setCell (p:=⟨bw+1+1,5,none⟩) (show bw≤bw+1+1 by omega) _
 have hs8:bw+3≤(w9.setCell ⟨bw+1+1,5,none⟩ (.int .i64 E5)).heap.size:=by
  have:=hb9.size
  simp
  omega
 clear k0 k1 kA HB hs CT fz fc c18 c19 c20
 generalize w9.setCell ⟨bw+1+1,5,none⟩ (.int .i64 E5)=W5 at *
 have k0:=K0
 have k1:=K1
 have kA:W5.heap[bw+1+1]?=some (.cells #[.int .i64 0,.int .i64 E1,.int .i64 E2,.int .i64 E3,.int .i64 E4,.int .i64 E5,.int .i64 0,.int .i64 0] 195 (0,0)):=KA
 have hs:=hs8
 have HB:=Lib.hid hb8
 clear K0 K1 KA hb8 hs8 hb9
 have c21:=(cell_of_row W5 _ 21 _ _ _ k0).trans (by rfl:_=some (.slice es.A es.n es.c))
 have c22:=(cell_of_row W5 _ 22 _ _ _ k0).trans (by rfl:_=some (.slice acs.A acs.n acs.c))
 have CT:=ttNet_any W5 B es acs evs acts (HH.out.evs.below (HB.out.mono hB)) (HH.out.acts.below (HB.out.mono hB)) HH.out.cap.1 (by omega) HS.out.evs HS.out.acts
 rw [HE6.out] at CT
 try unfold syV at CT
 try unfold zea at CT
 try unfold SlV.v at CT
 go_upto_region 8 with (go_at_call 81;refine CT.mono ?_;rintro e w9 ⟨ma,mb,rfl,hb9⟩;have fz:=frozen_of_row w9 (bw+1+1) 6 _ _ (blk hb9 kA);have fc:=(cell_of_row w9 (bw+1+1) 6 _ _ _ (blk hb9 kA)).trans (by rfl:_=some (.int .i64 0)))
 have K0:=zdj (blk hb9 k0) (show bw≠bw+1+1 by omega) 6 (.int .i64 E6)
 have K1:=zdj (blk hb9 k1) (show bw+1≠bw+1+1 by omega) 6 (.int .i64 E6)
 have KA:=zfy (blk hb9 kA) 6 (.int .i64 E6)
 have hb8:Below bw w (w9.setCell ⟨bw+1+1,6,none⟩ (.int .i64 E6)):=(HB.out.trans (hb9.mono (by omega))).setCell (p:=⟨bw+1+1,6,none⟩) (show bw≤bw+1+1 by omega) _
 have hs8:bw+3≤(w9.setCell ⟨bw+1+1,6,none⟩ (.int .i64 E6)).heap.size:=by
  have:=hb9.size
  simp
  omega
 clear k0 k1 kA HB hs CT fz fc c21 c22
 generalize w9.setCell ⟨bw+1+1,6,none⟩ (.int .i64 E6)=W6 at *
 have k0:=K0
 have k1:=K1
 have kA:W6.heap[bw+1+1]?=some (.cells #[.int .i64 0,.int .i64 E1,.int .i64 E2,.int .i64 E3,.int .i64 E4,.int .i64 E5,.int .i64 E6,.int .i64 0] 195 (0,0)):=KA
 have hs:=hs8
 have HB:=Lib.hid hb8
 clear K0 K1 KA hb8 hs8 hb9
 have a0:=(cell_of_row W6 _ 0 _ _ _ kA).trans (by rfl:_=some (.int .i64 0))
 have a1:=(cell_of_row W6 _ 1 _ _ _ kA).trans (by rfl:_=some (.int .i64 E1))
 have a2:=(cell_of_row W6 _ 2 _ _ _ kA).trans (by rfl:_=some (.int .i64 E2))
 have a3:=(cell_of_row W6 _ 3 _ _ _ kA).trans (by rfl:_=some (.int .i64 E3))
 have a4:=(cell_of_row W6 _ 4 _ _ _ kA).trans (by rfl:_=some (.int .i64 E4))
 have a5:=(cell_of_row W6 _ 5 _ _ _ kA).trans (by rfl:_=some (.int .i64 E5))
 have a6:=(cell_of_row W6 _ 6 _ _ _ kA).trans (by rfl:_=some (.int .i64 E6))
 have a7:=(cell_of_row W6 _ 7 _ _ _ kA).trans (by rfl:_=some (.int .i64 0))
 go_wp2
 go_loopw [53] (fun u wr=>PtRel W6 E1 E2 E3 E4 E5 E6 u wr) (fun u _=>8 - (intOf u).toNat)
 case atStart=>exact ⟨0,by decide,rfl,fun h=>absurd h (by decide),fun h=>absurd h (by decide),fun h=>absurd h (by decide),fun h=>absurd h (by decide),fun h=>absurd h (by decide),fun h=>absurd h (by decide),rfl⟩
 case round =>
  clear a0 a1 a2 a3 a4 a5 a6 a7 kA
  obtain ⟨k,hk,rfl,p1,p2,p3,p4,p5,p6,hw⟩:=hrel
  subst hw
  match k,hk with
  | 0,_ =>
   have ix:=fun W=>ix78_0 0 E1 E2 E3 E4 E5 E6 0 W
   have H1:=Lib.hid p1
   have H2:=Lib.hid p2
   have H3:=Lib.hid p3
   have H4:=Lib.hid p4
   have H5:=Lib.hid p5
   have H6:=Lib.hid p6
   clear p1 p2 p3 p4 p5 p6
   go_wp2
   go_roundw
   case rel=>exact ⟨1,by decide,by go_num,fun h=>absurd h (by decide),fun h=>absurd h (by decide),fun h=>absurd h (by decide),fun h=>absurd h (by decide),fun h=>absurd h (by decide),fun h=>absurd h (by decide),rfl⟩
   case measure=>decide
  | 1,_ =>
   have ix:=fun W=>ix78_1 0 E1 E2 E3 E4 E5 E6 0 W
   have H1:=Lib.hid p1
   have H2:=Lib.hid p2
   have H3:=Lib.hid p3
   have H4:=Lib.hid p4
   have H5:=Lib.hid p5
   have H6:=Lib.hid p6
   clear p1 p2 p3 p4 p5 p6
   by_cases h0:E1=0
   · have h0':(E1 != 0)=false:=by simp [h0]
     have HZ0:=Lib.hid h0
     clear h0
     go_wp2
     go_roundw
     case rel=>exact ⟨2,by decide,by go_num,fun _=>HZ0.out,fun h=>absurd h (by decide),fun h=>absurd h (by decide),fun h=>absurd h (by decide),fun h=>absurd h (by decide),fun h=>absurd h (by decide),rfl⟩
     case measure=>decide
   · have h0':(E1 != 0)=true:=by simp [h0]
     have HN:Hid (V=(1,0,E1)):=by
      rw [Hid,← HV.out,zj6]
      simp [h0]
     obtain ⟨r2,r3,q2,q3⟩:=zbu k1
     clear h0
     go_wp2
     refine bodyPost_ret (v:=.tuple #[.agg #[.int .i64 1,.int .i64 0],.int .i64 E1]) (by simp [results,Tryz.results51,go_sem,r2,r3]) rfl ⟨?_,?_⟩
     · rw [HN.out]
     · rw [HBW.out]
       exact HB.out.trans (zal _ _ (Nat.le_succ _))
  | 2,_ =>
   have ix:=fun W=>ix78_2 0 E1 E2 E3 E4 E5 E6 0 W
   have H1:=Lib.hid p1
   have H2:=Lib.hid p2
   have H3:=Lib.hid p3
   have H4:=Lib.hid p4
   have H5:=Lib.hid p5
   have H6:=Lib.hid p6
   clear p1 p2 p3 p4 p5 p6
   by_cases h0:E2=0
   · have h0':(E2 != 0)=false:=by simp [h0]
     have HZ0:=Lib.hid h0
     clear h0
     go_wp2
     go_roundw
     case rel=>exact ⟨3,by decide,by go_num,fun _=>H1.out (by decide),fun _=>HZ0.out,fun h=>absurd h (by decide),fun h=>absurd h (by decide),fun h=>absurd h (by decide),fun h=>absurd h (by decide),rfl⟩
     case measure=>decide
   · have h0':(E2 != 0)=true:=by simp [h0]
     have HN:Hid (V=(2,0,E2)):=by
      rw [Hid,← HV.out,zj6]
      simp [H1.out (by decide),h0]
     obtain ⟨r2,r3,q2,q3⟩:=zbu k1
     clear h0
     go_wp2
     refine bodyPost_ret (v:=.tuple #[.agg #[.int .i64 2,.int .i64 0],.int .i64 E2]) (by simp [results,Tryz.results51,go_sem,r2,r3]) rfl ⟨?_,?_⟩
     · rw [HN.out]
     · rw [HBW.out]
       exact HB.out.trans (zal _ _ (Nat.le_succ _))
  | 3,_ =>
   have ix:=fun W=>ix78_3 0 E1 E2 E3 E4 E5 E6 0 W
   have H1:=Lib.hid p1
   have H2:=Lib.hid p2
   have H3:=Lib.hid p3
   have H4:=Lib.hid p4
   have H5:=Lib.hid p5
   have H6:=Lib.hid p6
   clear p1 p2 p3 p4 p5 p6
   by_cases h0:E3=0
   · have h0':(E3 != 0)=false:=by simp [h0]
     have HZ0:=Lib.hid h0
     clear h0
     go_wp2
     go_roundw
     case rel=>exact ⟨4,by decide,by go_num,fun _=>H1.out (by decide),fun _=>H2.out (by decide),fun _=>HZ0.out,fun h=>absurd h (by decide),fun h=>absurd h (by decide),fun h=>absurd h (by decide),rfl⟩
     case measure=>decide
   · have h0':(E3 != 0)=true:=by simp [h0]
     have HN:Hid (V=(3,0,E3)):=by
      rw [Hid,← HV.out,zj6]
      simp [H1.out (by decide),H2.out (by decide),h0]
     obtain ⟨r2,r3,q2,q3⟩:=zbu k1
     clear h0
     go_wp2
     refine bodyPost_ret (v:=.tuple #[.agg #[.int .i64 3,.int .i64 0],.int .i64 E3]) (by simp [results,Tryz.results51,go_sem,r2,r3]) rfl ⟨?_,?_⟩
     · rw [HN.out]
     · rw [HBW.out]
       exact HB.out.trans (zal _ _ (Nat.le_succ _))
  | 4,_ =>
   have ix:=fun W=>ix78_4 0 E1 E2 E3 E4 E5 E6 0 W
   have H1:=Lib.hid p1
   have H2:=Lib.hid p2
   have H3:=Lib.hid p3
   have H4:=Lib.hid p4
   have H5:=Lib.hid p5
   have H6:=Lib.hid p6
   clear p1 p2 p3 p4 p5 p6
   by_cases h0:E4=0
   · have h0':(E4 != 0)=false:=by simp [h0]
     have HZ0:=Lib.hid h0
     clear h0
     go_wp2
     go_roundw
     case rel=>exact ⟨5,by decide,by go_num,fun _=>H1.out (by decide),fun _=>H2.out (by decide),fun _=>H3.out (by decide),fun _=>HZ0.out,fun h=>absurd h (by decide),fun h=>absurd h (by decide),rfl⟩
     case measure=>decide
   · have h0':(E4 != 0)=true:=by simp [h0]
     have HN:Hid (V=(4,0,E4)):=by
      rw [Hid,← HV.out,zj6]
      simp [H1.out (by decide),H2.out (by decide),H3.out (by decide),h0]
     obtain ⟨r2,r3,q2,q3⟩:=zbu k1
     clear h0
     go_wp2
     refine bodyPost_ret (v:=.tuple #[.agg #[.int .i64 4,.int .i64 0],.int .i64 E4]) (by simp [results,Tryz.results51,go_sem,r2,r3]) rfl ⟨?_,?_⟩
     · rw [HN.out]
     · rw [HBW.out]
       exact HB.out.trans (zal _ _ (Nat.le_succ _))
  | 5,_ =>
   have ix:=fun W=>ix78_5 0 E1 E2 E3 E4 E5 E6 0 W
   have H1:=Lib.hid p1
   have H2:=Lib.hid p2
   have H3:=Lib.hid p3
   have H4:=Lib.hid p4
   have H5:=Lib.hid p5
   have H6:=Lib.hid p6
   clear p1 p2 p3 p4 p5 p6
   by_cases h0:E5=0
   · have h0':(E5 != 0)=false:=by simp [h0]
     have HZ0:=Lib.hid h0
     clear h0
     go_wp2
     go_roundw
     case rel=>exact ⟨6,by decide,by go_num,fun _=>H1.out (by decide),fun _=>H2.out (by decide),fun _=>H3.out (by decide),fun _=>H4.out (by decide),fun _=>HZ0.out,fun h=>absurd h (by decide),rfl⟩
     case measure=>decide
   · have h0':(E5 != 0)=true:=by simp [h0]
     have HN:Hid (V=(5,0,E5)):=by
      rw [Hid,← HV.out,zj6]
      simp [H1.out (by decide),H2.out (by decide),H3.out (by decide),H4.out (by decide),h0]
     obtain ⟨r2,r3,q2,q3⟩:=zbu k1
     clear h0
     go_wp2
     refine bodyPost_ret (v:=.tuple #[.agg #[.int .i64 5,.int .i64 0],.int .i64 E5]) (by simp [results,Tryz.results51,go_sem,r2,r3]) rfl ⟨?_,?_⟩
     · rw [HN.out]
     · rw [HBW.out]
       exact HB.out.trans (zal _ _ (Nat.le_succ _))
  | 6,_ =>
   have ix:=fun W=>ix78_6 0 E1 E2 E3 E4 E5 E6 0 W
   have H1:=Lib.hid p1
   have H2:=Lib.hid p2
   have H3:=Lib.hid p3
   have H4:=Lib.hid p4
   have H5:=Lib.hid p5
   have H6:=Lib.hid p6
   clear p1 p2 p3 p4 p5 p6
   by_cases h0:E6=0
   · have h0':(E6 != 0)=false:=by simp [h0]
     have HZ0:=Lib.hid h0
     clear h0
     go_wp2
     go_roundw
     case rel=>exact ⟨7,by decide,by go_num,fun _=>H1.out (by decide),fun _=>H2.out (by decide),fun _=>H3.out (by decide),fun _=>H4.out (by decide),fun _=>H5.out (by decide),fun _=>HZ0.out,rfl⟩
     case measure=>decide
   · have h0':(E6 != 0)=true:=by simp [h0]
     have HN:Hid (V=(6,0,E6)):=by
      rw [Hid,← HV.out,zj6]
      simp [H1.out (by decide),H2.out (by decide),H3.out (by decide),H4.out (by decide),H5.out (by decide),h0]
     obtain ⟨r2,r3,q2,q3⟩:=zbu k1
     clear h0
     go_wp2
     refine bodyPost_ret (v:=.tuple #[.agg #[.int .i64 6,.int .i64 0],.int .i64 E6]) (by simp [results,Tryz.results51,go_sem,r2,r3]) rfl ⟨?_,?_⟩
     · rw [HN.out]
     · rw [HBW.out]
       exact HB.out.trans (zal _ _ (Nat.le_succ _))
  | 7,_ =>
   have ix:=fun W=>ix78_7 0 E1 E2 E3 E4 E5 E6 0 W
   have H1:=Lib.hid p1
   have H2:=Lib.hid p2
   have H3:=Lib.hid p3
   have H4:=Lib.hid p4
   have H5:=Lib.hid p5
   have H6:=Lib.hid p6
   clear p1 p2 p3 p4 p5 p6
   go_wp2
   go_roundw
   case rel=>exact ⟨8,by decide,by go_num,fun _=>H1.out (by decide),fun _=>H2.out (by decide),fun _=>H3.out (by decide),fun _=>H4.out (by decide),fun _=>H5.out (by decide),fun _=>H6.out (by decide),rfl⟩
   case measure=>decide
  | 8,_ =>
   have HVR:Hid (V=restV masts people):=by
    rw [Hid,← HV.out,zj6]
    simp [p1 (by decide),p2 (by decide),p3 (by decide),p4 (by decide),p5 (by decide),p6 (by decide)]
   clear p1 p2 p3 p4 p5 p6
   have HPL:Hid (people.length=np):=HH.out.people.1
   obtain ⟨EM,hEM⟩:∃ E,zgf 6 ms.n=E:=⟨_,rfl⟩
   obtain ⟨EP,hEP⟩:∃ E,zgf 12 np=E:=⟨_,rfl⟩
   obtain ⟨⟨CM1,CM2⟩,hCM⟩:∃ C,zfc nmE 0 [] masts=C:=⟨_,rfl⟩
   obtain ⟨⟨CP1,CP2⟩,hCP⟩:∃ C,zfc zio 0 [] people=C:=⟨_,rfl⟩
   obtain ⟨bc,hbc⟩:∃ b,(people.any fun p=>decide (p.2=3))=b:=⟨_,rfl⟩
   have HVE:Hid (V=if (if EM=0 then (CM1,CM2) else (0,EM)).2≠0 then (7,(if EM=0 then (CM1,CM2) else (0,EM)).1,(if EM=0 then (CM1,CM2) else (0,EM)).2) else if (if EP=0 then (CP1,CP2) else (0,EP)).2≠0 then (8,(if EP=0 then (CP1,CP2) else (0,EP)).1,(if EP=0 then (CP1,CP2) else (0,EP)).2) else (0,0,zag bc 12)):=by
    rw [Hid,HVR.out,restV,zkr,zkr,HH.out.masts.1,HPL.out,hEM,hEP,hCM,hCP,hbc]
   have HM3:Hid (zam [zag (decide (0<ms.n)) 10,zag (decide ((ms.n:Int)≤6)) 8]=EM):=hEM
   have HP3:Hid (zam [zag (decide (0<np)) 10,zag (decide ((np:Int)≤12)) 8]=EP):=hEP
   have HCM:=Lib.hid hCM
   have HCP:=Lib.hid hCP
   have HBC:=Lib.hid hbc
   clear hEM hEP hCM hCP hbc HVR
   have c23:=(cell_of_row wr _ 23 _ _ _ k0).trans (by rfl:_=some (.slice ms.A ms.n ms.c))
   go_upto_region 14 with (fail)
   have x0:=fun y:Xt wr=>y.cell c23
   refine zax [] [0,1,2,3,4,5,6,7,8,9] 10 [11,12,13] (fun w'=>∃ y:Xt wr,w'=y.1) (by as_aux_lemma=>kernel_rfl) (by as_aux_lemma=>kernel_rfl) ⟨⟨wr.drew,(Below.refl _ _).drew⟩,rfl⟩ ?_
   simp only [zad,zac,zaa,zX1,zX2,zX3]
   refine wpQuiet_nil ?_
   show wpQuiet _ _ _ _ _ _
   repeat (go_big_quiet_step (first | (go_at_call 48;exact Xt.calls_same (zcq _ _ _))))
   refine wpQuiet_nil ?_
   intro wb hx
   have hb3:=Xt.below hx
   clear x0 hx c23
   go_upto_region 15 with (go_at_call 47;refine (zde _ _ _).mono ?_;rintro e w' ⟨he,rfl⟩;rw [HM3.out] at he;subst he)
   refine zab ?_
   have HB5:∀ o,Below wr.heap.size wr (wb.alloc o):=fun o=>hb3.alloc hb3.size o
   generalize hw5:wb.alloc _=w5
   have hb5:Below wr.heap.size wr w5:=by rw [← hw5];exact HB5 _
   replace k0:=blk hb5 k0
   replace k1:=blk hb5 k1
   replace HB:=Lib.hid (HB.out.trans (hb5.mono (by omega)))
   replace hs:=Nat.le_trans hs hb5.size
   clear HB5 hb5 hw5 hb3 HM3
   by_cases hEM:EM=0
   · have g1:(EM == 0)=true:=by simp [hEM]
     have HV2:Hid (V=if CM2≠0 then (7,CM1,CM2) else if (if EP=0 then (CP1,CP2) else (0,EP)).2≠0 then (8,(if EP=0 then (CP1,CP2) else (0,EP)).1,(if EP=0 then (CP1,CP2) else (0,EP)).2) else (0,0,zag bc 12)):=by
      rw [Hid,HVE.out]
      simp only [if_pos hEM]
     clear HVE
     subst hEM
     have c23:=(cell_of_row w5 _ 23 _ _ _ k0).trans (by rfl:_=some (.slice ms.A ms.n ms.c))
     have NM:=zl5 w5 B ms.A ms.n ms.c masts (fun _=>0) HH.out.masts.1 (HH.out.masts.2.below (HB.out.mono hB)) (by omega) (by rw [← HH.out.masts.1];exact HS.out.masts.1) HH.out.cap.2.1 HS.out.masts.2 (fun W _ k _=>noMore_val k W)
     rw [zkz,HCM.out] at NM
     simp only at NM
     go_upto_region 17 with (go_at_call 82;refine NM.mono ?_;rintro e w7 ⟨rfl,hb7⟩)
     replace k0:=blk hb7 k0
     replace k1:=blk hb7 k1
     replace HB:=Lib.hid (HB.out.trans (hb7.mono (by omega)))
     replace hs:=Nat.le_trans hs hb7.size
     clear c23 NM hb7
     by_cases hC:CM2=0
     · have g2:(CM2 != 0)=false:=by simp [hC]
       have HV3:Hid (V=if (if EP=0 then (CP1,CP2) else (0,EP)).2≠0 then (8,(if EP=0 then (CP1,CP2) else (0,EP)).1,(if EP=0 then (CP1,CP2) else (0,EP)).2) else (0,0,zag bc 12)):=by
        rw [Hid,HV2.out,if_neg (fun h=>h hC)]
       have HC0:Hid (CM1=0):=by
        have h9:=chkN_zero (f:=nmE) masts [] 0
        rw [HCM.out] at h9
        exact h9 hC
       clear HV2 hC
       have c24:=(cell_of_row w7 _ 24 _ _ _ k0).trans (by rfl:_=some (.slice Ap np cp))
       go_upto_region 19 with (fail)
       have x0:=fun y:Xt w7=>y.cell c24
       refine zax [] [0,1,2,3,4,5,6,7,8,9] 10 [11,12] (fun w'=>∃ y:Xt w7,w'=y.1) (by as_aux_lemma=>kernel_rfl) (by as_aux_lemma=>kernel_rfl) ⟨⟨w7.drew,(Below.refl _ _).drew⟩,rfl⟩ ?_
       simp only [zad,zac,zaa,zX1,zX2,zX3]
       refine wpQuiet_nil ?_
       show wpQuiet _ _ _ _ _ _
       repeat (go_big_quiet_step (first | (go_at_call 48;exact Xt.calls_same (zcq _ _ _))))
       refine wpQuiet_nil ?_
       intro wd hx
       have hb3:=Xt.below hx
       clear x0 hx c24
       go_upto_region 20 with (go_at_call 47;refine (zde _ _ _).mono ?_;rintro e w' ⟨he,rfl⟩;rw [HP3.out] at he;subst he)
       refine zab ?_
       have HB5:∀ o,Below w7.heap.size w7 (wd.alloc o):=fun o=>hb3.alloc hb3.size o
       generalize hw5:wd.alloc _=w8
       have hb5:Below w7.heap.size w7 w8:=by rw [← hw5];exact HB5 _
       replace k0:=blk hb5 k0
       replace k1:=blk hb5 k1
       replace HB:=Lib.hid (HB.out.trans (hb5.mono (by omega)))
       replace hs:=Nat.le_trans hs hb5.size
       clear HB5 hb5 hw5 hb3 HP3
       by_cases hEP:EP=0
       · have g3:(EP == 0)=true:=by simp [hEP]
         have HV4:Hid (V=if CP2≠0 then (8,CP1,CP2) else (0,0,zag bc 12)):=by
          rw [Hid,HV3.out]
          simp only [if_pos hEP]
         clear HV3
         subst hEP
         have hpn:np≤1000:=HPL.out ▸ HS.out.people.1
         have c24:=(cell_of_row w8 _ 24 _ _ _ k0).trans (by rfl:_=some (.slice Ap np cp))
         obtain ⟨i1,hi1,hy0,hy1,hy2⟩:=info_parts info9
         go_wp2
         go_loopw [9,105] (fun un u wx=>PnRel w8 people np u un wx) (fun _ u _=>np - (intOf u).toNat)
         case atStart=>exact ⟨0,Nat.zero_le _,rfl,⟨rfl,.inl ⟨rfl,rfl⟩⟩,Below.refl _ _⟩
         case round =>
          clear c24
          obtain ⟨k,hk,rfl,hown,hb⟩:=hrel
          obtain ⟨An,cn,rfl⟩:=zcn hown
          have HOWN:=Lib.hid hown
          have HBK:=Lib.hid hb
          have hrp:=HH.out.people.2.below ((HB.out.trans (hb.mono (by omega))).mono hB)
          have hsk:=hb.size
          replace k0:=blk hb k0
          replace k1:=blk hb k1
          clear hown hb
          by_cases hlt:k<np
          · have hkl:k<people.length:=by rw [HPL.out];exact hlt
            obtain ⟨ev,hev⟩:∃ ev,people[k]?=some ev:=⟨_,List.getElem?_eq_getElem hkl⟩
            obtain ⟨bb,off,hA,hbB,z0,z1⟩:=Rd.sw hrp hev
            have HSV:=Lib.hid hev
            obtain ⟨s,r⟩:=ev
            simp only at z0 z1
            subst hA
            obtain ⟨e0,e1⟩:_∧_:=zaz (W:=wr.alloc (.cells #[.string s,.int .i64 r] 53)) (by rw [zae,if_pos rfl])
            have hba:=hB1 wr (.cells #[.string s,.int .i64 r] 53)
            have HBA:=Lib.hid (HBK.out.trans (hba.mono hsk))
            have hsa:=Nat.le_trans hsk hba.size
            have hown5:=zaf HOWN.out hba
            have HTK:=Lib.hid (zl6 HSV.out (fun x:Sw=>x.1))
            replace k0:=blk hba k0
            replace k1:=blk hba k1
            clear hba hkl hev HBK HOWN hrp
            go_upto_region 25 with (fail)
            clear z0 z1
            generalize wr.alloc (.cells #[.string s,.int .i64 r] 53)=wa at *
            generalize wr.heap.size=xb at *
            go_wp2_with (at_builtin;refine stp ?_)
            unfold Stp
            refine wpList_append_lies _ rfl _ _ 22 rfl w8.heap.size 9 i1 _ 1 16 Tryz.underlying22 hi1 hy0 hy1 hy2 rfl (by omega) (.slice An k cn) k _ rfl (hown5.alloc _) ⟨wa.heap.size,0,none⟩ 1 1 [.string s] rfl rfl (zez (by simp)) (by simp [Value.oneCell']) (by omega) (by simp only [maxLen];omega) (by omega) (by simp;omega) _ rfl ?_
            intro gg cap w6 hown6 hgrow6 hat6 hlt6
            have HB7:=Lib.hid ((HBA.out.alloc hsa _).grown hgrow6 (by simp;omega) (fun j hj=>(zbi hown5 hj).1))
            have HO6:Hid (w6.ownsRow w8.heap.size 9 1 (.slice (some ⟨gg,0,none⟩) (k+1) cap) (k+1) (strCells ((people.take (k+1)).map (·.1)))):=by
             rw [Hid,HTK.out]
             exact hown6
            clear hown6 hgrow6 hat6 hlt6 hown5
            go_wp2
            go_roundw
            case rel=>exact ⟨k+1,by omega,by go_num,HO6.out,HB7.out⟩
            case measure=>simp [intOf];omega
          · have hke:np=k:=by omega
            subst hke
            have HT:Hid (people.take np=people):=List.take_of_length_le (by rw [HPL.out];exact Nat.le_refl _)
            have hown:=HOWN.out
            rw [HT.out] at hown
            have hra:=za7 hown
            have hcc:=zbn hown
            replace HB:=Lib.hid (HB.out.trans (HBK.out.mono (by omega)))
            replace hs:=Nat.le_trans hs hsk
            have c24:=(cell_of_row wr _ 24 _ _ _ k0).trans (by rfl:_=some (.slice Ap np cp))
            have NP:=zj9 wr wr.heap.size An np cn (people.map (·.1)) (roleF people) (.pointer (some ⟨bw,0,none⟩)) (by rw [List.length_map];exact HPL.out) hra (Nat.le_refl _) hpn hcc (fun x hx=>by
             obtain ⟨y,hy,rfl⟩:=List.mem_map.1 hx
             exact HS.out.people.2 y hy) (fun W hbW k hk=>by
             have hkl:k<people.length:=by rw [HPL.out];exact hk
             obtain ⟨y,hy⟩:∃ y,people[k]?=some y:=⟨_,List.getElem?_eq_getElem hkl⟩
             have hr9:=role_val W B bw Ap np cp people HPL.out (HH.out.people.2.below ((HB.out.trans (hbW.mono (by omega))).mono hB)) (zat hbW c24) k y hy
             rw [roleF_at hy]
             exact hr9)
            rw [chkN_roles,HCP.out] at NP
            simp only at NP
            clear hown hra hcc c24 HOWN HBK hrp
            go_upto_region 28 with (go_at_call 82;refine NP.mono ?_;rintro e we ⟨rfl,hb9⟩)
            replace k0:=blk hb9 k0
            replace k1:=blk hb9 k1
            replace HB:=Lib.hid (HB.out.trans (hb9.mono (by omega)))
            replace hs:=Nat.le_trans hs hb9.size
            clear NP hb9
            by_cases hP:CP2=0
            · have g4:(CP2 != 0)=false:=by simp [hP]
              have HN:Hid (V=(0,0,zag bc 12)):=by rw [Hid,HV4.out,if_neg (fun h=>h hP)]
              have c24:=(cell_of_row we _ 24 _ _ _ k0).trans (by rfl:_=some (.slice Ap np cp))
              have CC:=zkc Ap np cp B people bc HBC.out we (by omega) HPL.out (HH.out.people.2.below (HB.out.mono hB)) (by omega)
              clear hP
              go_upto_region 31 with (go_at_call 86;refine CC.mono ?_;rintro e wf ⟨rfl,hb9⟩)
              replace k1:=blk hb9 k1
              have HBF:=Lib.hid (HB.out.trans (hb9.mono (by omega)))
              obtain ⟨r2,r3,q2,q3⟩:=zbu k1
              clear CC c24 hb9
              go_wp2_with (go_at_call 48;refine (zcq _ _ _).mono ?_;rintro e w' ⟨rfl,rfl⟩)
              refine bodyPost_ret (v:=.tuple #[.agg #[.int .i64 0,.int .i64 0],.int .i64 (zag bc 12)]) (by simp [results,Tryz.results51,go_sem,r2,r3]) rfl ⟨?_,?_⟩
              · rw [HN.out]
              · rw [HBW.out]
                exact HBF.out.trans (zal _ _ (Nat.le_succ _))
            · have g4:(CP2 != 0)=true:=by simp [hP]
              have HN:Hid (V=(8,CP1,CP2)):=by rw [Hid,HV4.out,if_pos hP]
              obtain ⟨r2,r3,q2,q3⟩:=zbu k1
              clear hP
              go_wp2
              refine bodyPost_ret (v:=.tuple #[.agg #[.int .i64 8,.int .i64 CP1],.int .i64 CP2]) (by simp [results,Tryz.results51,go_sem,r2,r3]) rfl ⟨?_,?_⟩
              · rw [HN.out]
              · rw [HBW.out]
                exact HB.out.trans (zal _ _ (Nat.le_succ _))
       · have g3:(EP == 0)=false:=by simp [hEP]
         have g4:(EP != 0)=true:=by simp [hEP]
         have HN:Hid (V=(8,CM1,EP)):=by
          rw [Hid,HV3.out,HC0.out]
          simp [hEP]
         obtain ⟨r2,r3,q2,q3⟩:=zbu k1
         clear hEP HV3
         go_wp2
         refine bodyPost_ret (v:=.tuple #[.agg #[.int .i64 8,.int .i64 CM1],.int .i64 EP]) (by simp [results,Tryz.results51,go_sem,r2,r3]) rfl ⟨?_,?_⟩
         · rw [HN.out]
         · rw [HBW.out]
           exact HB.out.trans (zal _ _ (Nat.le_succ _))
     · have g2:(CM2 != 0)=true:=by simp [hC]
       have HN:Hid (V=(7,CM1,CM2)):=by rw [Hid,HV2.out,if_pos hC]
       obtain ⟨r2,r3,q2,q3⟩:=zbu k1
       clear hC HV2
       go_wp2
       refine bodyPost_ret (v:=.tuple #[.agg #[.int .i64 7,.int .i64 CM1],.int .i64 CM2]) (by simp [results,Tryz.results51,go_sem,r2,r3]) rfl ⟨?_,?_⟩
       · rw [HN.out]
       · rw [HBW.out]
         exact HB.out.trans (zal _ _ (Nat.le_succ _))
   · have g1:(EM == 0)=false:=by simp [hEM]
     have g2:(EM != 0)=true:=by simp [hEM]
     have HN:Hid (V=(7,0,EM)):=by
      rw [Hid,HVE.out]
      simp [hEM]
     obtain ⟨r2,r3,q2,q3⟩:=zbu k1
     clear hEM HVE
     go_wp2
     refine bodyPost_ret (v:=.tuple #[.agg #[.int .i64 7,.int .i64 0],.int .i64 EM]) (by simp [results,Tryz.results51,go_sem,r2,r3]) rfl ⟨?_,?_⟩
     · rw [HN.out]
     · rw [HBW.out]
       exact HB.out.trans (zal _ _ (Nat.le_succ _))
end Go.Proofs.YtoodbfkbbchjiaaGreatDoor
