import Derived.Test.YtfdmeojcopkaoaaGreatDoorf3S3
import Derived.Test.YtfdmeojcopkaoaaGreatDoorf3S4
import Derived.Test.YtfdmeojcopkaoaaGreatDoorf3F2
set_option maxRecDepth 100000
set_option maxHeartbeats 16000000
namespace Go.Proofs.YtfdmeojcopkaoaaGreatDoor
open Go.RowKit
theorem info124s:(Tryz.prog.info? 124).map (fun i=>(i.zero,i.size,i.bytes))=some (some (.agg #[.int .i64 0,.int .i64 0,.int .i64 0,.bool false]),4,32):=by kernel_rfl
theorem info126s:(Tryz.prog.info? 126).map (fun i=>(i.zero,i.size,i.bytes))=some (some (.agg #[.int .i64 0,.int .i64 0,.int .i64 0,.int .i64 0,.int .i64 0,.int .i64 0]),6,48):=by kernel_rfl
theorem pcVals_one (x:Pc):∀ u∈zee x,u.oneCell'=true:=by
 intro u hu
 simp [zee] at hu
 rcases hu with rfl | rfl | rfl | rfl <;> rfl
theorem actVals_one (x:Act):∀ u∈zdc x,u.oneCell'=true:=by
 intro u hu
 simp [zdc] at hu
 rcases hu with rfl | rfl | rfl | rfl | rfl | rfl <;> rfl
def TrackPost (w:World) (nm:ByteArray) (n:Nat) (l:List Pc) (e:Ending) (w':World):Prop:=
 ∃ s:SlV,e=.returned (zd3 nm s.A s.n s.c)∧s.n=n∧w'.ownsRow w.heap.size 124 4 s.v s.n (zck l)∧Below w.heap.size w w'
def TablePost (w:World) (n m:Nat) (evs:List ByteArray) (acts:List Act) (e:Ending) (w':World):Prop:=
 ∃ s d:SlV,e=.returned (netV s.A s.n s.c d.A d.n d.c)∧s.n=n∧d.n=m∧n≤s.c∧w'.ownsRow w.heap.size 9 1 s.v s.n (strCells evs)∧w'.ownsRow w.heap.size 126 6 d.v d.n (zb5 acts)∧Below w.heap.size w w'
theorem zkf (w:World) (B:Nat) (nm:ByteArray) (s:SlV) (l:List Pc) (h:zcs w B s l.length (zck l)) (hB:B≤w.heap.size) (hn:l.length≤1000) :
 Calls Tryz.prog 33 #[zd3 nm s.A s.n s.c] w (TrackPost w nm s.n l):=by
 obtain ⟨A,n,c⟩:=s
 obtain ⟨hl,hr⟩:=h
 simp only at hl hr hn
 rw [hl] at hn
 show Calls Tryz.prog 33 #[.agg #[.string nm,.slice A n c]] w _
 have k0:((w.alloc (.cells #[.string nm,.slice A n c] 37)).alloc (.cells #[.string ⟨#[]⟩,.slice none 0 0] 37)).heap[w.heap.size]?=some (.cells #[.string nm,.slice A n c] 37 (0,0)):=by
  rw [zae,if_neg (by simp),zae,if_pos rfl]
 have k1:((w.alloc (.cells #[.string nm,.slice A n c] 37)).alloc (.cells #[.string ⟨#[]⟩,.slice none 0 0] 37)).heap[w.heap.size+1]?=some (.cells #[.string ⟨#[]⟩,.slice none 0 0] 37 (0,0)):=by
  rw [zae,if_pos (by simp)]
 have hb0:=hB2 w (.cells #[.string nm,.slice A n c] 37) (.cells #[.string ⟨#[]⟩,.slice none 0 0] 37)
 have hs:=hS2 w (.cells #[.string nm,.slice A n c] 37) (.cells #[.string ⟨#[]⟩,.slice none 0 0] 37)
 have hr0:=hr.below (hb0.mono hB)
 have HL:=Lib.hid hl
 have HB:=Lib.hid hb0
 obtain ⟨i1,hi1,hy0,hy1,hy2⟩:=info_parts info124s
 clear hl hr hb0
 go_enter Tryz.func33,Tryz.ntmps33
 go_upto_region 1 with (fail)
 generalize ((w.alloc (.cells #[.string nm,.slice A n c] 37)).alloc (.cells #[.string ⟨#[]⟩,.slice none 0 0] 37))=w0 at *
 generalize hbw:w.heap.size=bw at *
 have HBW:=Lib.hid hbw
 clear hbw
 obtain ⟨d0,d1⟩:_∧_:=zay k0
 have x0:=fun y:Xt w0=>y.cell d0
 have x1:=fun y:Xt w0=>y.cell d1
 refine zaj [6,7] (fun w'=>∃ y:Xt w0,w'=y.1) (by kernel_rfl) ⟨⟨w0.drew,(Below.refl _ _).drew⟩,rfl⟩ ?_
 refine zdv [0,1,3,4] 4 rfl (by kernel_rfl) ?_
 simp only [zad,zac,zaa,zX1,zX2,zX3]
 repeat (go_big_quiet_step (fail))
 refine wpQuiet_nil ?_
 have hbd:Below w0.heap.size w0 w0.drew:=(Below.refl _ _).drew
 show wpE _ _ _ _ _ _ _ _ _ w0.drew
 generalize w0.drew=wd at *
 clear x0 x1
 refine zak (i:=2) rfl (by kernel_rfl) rfl ?_
 unfold zap
 simp only [zad,zac,zaa,zX1,zX2,zX3]
 go_wp2
 have hbn:=hB1 wd (.cells #[] 124)
 have hbx:=hbd.trans (hbn.mono hbd.size)
 have hgx:=hbd.size
 have h0:=hA1 wd (.cells #[] 124)
 refine zab ⟨⟨⟨_,hbx⟩,rfl⟩,?_⟩
 clear hbn
 generalize wd.alloc (.cells #[] 124)=w8 at *
 generalize wd.heap.size=g at *
 have hrd:=hr0.below (hbx.mono (by omega))
 refine zak (i:=5) rfl (by kernel_rfl) rfl ?_
 unfold zap
 simp only [zad,zac,zaa,zX1,zX2,zX3]
 refine zbb w8 rfl _ _ 35 rfl w0.heap.size 124 i1 _ 4 32 Tryz.underlying35 hi1 hy0 hy1 hy2 rfl (by omega) g rfl h0 hgx B A n c (zck l) rfl (by rw [pcCells_len,HL.out]) hrd (zd8 pcVals_one _) (by simp only [maxLen];omega) (by omega) hbx.size ?_
 intro g2 c2 w9 hown hgrow _
 have hb9:Below w0.heap.size w0 w9:=hbx.grown hgrow hbx.size (fun k hk=>by rw [← Option.some.inj hk];exact hgx)
 have j1:=(hb9.block (bw+1) (by omega)).trans k1
 go_wp2
 refine zab ⟨⟨⟨_,hb9⟩,rfl⟩,?_⟩
 refine zau rfl (by kernel_rfl) ?_
 simp only [zad,zac,zaa,zX1,zX2,zX3]
 have HO:=Lib.hid hown
 have HB9:=Lib.hid hb9
 clear hrd hbx h0 hgrow hown hb9 hbd d0 d1 k0 k1
 go_wp2_with (with_reducible refine zat 37 ?_)
 unfold Stp
 refine wpList_store_row rfl 37 _ _ rfl (bw+1) _ rfl rfl 37 _ j1 (by kernel_rfl) rfl (by kernel_rfl) ?_
 go_wp2
 refine zab ?_
 go_wp2
 refine bodyPost_ret (v:=.agg #[.string nm,.slice (some ⟨g2,0,none⟩) n c2]) (results_cell_row rfl _ _ (bw+1) 37 _ (0,0) _ rfl (setRow_heap w9 (bw+1) _ _ 37 (0,0) j1) Tryz.underlying37 rfl (by kernel_rfl)) rfl ⟨⟨some ⟨g2,0,none⟩,n,c2⟩,rfl,rfl,?_,?_⟩
 · rw [HBW.out]
   exact za1 (zar HO.out _ (zbh HO.out (by omega))) (by omega)
 · rw [HBW.out]
   exact below_setRow (HB.out.trans (HB9.out.mono (by omega))) (by omega) _
def tabFr (bw:Nat) (A A2:Option Addr) (n c n2 c2:Nat) (e5 e6 e9:Value):Go.Act:=⟨#[.agg #[.slice A n c,.slice A2 n2 c2],.pointer (some ⟨bw,0,none⟩),.pointer (some ⟨(bw+1),0,none⟩),.pointer (some ⟨bw,0,none⟩),.slice A n c,e5,e6,.pointer (some ⟨bw,1,none⟩),.slice A2 n2 c2,e9,undef],[]⟩
def TabI (bw:Nat) (A A2:Option Addr) (n c n2 c2:Nat) (evs:List ByteArray) (acts:List Act) (w0:World) (L:Nat→Bool) (a:Go.Act) (w:World):Prop:=
 ∃ e5 e6 e9,a=tabFr bw A A2 n c n2 c2 e5 e6 e9∧Below w0.heap.size w0 w∧(L 2=true→OwAt w w0.heap.size 9 1 n (strCells evs) e5)∧(L 3=true→EmAt w w0.heap.size 126 (L 6) e6)∧(L 6=true→OwAt w w0.heap.size 126 6 n2 (zb5 acts) e9)
theorem zkg (w:World) (B:Nat) (s d:SlV) (evs:List ByteArray) (acts:List Act) (h:zcs w B s evs.length (strCells evs)) (h2:zcs w B d acts.length (zb5 acts)) (hB:B≤w.heap.size) (hn:evs.length≤1000) (hn2:acts.length≤1000) :
 Calls Tryz.prog 34 #[netV s.A s.n s.c d.A d.n d.c] w (TablePost w s.n d.n evs acts):=by
 obtain ⟨A,n,c⟩:=s
 obtain ⟨A2,n2,c2⟩:=d
 obtain ⟨hl,hr⟩:=h
 obtain ⟨hl2,hr2⟩:=h2
 simp only at hl hr hl2 hr2
 rw [hl] at hn
 rw [hl2] at hn2
 show Calls Tryz.prog 34 #[.agg #[.slice A n c,.slice A2 n2 c2]] w _
 have k0:((w.alloc (.cells #[.slice A n c,.slice A2 n2 c2] 42)).alloc (.cells #[.slice none 0 0,.slice none 0 0] 42)).heap[w.heap.size]?=some (.cells #[.slice A n c,.slice A2 n2 c2] 42 (0,0)):=by
  rw [zae,if_neg (by simp),zae,if_pos rfl]
 have k1:((w.alloc (.cells #[.slice A n c,.slice A2 n2 c2] 42)).alloc (.cells #[.slice none 0 0,.slice none 0 0] 42)).heap[w.heap.size+1]?=some (.cells #[.slice none 0 0,.slice none 0 0] 42 (0,0)):=by
  rw [zae,if_pos (by simp)]
 have hb0:=hB2 w (.cells #[.slice A n c,.slice A2 n2 c2] 42) (.cells #[.slice none 0 0,.slice none 0 0] 42)
 have hs:=hS2 w (.cells #[.slice A n c,.slice A2 n2 c2] 42) (.cells #[.slice none 0 0,.slice none 0 0] 42)
 have hr0:=hr.below (hb0.mono hB)
 have hr20:=hr2.below (hb0.mono hB)
 have HL:=Lib.hid hl
 have HL2:=Lib.hid hl2
 have HB:=Lib.hid hb0
 clear hl hr hl2 hr2 hb0
 go_enter Tryz.func34,Tryz.ntmps34
 go_upto_region 1 with (fail)
 generalize ((w.alloc (.cells #[.slice A n c,.slice A2 n2 c2] 42)).alloc (.cells #[.slice none 0 0,.slice none 0 0] 42))=w0 at *
 generalize hbw:w.heap.size=bw at *
 have HBW:=Lib.hid hbw
 clear hbw
 obtain ⟨d0,d1⟩:_∧_:=zay k0
 have x0:=fun y:Xt w0=>y.cell d0
 have x1:=fun y:Xt w0=>y.cell d1
 refine zaj [7,8] (fun w'=>∃ y:Xt w0,w'=y.1) (by kernel_rfl) ⟨⟨w0.drew,(Below.refl _ _).drew⟩,rfl⟩ ?_
 refine zdv [0,1,4,5] 5 rfl (by kernel_rfl) ?_
 simp only [zad,zac,zaa,zX1,zX2,zX3]
 repeat (go_big_quiet_step (fail))
 refine wpQuiet_nil ?_
 have hbd:Below w0.heap.size w0 w0.drew:=(Below.refl _ _).drew
 show wpE _ _ _ _ _ _ _ _ _ w0.drew
 generalize w0.drew=wd at *
 clear x0 x1
 refine zdr (g:=2) [2,3,6] (TabI bw A A2 n c n2 c2 evs acts w0) rfl (by kernel_rfl) ?_ ?_ ?_
 · exact ⟨undef,undef,undef,rfl,hbd,fun h=>absurd (show false=true from h) (by decide),fun h=>absurd (show false=true from h) (by decide),fun h=>absurd (show false=true from h) (by decide)⟩
 · intro a w8 hS8 hI
   obtain ⟨e5,e6,e9,rfl,hb8,hF5,_,hF9⟩:=hI
   obtain ⟨A5,c5,rfl,hc5,hf5⟩:=hF5 (by kernel_rfl)
   obtain ⟨A9,c9,rfl,hc9,hf9⟩:=hF9 (by kernel_rfl)
   refine zau rfl (by kernel_rfl) ?_
   simp only [zad,zac,zaa,zX1,zX2,zX3]
   unfold tabFr
   have j1:=(hb8.block (bw+1) (by omega)).trans k1
   have HO5:=Lib.hid hf5
   have HO9:=Lib.hid hf9
   have HB9:=Lib.hid hb8
   clear hf5 hf9 hb8 hS8 hbd d0 d1 k0 k1
   go_wp2_with (with_reducible refine zat 42 ?_)
   unfold Stp
   refine wpList_store_row rfl 42 _ _ rfl (bw+1) _ rfl rfl 42 _ j1 (by kernel_rfl) rfl (by kernel_rfl) ?_
   go_wp2
   refine zab ?_
   go_wp2
   refine bodyPost_ret (v:=.agg #[.slice A5 n c5,.slice A9 n2 c9]) (results_cell_row rfl _ _ (bw+1) 42 _ (0,0) _ rfl (setRow_heap w8 (bw+1) _ _ 42 (0,0) j1) Tryz.underlying42 rfl (by kernel_rfl)) rfl ⟨⟨A5,n,c5⟩,⟨A9,n2,c9⟩,rfl,rfl,rfl,hc5,?_,?_,?_⟩
   · rw [HBW.out]
     exact za1 (zar HO5.out _ (zbh HO5.out (by omega))) (by omega)
   · rw [HBW.out]
     exact za1 (zar HO9.out _ (zbh HO9.out (by omega))) (by omega)
   · rw [HBW.out]
     exact below_setRow (HB.out.trans (HB9.out.mono (by omega))) (by omega) _
 · intro i hi L a w8 hL hd hS8 hI
   obtain ⟨e5,e6,e9,rfl,hb8,hF5,hE6,hF9⟩:=hI
   simp only [List.mem_cons,List.not_mem_nil,or_false] at hi
   rcases hi with rfl | rfl | rfl
   · unfold zap
     simp only [zad,zac,zaa,zX1,zX2,zX3]
     unfold tabFr
     have RT:=zdq w8 B A n c evs HL.out (by omega) (hr0.below (hb8.mono (by omega))) (Nat.le_trans hB (Nat.le_trans (by omega) hb8.size))
     go_wp2_with (go_at_call 35;refine RT.mono ?_;rintro e w9 ⟨A5,c5,rfl,hc5,ho5,hb9⟩)
     have hbx:=hb8.trans (hb9.mono hb8.size)
     exact zab ⟨⟨⟨_,hbx⟩,rfl⟩,⟨_,e6,e9,rfl,hbx,fun _=>⟨A5,c5,rfl,hc5,za1 ho5 hb8.size⟩,fun h=>(hE6 h).keep hb9,fun h=>(hF9 h).keep hb9⟩⟩
   · unfold zap
     simp only [zad,zac,zaa,zX1,zX2,zX3]
     unfold tabFr
     go_wp2
     have hbn:=hB1 w8 (.cells #[] 126)
     have hbx:=hb8.trans (hbn.mono hb8.size)
     exact zab ⟨⟨⟨_,hbx⟩,rfl⟩,⟨e5,_,e9,rfl,hbx,fun h=>(hF5 h).keep hbn,fun _=>⟨w8.heap.size,rfl,hb8.size,fun _=>by rw [zae,if_pos rfl]⟩,fun h=>(hF9 h).keep hbn⟩⟩
   · obtain ⟨g,rfl,hg,h0⟩:=hE6 (hd 3 (by kernel_rfl))
     replace h0:=h0 hL
     obtain ⟨i1,hi1,hy0,hy1,hy2⟩:=info_parts info126s
     have hrd:=hr20.below (hb8.mono (by omega))
     unfold zap
     simp only [zad,zac,zaa,zX1,zX2,zX3]
     unfold tabFr
     refine zbb w8 rfl _ _ 40 rfl w0.heap.size 126 i1 _ 6 48 Tryz.underlying40 hi1 hy0 hy1 hy2 rfl (by omega) g rfl h0 hg B A2 n2 c2 (zb5 acts) rfl (by rw [zhr,HL2.out]) hrd (zd8 actVals_one _) (by simp only [maxLen];omega) (by omega) hb8.size ?_
     intro g2 c9 w9 hown hgrow _
     have hbx:Below w0.heap.size w0 w9:=hb8.grown hgrow hb8.size (fun k hk=>by rw [← Option.some.inj hk];exact hg)
     have hcp:=zbn hown
     go_wp2
     exact zab ⟨⟨⟨_,hbx⟩,rfl⟩,⟨e5,_,_,rfl,hbx,fun h=>(hF5 h).grown hgrow h0 (by decide),fun h=>(hE6 h).used,fun _=>⟨_,_,rfl,hcp,hown⟩⟩⟩
end Go.Proofs.YtfdmeojcopkaoaaGreatDoor
namespace Go.Proofs.YtfdmeojcopkaoaaGreatDoor
open Go.RowKit Go Go.Instr
section
variable {P:Program}
theorem zg4 (w:World) (g o:Nat) (t ty:TypeId) (cur cells new:Array Value) (hg:w.heap[g]?=some (.cells cur t (0,0))) (hi:(P.info? ty).map (·.size)=some cells.size) (hl:o+cells.size≤cur.size)
 (h1:cells.all (·.oneCell')=true) (hn:(cur.toList.take o++cells.toList++cur.toList.drop (o+cells.size)).toArray=new) :
 (storeVar ty ⟨g,o,none⟩ (.agg cells)).run P w=.ok () (w.setRow g new):=by
 have:=run_storeCells_at (P:=P) g o t cells.toList 0 cur w hg (by simpa using hl) (fun v hv=>(Array.all_eq_true_iff_forall_mem.1 h1) v (by simpa using hv))
 cases hq:P.info? ty with
 | none=>simp [hq] at hi
 | some i =>
  have hs:cells.size=i.size:=by simp [hq] at hi;omega
  simp only [Nat.add_zero,Array.length_toList] at this
  rw [hn] at this
  simp [storeVar,sizeOf,typeInfo,hq,Value.cells,hs,this]
theorem zbi {ops:Array Oper} {rest:List Oper} {op:Oper} {a:Go.Act} {w:World} {Q:Exit→Go.Act→World→Prop} (hgd:op.guard=none) (ty:TypeId) (x y:Operand) (ho:op.op=.store ty x y)
 (g o:Nat) (cells:Array Value) (hx:a.eval x=.pointer (some ⟨g,o,none⟩)) (hy:a.eval y=.agg cells) (t:TypeId) (cur new:Array Value)
 (hg:w.heap[g]?=some (.cells cur t (0,0))) (hi:(P.info? ty).map (·.size)=some cells.size) (hl:o+cells.size≤cur.size) (h1:cells.all (·.oneCell')=true) (hn:(cur.toList.take o++cells.toList++cur.toList.drop (o+cells.size)).toArray=new)
 (h:wpList P ops Q rest (a.put op.dst undef) (w.setRow g new)):wpList P ops Q (op :: rest) a w:=
 wpList_plain hgd fun _ hK=>by
  unfold Oper.wp execOp
  simp only [ho,hx,hy,Instr.storeAt,Instr.sureAddr,Sem.run_bind,Sem.run_pure,Result.andThen_ok,zg4 w g o t ty cur cells new hg hi hl h1 hn]
  exact hK _ _ h
end
theorem info77s:(Tryz.prog.info? 77).map (fun i=>(i.zero,i.size,i.bytes))=some (some (.agg #[.string ⟨#[]⟩,.int .i64 0]),2,24):=by kernel_rfl
theorem HouseAt.belowC {w w':World} {B:Nat} {p:HouseV} (h:HouseAt w B p) (hb:Below B w w'):HouseAt w' B p:=
 ⟨h.plant.below hb,h.net.belowC hb,h.vanes.below hb,h.pcs.below hb,h.evs.below hb,h.acts.below hb,h.masts.below hb,h.people.below hb,h.cap⟩
structure HouseOw (w:World) (x:Nat) (q:HouseV):Prop where
 plant:PlantOw w x q.plant
 net:FeedOw w x q.net
 vanes:w.ownsRow x 3 1 q.vanes.vs.v q.vanes.vs.n (zah q.vanes.vanes)
 pcs:w.ownsRow x 124 4 q.ps.v q.ps.n (zck q.pcs)
 evs:w.ownsRow x 9 1 q.es.v q.es.n (strCells q.evs)
 acts:w.ownsRow x 126 6 q.acs.v q.acs.n (zb5 q.acts)
 masts:w.ownsRow x 9 1 q.ms.v q.ms.n (strCells q.masts)
 people:w.ownsRow x 77 2 q.pp.v q.pp.n (zbk q.people)
 len:q.vanes.vanes.length=q.vanes.vs.n∧q.pcs.length=q.ps.n∧q.evs.length=q.es.n∧q.acts.length=q.acs.n∧q.masts.length=q.ms.n∧q.people.length=q.pp.n
theorem HouseOw.keep {w w':World} {x:Nat} {q:HouseV} (h:HouseOw w x q) (hb:Below w.heap.size w w'):HouseOw w' x q:=
 ⟨h.plant.keep hb,h.net.keep hb,zag h.vanes hb,zag h.pcs hb,zag h.evs hb,zag h.acts hb,zag h.masts hb,zag h.people hb,h.len⟩
theorem HouseOw.base {w:World} {x x':Nat} {q:HouseV} (h:HouseOw w x q) (hx:x'≤x):HouseOw w x' q:=
 ⟨h.plant.base hx,h.net.base hx,za1 h.vanes hx,za1 h.pcs hx,za1 h.evs hx,za1 h.acts hx,za1 h.masts hx,za1 h.people hx,h.len⟩
theorem HouseOw.setRow {w:World} {x g:Nat} {q:HouseV} (h:HouseOw w x q) (cs:Array Value) (hg:g<x):HouseOw (w.setRow g cs) x q:=
 ⟨h.plant.setRow cs hg,h.net.setRow cs hg,zar h.vanes cs (zbh h.vanes hg),zar h.pcs cs (zbh h.pcs hg),zar h.evs cs (zbh h.evs hg),zar h.acts cs (zbh h.acts hg),zar h.masts cs (zbh h.masts hg),zar h.people cs (zbh h.people hg),h.len⟩
theorem HouseOw.at {w:World} {x:Nat} {q:HouseV} (h:HouseOw w x q):HouseAt w w.heap.size q:=
 ⟨h.plant.at,h.net.at,⟨h.len.1,zbe h.vanes⟩,⟨h.len.2.1,zbe h.pcs⟩,⟨h.len.2.2.1,zbe h.evs⟩,⟨h.len.2.2.2.1,zbe h.acts⟩,⟨h.len.2.2.2.2.1,zbe h.masts⟩,⟨h.len.2.2.2.2.2,zbe h.people⟩,zbn h.evs,zbn h.masts,zbn h.people⟩
structure HouseV.like (h q:HouseV):Prop where
 secs:q.plant.secs=h.plant.secs
 trains:q.plant.trains=h.plant.trains
 sws:q.plant.sws=h.plant.sws
 rts:q.plant.rts.map RtV.key=h.plant.rts.map RtV.key
 sts:q.net.sts=h.net.sts
 fss:q.net.fss=h.net.fss
 tns:q.net.tns.map TnV.key=h.net.tns.map TnV.key
 vanes:{ q.vanes with vs:=h.vanes.vs }=h.vanes
 rest:q.tn=h.tn∧q.pcs=h.pcs∧q.sys=h.sys∧q.evs=h.evs∧q.acts=h.acts∧q.masts=h.masts∧q.people=h.people
def HousePost2 (w:World) (p:HouseV) (e:Ending) (w':World):Prop:=
 ∃ q:HouseV,p.like q∧e=.returned (.agg (zaq q).toArray)∧HouseOw w' w.heap.size q∧Below w.heap.size w w'
end Go.Proofs.YtfdmeojcopkaoaaGreatDoor
namespace Go.Proofs.YtfdmeojcopkaoaaGreatDoor
theorem ziz {α β:Type} (k:α→β) (f:List α→α→Int) (g:List β→β→Int) (hf:∀ pre x,f pre x=g (pre.map k) (k x)):∀ (l pre:List α),za4 f pre l=za4 g (pre.map k) (l.map k)
 | [],_=>rfl
 | x :: l,pre=>by
  rw [za4,List.map_cons,za4,hf,ziz k f g hf l,List.map_append]
  rfl
theorem zj4 {α β:Type} (k:α→β) (f:List α→α→Int) (g:List β→β→Int) (hf:∀ pre x,f pre x=g (pre.map k) (k x)) {l l':List α} (h:l'.map k=l.map k):za4 f [] l'=za4 f [] l:=by
 rw [ziz k f g hf,ziz k f g hf,h]
def rtK (m:Nat) (sws:List Sw) (pre:List (ByteArray × List Int × List Int)) (r:ByteArray × List Int × List Int):Int:=zam [zaf (zba r.1) 4,zaf (!zcy (pre.map (·.1)) r.1) 5,rtE1 m sws ⟨r.1,⟨none,0,0⟩,r.2.1,⟨none,0,0⟩,r.2.2⟩]
theorem rtE_key (m:Nat) (sws:List Sw) (pre:List RtV) (r:RtV):rtE m sws pre r=rtK m sws (pre.map RtV.key) (RtV.key r):=by
 unfold rtE rtK
 rw [List.map_map]
 rfl
def tnK (m:Nat) (pre:List (ByteArray × Int × Int × List (Int × Int))) (r:ByteArray × Int × Int × List (Int × Int)):Int:=zam [zaf (zba r.1) 4,zaf (!zcy (pre.map (·.1)) r.1) 5,trE m ⟨r.1,r.2.1,r.2.2.1,⟨none,0,0⟩,r.2.2.2⟩]
theorem tnE_key (m:Nat) (pre:List TnV) (r:TnV):tnE m pre r=tnK m (pre.map TnV.key) (TnV.key r):=by
 unfold tnE tnK
 rw [List.map_map]
 rfl
theorem zfm {α β:Type} {k:α→β} {l l':List α} (h:l'.map k=l.map k):l'.length=l.length:=by
 have:=congrArg List.length h
 simpa using this
theorem houseE_like {h q:HouseV} (e:h.like q):zfy q=zfy h:=by
 obtain ⟨e1,e2,e3,e4,e5,e6,e7,e8,e9,e10,e11,e12,e13,e14,e15⟩:=e
 have p:zch q.plant=zch h.plant:=by
  unfold zch
  rw [e1,e2,e3,zfm e4,zj4 RtV.key _ (rtK h.plant.secs.length h.plant.sws) (rtE_key _ _) e4]
 have f:ze9 q.net=ze9 h.net:=by
  unfold ze9
  rw [e5,e6,zfm e7,zj4 TnV.key _ (tnK h.net.fss.length) (tnE_key _) e7]
 have v:zja q.vanes=zja h.vanes:=by
  rw [← e8]
  rfl
 unfold zfy
 rw [p,f,v,e9,e10,e11,e12,e13,e14,e15]
theorem mem_like {α β:Type} {k:α→β} {l l':List α} (h:l'.map k=l.map k) {P:β→Prop} (hp:∀ x∈l,P (k x)):∀ x∈l',P (k x):=by
 intro x hx
 have h1:k x∈l.map k:=by rw [← h];exact List.mem_map_of_mem hx
 obtain ⟨y,hy,he⟩:=List.mem_map.1 h1
 rw [← he]
 exact hp y hy
theorem HouseS_like {h q:HouseV} (e:h.like q) (s:HouseS h):HouseS q:=by
 obtain ⟨e1,e2,e3,e4,e5,e6,e7,e8,e9,e10,e11,e12,e13,e14,e15⟩:=e
 refine ⟨⟨by rw [e1];exact s.plant.secs,by rw [e2];exact s.plant.trains,by rw [e3];exact s.plant.sws,by rw [zfm e4];exact s.plant.rts.1,?_⟩,⟨by rw [e5];exact s.net.sts,by rw [e6];exact s.net.fss,by rw [zfm e7];exact s.net.tns.1,?_⟩,?_,by rw [e9];exact s.tn,by rw [e10];exact s.pcs,by rw [e12];exact s.evs,by rw [e13];exact s.acts,by rw [e14];exact s.masts,by rw [e15];exact s.people⟩
 · exact mem_like (P:=fun x=>x.1.size≤1000∧x.2.1.length≤1000∧x.2.2.length≤1000) e4 s.plant.rts.2
 · exact mem_like (P:=fun x=>x.1.size≤1000∧x.2.2.2.length≤1000) e7 s.net.tns.2
 · have h1:q.vanes.vanes=h.vanes.vanes:=by rw [← e8]
   rw [h1]
   exact s.vanes
end Go.Proofs.YtfdmeojcopkaoaaGreatDoor
