import Derived.Test.YtoodbfkbbchjiaaGreatDoorf3S3
import Derived.Test.YtoodbfkbbchjiaaGreatDoorf3X4
import Derived.Maps.OwnOps
import Derived.Maps.OwnSet
import Derived.Lib.SplitLaws
import Derived.Test.YtoodbfkbbchjiaaGreatDoorf3A4
import Derived.Test.YtoodbfkbbchjiaaGreatDoorf3F3
set_option maxRecDepth 100000
set_option maxHeartbeats 16000000
namespace Go.Proofs.YtoodbfkbbchjiaaGreatDoor
open Go.RowKit
theorem info76s:(Tryz.prog.info? 76).map (fun i=>(i.zero,i.size,i.bytes))=some (some (.agg #[.string ⟨#[]⟩,.int .i64 0]),2,24):=by kernel_rfl
theorem info78s:(Tryz.prog.info? 78).map (fun i=>(i.zero,i.size,i.bytes))=some (some (.agg #[.string ⟨#[]⟩,.slice none 0 0,.slice none 0 0]),3,64):=by kernel_rfl
theorem zkj (x:Sw):∀ u∈zgq x,u.oneCell'=true:=by
 intro u hu
 simp [zgq] at hu
 rcases hu with rfl | rfl <;> rfl
def RtV.key (r:RtV):ByteArray × List Int × List Int:=(r.nm,r.secs,r.needs)
structure PlantOw (w:World) (x:Nat) (q:PlantV):Prop where
 secs:w.ownsRow x 9 1 q.ss.v q.ss.n (strCells q.secs)
 trains:w.ownsRow x 9 1 q.ts.v q.ts.n (strCells q.trains)
 sws:w.ownsRow x 76 2 q.ws.v q.ws.n (zbl q.sws)
 rts:w.ownsRow x 78 3 q.rs.v q.rs.n (zd1 q.rts)
 rt:∀ r∈q.rts,r.secs.length=r.s.n∧r.needs.length=r.d.n∧w.ownsRow x 3 1 r.s.v r.s.n (zai r.secs)∧w.ownsRow x 3 1 r.d.v r.d.n (zai r.needs)
 len:q.secs.length=q.ss.n∧q.trains.length=q.ts.n∧q.sws.length=q.ws.n∧q.rts.length=q.rs.n
theorem PlantOw.keep {w w':World} {x:Nat} {q:PlantV} (h:PlantOw w x q) (hb:Below w.heap.size w w'):PlantOw w' x q:=
 ⟨zaf h.secs hb,zaf h.trains hb,zaf h.sws hb,zaf h.rts hb,fun t ht=>⟨(h.rt t ht).1,(h.rt t ht).2.1,zaf (h.rt t ht).2.2.1 hb,zaf (h.rt t ht).2.2.2 hb⟩,h.len⟩
theorem PlantOw.base {w:World} {x x':Nat} {q:PlantV} (h:PlantOw w x q) (hx:x'≤x):PlantOw w x' q:=
 ⟨za0 h.secs hx,za0 h.trains hx,za0 h.sws hx,za0 h.rts hx,fun t ht=>⟨(h.rt t ht).1,(h.rt t ht).2.1,za0 (h.rt t ht).2.2.1 hx,za0 (h.rt t ht).2.2.2 hx⟩,h.len⟩
theorem PlantOw.setRow {w:World} {x g:Nat} {q:PlantV} (h:PlantOw w x q) (cs:Array Value) (hg:g<x):PlantOw (w.setRow g cs) x q:=
 ⟨zaq h.secs cs (zbh h.secs hg),zaq h.trains cs (zbh h.trains hg),zaq h.sws cs (zbh h.sws hg),zaq h.rts cs (zbh h.rts hg),fun t ht=>⟨(h.rt t ht).1,(h.rt t ht).2.1,zaq (h.rt t ht).2.2.1 cs (zbh (h.rt t ht).2.2.1 hg),zaq (h.rt t ht).2.2.2 cs (zbh (h.rt t ht).2.2.2 hg)⟩,h.len⟩
theorem PlantOw.at {w:World} {x:Nat} {q:PlantV} (h:PlantOw w x q):PlantAt w w.heap.size q:=
 ⟨⟨h.len.1,za7 h.secs⟩,⟨h.len.2.1,za7 h.trains⟩,⟨h.len.2.2.1,za7 h.sws⟩,⟨h.len.2.2.2,za7 h.rts⟩,fun t ht=>⟨⟨(h.rt t ht).1,za7 (h.rt t ht).2.2.1⟩,⟨(h.rt t ht).2.1,za7 (h.rt t ht).2.2.2⟩⟩,zbn h.secs,zbn h.trains,zbn h.sws,zbn h.rts,fun t ht=>zbn (h.rt t ht).2.2.1⟩
def PlantPost (w:World) (p:PlantV) (e:Ending) (w':World):Prop:=
 ∃ q:PlantV,q.secs=p.secs∧q.trains=p.trains∧q.sws=p.sws∧q.rts.map RtV.key=p.rts.map RtV.key∧e=.returned (.agg (zap q).toArray)∧PlantOw w' w.heap.size q∧Below w.heap.size w w'
structure CppO (w:World) (x:Nat) (p:PlantV) (A1 A2 A4:Option Addr) (c1 c2 c4:Nat) (q:List RtV):Prop where
 secs:w.ownsRow x 9 1 (.slice A1 p.ss.n c1) p.ss.n (strCells p.secs)
 trains:w.ownsRow x 9 1 (.slice A2 p.ts.n c2) p.ts.n (strCells p.trains)
 sws:w.ownsRow x 76 2 (.slice A4 p.ws.n c4) p.ws.n (zbl p.sws)
 rt:∀ r∈q,r.secs.length=r.s.n∧r.needs.length=r.d.n∧w.ownsRow x 3 1 r.s.v r.s.n (zai r.secs)∧w.ownsRow x 3 1 r.d.v r.d.n (zai r.needs)
theorem CppO.keep {w w':World} {x:Nat} {p:PlantV} {A1 A2 A4:Option Addr} {c1 c2 c4:Nat} {q:List RtV} (h:CppO w x p A1 A2 A4 c1 c2 c4 q) (hb:Below w.heap.size w w'):CppO w' x p A1 A2 A4 c1 c2 c4 q:=
 ⟨zaf h.secs hb,zaf h.trains hb,zaf h.sws hb,fun t ht=>⟨(h.rt t ht).1,(h.rt t ht).2.1,zaf (h.rt t ht).2.2.1 hb,zaf (h.rt t ht).2.2.2 hb⟩⟩
theorem CppO.other {w w':World} {x:Nat} {p:PlantV} {A1 A2 A4:Option Addr} {c1 c2 c4:Nat} {q:List RtV} (h:CppO w x p A1 A2 A4 c1 c2 c4 q) (hk:∀ (k t:Nat) (cur:Array Value),(t=9∨t=76∨t=3)→w.heap[k]?=some (.cells cur t (0,0))→w'.heap[k]?=w.heap[k]?):CppO w' x p A1 A2 A4 c1 c2 c4 q:=
 ⟨zbc h.secs fun k cur h1=>hk k 9 cur (.inl rfl) h1,zbc h.trains fun k cur h1=>hk k 9 cur (.inl rfl) h1,zbc h.sws fun k cur h1=>hk k 76 cur (.inr (.inl rfl)) h1,fun t ht=>⟨(h.rt t ht).1,(h.rt t ht).2.1,zbc (h.rt t ht).2.2.1 fun k cur h1=>hk k 3 cur (.inr (.inr rfl)) h1,zbc (h.rt t ht).2.2.2 fun k cur h1=>hk k 3 cur (.inr (.inr rfl)) h1⟩⟩
def CppRel (x b3:Nat) (w0:World) (p:PlantV) (A1 A2 A4:Option Addr) (c1 c2 c4:Nat) (u:Value) (wr:World):Prop:=∃ (k:Nat) (A3:Option Addr) (c3:Nat) (q:List RtV),
 k≤p.rs.n∧u=.int .i64 k∧Below x w0 wr∧wr.heap[b3]?=some (.cells #[.slice A1 p.ss.n c1,.slice A2 p.ts.n c2,.slice A4 p.ws.n c4,.slice A3 k c3] 26 (0,0))∧CppO wr x p A1 A2 A4 c1 c2 c4 q∧wr.ownsRow x 78 3 (.slice A3 k c3) k (zd1 q)∧q.map RtV.key=(p.rts.take k).map RtV.key
theorem PlantAt.belowC {w w':World} {B:Nat} {p:PlantV} (h:PlantAt w B p) (hb:Below B w w'):PlantAt w' B p:=h.below hb
def pltFr (bw:Nat) (As At Aw Ar:Option Addr) (ns cs nt ct nw cw nr cr:Nat) (e3 e8 e11 e12 e15 e16:Value):Go.Act:=⟨#[.agg #[.slice As ns cs,.slice At nt ct,.slice Aw nw cw,.slice Ar nr cr],.pointer (some ⟨bw,0,none⟩),.pointer (some ⟨(bw+1),0,none⟩),e3,undef,undef,.pointer (some ⟨bw,0,none⟩),.slice As ns cs,e8,.pointer (some ⟨bw,1,none⟩),.slice At nt ct,e11,e12,.pointer (some ⟨bw,2,none⟩),.slice Aw nw cw,e15,e16,undef,undef,undef,undef,undef,undef,undef,undef,undef,undef,undef,undef,undef,undef,undef,undef,undef,undef,undef,undef,undef,undef,undef,undef,undef,undef,undef],[]⟩
def PltI (bw:Nat) (As At Aw Ar:Option Addr) (ns cs nt ct nw cw nr cr:Nat) (secs trains:List ByteArray) (sws:List Sw) (w0:World) (L:Nat→Bool) (a:Go.Act) (w:World):Prop:=
 ∃ e3 e8 e11 e12 e15 e16,a=pltFr bw As At Aw Ar ns cs nt ct nw cw nr cr e3 e8 e11 e12 e15 e16∧Below w0.heap.size w0 w ∧
  (L 2=true→OwAt w w0.heap.size 9 1 ns (strCells secs) e8)∧(L 5=true→OwAt w w0.heap.size 9 1 nt (strCells trains) e11)∧(L 6=true→EmAt w w0.heap.size 76 (L 9) e12)∧(L 9=true→OwAt w w0.heap.size 76 2 nw (zbl sws) e15) ∧
  (L 10=true→L 2=true∧L 5=true∧L 9=true∧e16=.agg #[e8,e11,e15,.slice none 0 0])∧(L 11=true→BlAt w w0.heap.size (.cells #[.slice none 0 0,.slice none 0 0,.slice none 0 0,.slice none 0 0] 26 (0,0)) e3)
theorem zlu (w:World) (B:Nat) (p:PlantV) (h:PlantAt w B p) (hS:PlantS p) (hB:B≤w.heap.size) :
 Calls Tryz.prog 25 #[.agg (zap p).toArray] w (PlantPost w p):=by
 obtain ⟨⟨As,ns,cs⟩,secs,⟨At,nt,ct⟩,trains,⟨Aw,nw,cw⟩,sws,⟨Ar,nr,cr⟩,rts⟩:=p
 show Calls Tryz.prog 25 #[.agg #[.slice As ns cs,.slice At nt ct,.slice Aw nw cw,.slice Ar nr cr]] w _
 have hl1:secs.length=ns:=h.secs.1
 have hl2:trains.length=nt:=h.trains.1
 have hl3:sws.length=nw:=h.sws.1
 have hl4:rts.length=nr:=h.rts.1
 have hn1:ns≤1000:=by rw [← hl1];exact hS.secs.1
 have hn2:nt≤1000:=by rw [← hl2];exact hS.trains.1
 have hn3:nw≤1000:=by rw [← hl3];exact hS.sws.1
 have hn4:nr≤1000:=by rw [← hl4];exact hS.rts.1
 have k0:((w.alloc (.cells #[.slice As ns cs,.slice At nt ct,.slice Aw nw cw,.slice Ar nr cr] 26)).alloc (.cells #[.slice none 0 0,.slice none 0 0,.slice none 0 0,.slice none 0 0] 26)).heap[w.heap.size]?=some (.cells #[.slice As ns cs,.slice At nt ct,.slice Aw nw cw,.slice Ar nr cr] 26 (0,0)):=by
  rw [zae,if_neg (by simp),zae,if_pos rfl]
 have k1:((w.alloc (.cells #[.slice As ns cs,.slice At nt ct,.slice Aw nw cw,.slice Ar nr cr] 26)).alloc (.cells #[.slice none 0 0,.slice none 0 0,.slice none 0 0,.slice none 0 0] 26)).heap[w.heap.size+1]?=some (.cells #[.slice none 0 0,.slice none 0 0,.slice none 0 0,.slice none 0 0] 26 (0,0)):=by
  rw [zae,if_pos (by simp)]
 have hb0:=hB2 w (.cells #[.slice As ns cs,.slice At nt ct,.slice Aw nw cw,.slice Ar nr cr] 26) (.cells #[.slice none 0 0,.slice none 0 0,.slice none 0 0,.slice none 0 0] 26)
 have hs:=hS2 w (.cells #[.slice As ns cs,.slice At nt ct,.slice Aw nw cw,.slice Ar nr cr] 26) (.cells #[.slice none 0 0,.slice none 0 0,.slice none 0 0,.slice none 0 0] 26)
 have HH:=Lib.hid ((h.keep hb0).mono hB)
 have HS:=Lib.hid hS
 have HB:=Lib.hid hb0
 have HL1:=Lib.hid hl1
 have HL2:=Lib.hid hl2
 have HL3:=Lib.hid hl3
 have HL4:=Lib.hid hl4
 clear hb0 h hS hl1 hl2 hl3 hl4
 go_enter Tryz.func25,Tryz.ntmps25
 go_upto_region 1 with (fail)
 generalize ((w.alloc (.cells #[.slice As ns cs,.slice At nt ct,.slice Aw nw cw,.slice Ar nr cr] 26)).alloc (.cells #[.slice none 0 0,.slice none 0 0,.slice none 0 0,.slice none 0 0] 26))=w0 at *
 generalize hbw:w.heap.size=bw at *
 have HBW:=Lib.hid hbw
 clear hbw
 obtain ⟨d0,d1,d2,d3⟩:_∧_∧_∧_:=zbo k0
 have x0:=fun y:Xt w0=>y.cell d0
 have x1:=fun y:Xt w0=>y.cell d1
 have x2:=fun y:Xt w0=>y.cell d2
 refine zak [12] (fun w'=>∃ y:Xt w0,w'=y.1) (by kernel_rfl) ⟨⟨w0.drew,(Below.refl _ _).drew⟩,rfl⟩ ?_
 refine zdx [0,1,3,4,7,8] 7 rfl (by kernel_rfl) ?_
 simp only [zad,zac,zaa,zX1,zX2,zX3]
 repeat (go_big_quiet_step (fail))
 refine wpQuiet_nil ?_
 have hbd:Below w0.heap.size w0 w0.drew:=(Below.refl _ _).drew
 show wpE _ _ _ _ _ _ _ _ _ w0.drew
 generalize w0.drew=wd at *
 clear x0 x1 x2
 refine zdt (g:=1) [2,5,6,9,10,11] (PltI bw As At Aw Ar ns cs nt ct nw cw nr cr secs trains sws w0) rfl (by kernel_rfl) ?_ ?_ ?_
 · exact ⟨undef,undef,undef,undef,undef,undef,rfl,hbd,fun h=>absurd (show false=true from h) (by decide),fun h=>absurd (show false=true from h) (by decide),fun h=>absurd (show false=true from h) (by decide),fun h=>absurd (show false=true from h) (by decide),fun h=>absurd (show false=true from h) (by decide),fun h=>absurd (show false=true from h) (by decide)⟩
 · intro a w8 hS8 hI
   obtain ⟨e3,e8,e11,e12,e15,e16,rfl,hb8,hF2,hF5,_,hF9,hF10,hB3⟩:=hI
   obtain ⟨A1,c1,rfl,hc1,hf1⟩:=hF2 (by kernel_rfl)
   obtain ⟨A2,c2,rfl,hc2,hf2⟩:=hF5 (by kernel_rfl)
   obtain ⟨A4,c4,rfl,hc4,hf4⟩:=hF9 (by kernel_rfl)
   obtain ⟨_,_,_,rfl⟩:=hF10 (by kernel_rfl)
   obtain ⟨b3,rfl,hx3,hk3⟩:=hB3 (by kernel_rfl)
   refine zau rfl (by kernel_rfl) ?_
   simp only [zad,zac,zaa,zX1,zX2,zX3]
   unfold pltFr
   refine wpList_store_row rfl 26 _ _ rfl b3 #[.slice A1 ns c1,.slice A2 nt c2,.slice A4 nw c4,.slice none 0 0] rfl rfl 26 _ hk3 (by kernel_rfl) rfl (by kernel_rfl) ?_
   go_wp2
   refine zab ?_
   have hkr:=setRow_heap w8 b3 _ #[.slice A1 ns c1,.slice A2 nt c2,.slice A4 nw c4,.slice none 0 0] 26 (0,0) hk3
   have hb2:Below w0.heap.size w0 (w8.setRow b3 #[.slice A1 ns c1,.slice A2 nt c2,.slice A4 nw c4,.slice none 0 0]):=below_setRow hb8 hx3 _
   have ho1:=zaq hf1 #[.slice A1 ns c1,.slice A2 nt c2,.slice A4 nw c4,.slice none 0 0] (zca hf1 hk3 (by decide))
   have ho2:=zaq hf2 #[.slice A1 ns c1,.slice A2 nt c2,.slice A4 nw c4,.slice none 0 0] (zca hf2 hk3 (by decide))
   have ho4:=zaq hf4 #[.slice A1 ns c1,.slice A2 nt c2,.slice A4 nw c4,.slice none 0 0] (zca hf4 hk3 (by decide))
   generalize w8.setRow b3 #[.slice A1 ns c1,.slice A2 nt c2,.slice A4 nw c4,.slice none 0 0]=w2 at *
   have HB2:=Lib.hid hb2
   have HKR:=Lib.hid hkr
   have HO:=Lib.hid (And.intro ho1 (And.intro ho2 ho4))
   have HX3:=Lib.hid hx3
   have k1z:=(hb2.block (bw+1) (by omega)).trans k1
   clear hb8 hf1 hf2 hf4 hk3 hS8 hbd hkr hb2 ho1 ho2 ho4 d0 d1 d2 d3
   go_wp2
   go_loopw [4] (fun u wr=>CppRel w0.heap.size b3 w0 ⟨⟨As,ns,cs⟩,secs,⟨At,nt,ct⟩,trains,⟨Aw,nw,cw⟩,sws,⟨Ar,nr,cr⟩,rts⟩ A1 A2 A4 c1 c2 c4 u wr) (fun u _=>nr - (intOf u).toNat)
   case atStart=>exact ⟨0,none,0,[],Nat.zero_le _,rfl,HB2.out,HKR.out,⟨HO.out.1,HO.out.2.1,HO.out.2.2,fun t ht=>absurd ht (by simp)⟩,⟨rfl,.inl ⟨rfl,rfl⟩⟩,rfl⟩
   case round =>
    obtain ⟨k,A3,c3,q,hk,rfl,hb,hk3,hO,ho3,hkey⟩:=hrel
    simp only at hk hk3 hkey
    have HKEY:=Lib.hid hkey
    have HBK:=Lib.hid hb
    have HF:=HH.out.belowC (hb.mono (by omega))
    have hsk:=hb.size
    have k0r:=(hb.block bw (by omega)).trans k0
    have k1r:=(hb.block (bw+1) (by omega)).trans k1
    have hb3:=lt_of_block hk3
    obtain ⟨d0,d1,d2,d3⟩:_∧_∧_∧_:=zbo k0r
    clear hkey hb HB2 HKR HO
    by_cases hlt:k<nr
    · have hkl:k<rts.length:=by rw [HL4.out];exact hlt
      obtain ⟨x,hev⟩:∃ ev,rts[k]?=some ev:=⟨_,List.getElem?_eq_getElem hkl⟩
      have hxm:=List.mem_of_getElem? hev
      obtain ⟨hz9,hz8,hz7⟩:=(HS.out.rts.2 _ hxm)
      obtain ⟨bb,off,rfl,hbB,z0,z1,z2⟩:=Rd.rt HF.rts.2 hev
      obtain ⟨⟨hxl,hxr⟩,⟨hxl2,hxr2⟩⟩:=HF.rt x hxm
      have hba:=hB1 wr (.cells #[.string x.nm,.slice x.s.A x.s.n x.s.c,.slice x.d.A x.d.n x.d.c] 78)
      have k4:=hA1 wr (.cells #[.string x.nm,.slice x.s.A x.s.n x.s.c,.slice x.d.A x.d.n x.d.c] 78)
      have hxr0:=hxr.below (hba.mono (by omega))
      have hxr20:=hxr2.below (hba.mono (by omega))
      have hOa:=hO.keep hba
      have ho3a:=zaf ho3 hba
      have hk3a:=blk hba hk3
      have HBA:=Lib.hid (HBK.out.trans (hba.mono hsk))
      have hsa:=Nat.le_trans hsk hba.size
      have HEV:=Lib.hid hev
      have HXL:=Lib.hid hxl
      have HXL2:=Lib.hid hxl2
      have hxn:x.s.n≤1000:=by rw [← hxl];exact hz8
      have hxn2:x.d.n≤1000:=by rw [← hxl2];exact hz7
      obtain ⟨i1,hi1,hy0,hy1,hy2⟩:=info_parts info78s
      clear hkl hev hba HF HBK hxl hxl2 hz8 hz7 hz9 hxm hxr hxr2 hO ho3 k0r
      go_upto_region 6 with (fail)
      clear z0 z1 z2 d0 d1 d2 d3 hk3
      generalize wr.alloc (.cells #[.string x.nm,.slice x.s.A x.s.n x.s.c,.slice x.d.A x.d.n x.d.c] 78)=wa at *
      generalize wr.heap.size=y at *
      obtain ⟨y0,y1,y2⟩:_∧_∧_:=zba k4
      obtain ⟨b0,b1,b2,b3c⟩:_∧_∧_∧_:=zbo hk3a
      have x0:=fun z:Xt wa=>z.cell y0
      have x1:=fun z:Xt wa=>z.cell y1
      have x2:=fun z:Xt wa=>z.cell y2
      have x3:=fun z:Xt wa=>z.cell b3c
      refine zak [12,13,14] (fun w'=>∃ z:Xt wa,w'=z.1) (by kernel_rfl) ⟨⟨wa.drew,(Below.refl _ _).drew⟩,rfl⟩ ?_
      refine zdx [0,1,2,3,4,5,7,8] 7 rfl (by kernel_rfl) ?_
      simp only [zad,zac,zaa,zX1,zX2,zX3]
      repeat (go_big_quiet_step (fail))
      refine wpQuiet_nil ?_
      have hbd:Below wa.heap.size wa wa.drew:=(Below.refl _ _).drew
      show wpE _ _ _ _ _ _ _ _ _ wa.drew
      generalize wa.drew=we at *
      clear x0 x1 x2 x3 y0 y1 y2 b0 b1 b2 b3c
      have RT1:=zfx we bw x.s.A x.s.n x.s.c x.secs HXL.out (by omega) (hxr0.below (hbd.mono (by omega))) (Nat.le_trans (by omega) hbd.size)
      refine zan (i:=6) rfl (by kernel_rfl) rfl ?_
      unfold zar
      simp only [zad,zac,zaa,zX1,zX2,zX3]
      go_wp2_with (go_at_call 50;refine RT1.mono ?_;rintro e w1 ⟨A5,c5,rfl,hc5,ho5,hb1⟩)
      have hbe1:=hbd.trans (hb1.mono hbd.size)
      refine zab ⟨⟨⟨_,hbe1⟩,rfl⟩,?_⟩
      have RT2:=zfx w1 bw x.d.A x.d.n x.d.c x.needs HXL2.out (by omega) (hxr20.below (hbe1.mono (by omega))) (Nat.le_trans (by omega) hbe1.size)
      refine zan (i:=9) rfl (by kernel_rfl) rfl ?_
      unfold zar
      simp only [zad,zac,zaa,zX1,zX2,zX3]
      go_wp2_with (go_at_call 50;refine RT2.mono ?_;rintro e w2 ⟨A6,c6,rfl,hc6,ho6,hb2⟩)
      have hbe2:=hbe1.trans (hb2.mono hbe1.size)
      have ho5b:=zaf ho5 hb2
      refine zab ⟨⟨⟨_,hbe2⟩,rfl⟩,?_⟩
      refine zan (i:=10) rfl (by kernel_rfl) rfl ?_
      unfold zar
      simp only [zad,zac,zaa,zX1,zX2,zX3]
      go_wp2
      refine zab ⟨⟨⟨_,hbe2⟩,rfl⟩,?_⟩
      refine zan (i:=11) rfl (by kernel_rfl) rfl ?_
      unfold zar
      simp only [zad,zac,zaa,zX1,zX2,zX3]
      go_wp2
      have hbn:=hB1 w2 (.cells #[.string x.nm,.slice A5 x.s.n c5,.slice A6 x.d.n c6] 78)
      have hbe3:=hbe2.trans (hbn.mono hbe2.size)
      refine zab ⟨⟨⟨_,hbe3⟩,rfl⟩,?_⟩
      refine zau rfl (by kernel_rfl) ?_
      simp only [zad,zac,zaa,zX1,zX2,zX3]
      have ho3d:=zaf ho3a hbe3
      have hxa:w0.heap.size≤(w2.alloc (.cells #[.string x.nm,.slice A5 x.s.n c5,.slice A6 x.d.n c6] 78)).heap.size:=Nat.le_trans hsa hbe3.size
      refine wpList_append_lies _ rfl _ _ 24 rfl w0.heap.size 78 i1 _ 3 64 Tryz.underlying24 hi1 hy0 hy1 hy2 rfl (by omega) (.slice A3 k c3) k _ rfl ho3d ⟨w2.heap.size,0,none⟩ 1 1 [.string x.nm,.slice A5 x.s.n c5,.slice A6 x.d.n c6] rfl rfl (zey (f:=(0,0)) (t:=78) (by rw [zae,if_pos rfl])) (by simp [Value.oneCell']) (by omega) (by simp only [maxLen];omega) (by omega) hxa _ rfl ?_
      intro gg cap2 w6 hown6 hgrow6 _ _
      have hk3d:=blk hbe3 hk3a
      have hk3e:w6.heap[b3]?=some (.cells #[.slice A1 ns c1,.slice A2 nt c2,.slice A4 nw c4,.slice A3 k c3] 26 (0,0)):=(hgrow6.block b3 (lt_of_block hk3d) (fun he=>zca ho3d hk3d (by decide) b3 he.symm rfl)).trans hk3d
      have hOd:=(hOa.keep hbe3).other (w':=w6) (fun k' t cur ht hk'=>hgrow6.block k' (lt_of_block hk') (fun he=>zca ho3d hk' (by omega) k' he.symm rfl))
      have ho5d:=zbc (w':=w6) (zaf ho5b hbn) (fun k' cur hk'=>hgrow6.block k' (lt_of_block hk') (fun he=>zca ho3d hk' (by decide) k' he.symm rfl))
      have ho6d:=zbc (w':=w6) (zaf ho6 hbn) (fun k' cur hk'=>hgrow6.block k' (lt_of_block hk') (fun he=>zca ho3d hk' (by decide) k' he.symm rfl))
      have HB6:=Lib.hid ((HBA.out.trans (hbe3.mono hsa)).grown hgrow6 hxa (fun j hj=>(zbi ho3d hj).1))
      have f3:=frozen_of_row w6 b3 3 _ _ hk3e
      obtain ⟨q0,q1,q2,q3⟩:_∧_∧_∧_:=zbo hk3e
      have hwe:=hbd.size
      have hw1:=hbe1.size
      have hw2:=hbe2.size
      clear hOa ho3a hk3a hbe3 hbn hbe2 hbe1 hbd hb1 hb2 ho5 ho5b ho6 hgrow6 ho3d hk3d HBA hy0 hy1 hy2 hi1 RT1 RT2 k4 hxr0 hxr20
      go_wp2
      refine zab ?_
      have hk3f:(w6.setCell ⟨b3,3,none⟩ (.slice (some ⟨gg,0,none⟩) (k+1) cap2)).heap[b3]?=some (.cells #[.slice A1 ns c1,.slice A2 nt c2,.slice A4 nw c4,.slice (some ⟨gg,0,none⟩) (k+1) cap2] 26 (0,0)):=zdy hk3e 3 _
      have HK3:=Lib.hid hk3f
      have HOf:=Lib.hid (hOd.other (w':=w6.setCell ⟨b3,3,none⟩ (.slice (some ⟨gg,0,none⟩) (k+1) cap2)) (fun k t cur ht hk=>zdn hk (zct hk hk3e (by omega)) _ _ |>.trans hk.symm))
      have HO5:=Lib.hid (za0 (zbx (i:=3) (u:=.slice (some ⟨gg,0,none⟩) (k+1) cap2) ho5d (zca ho5d hk3e (by decide))) (show w0.heap.size≤_ by omega))
      have HO6i:=Lib.hid (za0 (zbx (i:=3) (u:=.slice (some ⟨gg,0,none⟩) (k+1) cap2) ho6d (zca ho6d hk3e (by decide))) (show w0.heap.size≤_ by omega))
      have HO6:=Lib.hid (zbx (i:=3) (u:=.slice (some ⟨gg,0,none⟩) (k+1) cap2) hown6 (zca hown6 hk3e (by decide)))
      have HB7:=Lib.hid (HB6.out.setCell (p:=⟨b3,3,none⟩) HX3.out (.slice (some ⟨gg,0,none⟩) (k+1) cap2))
      clear hk3f hOd ho5d ho6d hown6 hk3e q0 q1 q2 q3 f3 HB6
      go_wp2
      go_roundw
      case rel =>
       refine ⟨k+1,some ⟨gg,0,none⟩,cap2,q++[⟨x.nm,⟨A5,x.s.n,c5⟩,x.secs,⟨A6,x.d.n,c6⟩,x.needs⟩],hlt,by go_num,HB7.out,HK3.out,⟨HOf.out.secs,HOf.out.trains,HOf.out.sws,fun t ht=>?_⟩,?_,?_⟩
       · rcases List.mem_append.1 ht with h | h
         · exact HOf.out.rt t h
         · rw [List.mem_singleton] at h
           subst h
           exact ⟨HXL.out,HXL2.out,HO5.out,HO6i.out⟩
       · have e:zd1 (q++[⟨x.nm,⟨A5,x.s.n,c5⟩,x.secs,⟨A6,x.d.n,c6⟩,x.needs⟩])=zd1 q++[.string x.nm,.slice A5 x.s.n c5,.slice A6 x.d.n c6]:=by simp [zd1,rtVals,SlV.v]
         rw [e]
         exact HO6.out
       · rw [List.take_add_one,HEV.out,List.map_append,List.map_append,HKEY.out]
         rfl
      case measure=>simp [intOf];omega
    · have hke:nr=k:=by omega
      have hT:rts.take k=rts:=List.take_of_length_le (by rw [HL4.out];omega)
      have HKE:=HKEY.out
      rw [hT] at HKE
      have HKF:=Lib.hid HKE
      have hlq:q.length=nr:=by
       have h9:=congrArg List.length HKE
       rw [List.length_map,List.length_map,HL4.out] at h9
       exact h9
      have HLQ:=Lib.hid hlq
      have HO:=Lib.hid hO
      have HO3:=Lib.hid ho3
      have HKK:=Lib.hid hke
      clear hT HKE hlq hO ho3 hke
      go_wp2_with (with_reducible refine zaw 26 ?_)
      unfold Stp
      refine wpList_load_row rfl 26 _ rfl b3 rfl 26 _ (0,0) _ hk3 Tryz.underlying26 rfl (by kernel_rfl) ?_
      go_wp2_with (with_reducible refine zas 26 ?_)
      unfold Stp
      refine wpList_store_row rfl 26 _ _ rfl (bw+1) _ rfl rfl 26 _ k1r (by kernel_rfl) rfl (by kernel_rfl) ?_
      go_wp2
      have hFO:PlantOw wr w0.heap.size ⟨⟨A1,ns,c1⟩,secs,⟨A2,nt,c2⟩,trains,⟨A4,nw,c4⟩,sws,⟨A3,k,c3⟩,q⟩:=⟨HO.out.secs,HO.out.trains,HO.out.sws,HO3.out,HO.out.rt,HL1.out,HL2.out,HL3.out,by rw [← HKK.out];exact HLQ.out⟩
      refine bodyPost_ret (v:=.agg #[.slice A1 ns c1,.slice A2 nt c2,.slice A4 nw c4,.slice A3 k c3]) (results_cell_row rfl _ _ (bw+1) 26 _ (0,0) _ rfl (setRow_heap wr (bw+1) _ _ 26 (0,0) k1r) Tryz.underlying26 rfl (by kernel_rfl)) rfl ⟨⟨⟨A1,ns,c1⟩,secs,⟨A2,nt,c2⟩,trains,⟨A4,nw,c4⟩,sws,⟨A3,k,c3⟩,q⟩,rfl,rfl,rfl,HKF.out,rfl,?_,?_⟩
      · rw [HBW.out]
        exact (hFO.setRow _ (by omega)).base (by omega)
      · rw [HBW.out]
        exact below_setRow (HB.out.trans (HBK.out.mono (by omega))) (by omega) _
 · intro i hi L a w8 hL hd hS8 hI
   obtain ⟨e3,e8,e11,e12,e15,e16,rfl,hb8,hF2,hF5,hE6,hF9,hF10,hB11⟩:=hI
   simp only [List.mem_cons,List.not_mem_nil,or_false] at hi
   rcases hi with rfl | rfl | rfl | rfl | rfl | rfl
   · 
     have RT:=zds w8 bw As ns cs secs HL1.out (by omega) (HH.out.secs.2.below (hb8.mono (by omega))) (Nat.le_trans (by omega) hb8.size)
     unfold zar
     simp only [zad,zac,zaa,zX1,zX2,zX3]
     unfold pltFr
     go_wp2_with (go_at_call 30;refine RT.mono ?_;rintro e w9 ⟨A5,c5,rfl,hc5,ho5,hb9⟩)
     have hbx:=hb8.trans (hb9.mono hb8.size)
     exact zab ⟨⟨⟨_,hbx⟩,rfl⟩,⟨e3,_,e11,e12,e15,e16,rfl,hbx,fun _=>⟨A5,c5,rfl,hc5,za0 ho5 hb8.size⟩,fun h=>(hF5 h).keep hb9,fun h=>(hE6 h).keep hb9,fun h=>(hF9 h).keep hb9,fun h=>absurd (hF10 h).1 (by rw [hL];decide),fun h=>(hB11 h).keep hb9⟩⟩
   · 
     have RT:=zds w8 bw At nt ct trains HL2.out (by omega) (HH.out.trains.2.below (hb8.mono (by omega))) (Nat.le_trans (by omega) hb8.size)
     unfold zar
     simp only [zad,zac,zaa,zX1,zX2,zX3]
     unfold pltFr
     go_wp2_with (go_at_call 30;refine RT.mono ?_;rintro e w9 ⟨A5,c5,rfl,hc5,ho5,hb9⟩)
     have hbx:=hb8.trans (hb9.mono hb8.size)
     exact zab ⟨⟨⟨_,hbx⟩,rfl⟩,⟨e3,e8,_,e12,e15,e16,rfl,hbx,fun h=>(hF2 h).keep hb9,fun _=>⟨A5,c5,rfl,hc5,za0 ho5 hb8.size⟩,fun h=>(hE6 h).keep hb9,fun h=>(hF9 h).keep hb9,fun h=>absurd (hF10 h).2.1 (by rw [hL];decide),fun h=>(hB11 h).keep hb9⟩⟩
   · 
     unfold zar
     simp only [zad,zac,zaa,zX1,zX2,zX3]
     unfold pltFr
     go_wp2
     have hbn:=hB1 w8 (.cells #[] 76)
     have hbx:=hb8.trans (hbn.mono hb8.size)
     exact zab ⟨⟨⟨_,hbx⟩,rfl⟩,⟨e3,e8,e11,_,e15,e16,rfl,hbx,fun h=>(hF2 h).keep hbn,fun h=>(hF5 h).keep hbn,fun _=>⟨w8.heap.size,rfl,hb8.size,fun _=>by rw [zae,if_pos rfl]⟩,fun h=>(hF9 h).keep hbn,fun h=>hF10 h,fun h=>(hB11 h).keep hbn⟩⟩
   · 
     obtain ⟨g,rfl,hg,h0⟩:=hE6 (hd 6 (by kernel_rfl))
     replace h0:=h0 hL
     obtain ⟨i1,hi1,hy0,hy1,hy2⟩:=info_parts info76s
     have hrd:=(HH.out.sws.2).below (hb8.mono (by omega))
     unfold zar
     simp only [zad,zac,zaa,zX1,zX2,zX3]
     unfold pltFr
     refine za6 w8 rfl _ _ 23 rfl w0.heap.size 76 i1 _ 2 24 Tryz.underlying23 hi1 hy0 hy1 hy2 rfl (by omega) g rfl h0 hg bw Aw nw cw (zbl sws) rfl (by rw [zhw,HL3.out]) hrd (zdr zkj _) (by simp only [maxLen];omega) (by omega) hb8.size ?_
     intro g2 c2 w9 hown hgrow _
     have hbx:Below w0.heap.size w0 w9:=hb8.grown hgrow hb8.size (fun k hk=>by rw [← Option.some.inj hk];exact hg)
     have hcp:=zbn hown
     go_wp2
     exact zab ⟨⟨⟨_,hbx⟩,rfl⟩,⟨e3,e8,e11,_,_,e16,rfl,hbx,fun h=>(hF2 h).grown hgrow h0 (by decide),fun h=>(hF5 h).grown hgrow h0 (by decide),fun h=>(hE6 h).used,fun _=>⟨_,_,rfl,hcp,hown⟩,fun h=>absurd (hF10 h).2.2.1 (by rw [hL];decide),fun h=>(hB11 h).grown hgrow h0 (by simp)⟩⟩
   · 
     obtain ⟨A1,c1,rfl,hc1,hf1⟩:=hF2 (hd 2 (by kernel_rfl))
     obtain ⟨A2,c2,rfl,hc2,hf2⟩:=hF5 (hd 5 (by kernel_rfl))
     obtain ⟨A4,c4,rfl,hc4,hf4⟩:=hF9 (hd 9 (by kernel_rfl))
     unfold zar
     simp only [zad,zac,zaa,zX1,zX2,zX3]
     unfold pltFr
     go_wp2
     exact zab ⟨⟨⟨_,hb8⟩,rfl⟩,⟨e3,_,_,e12,_,_,rfl,hb8,hF2,hF5,hE6,hF9,fun _=>⟨hd 2 (by kernel_rfl),hd 5 (by kernel_rfl),hd 9 (by kernel_rfl),rfl⟩,hB11⟩⟩
   · 
     unfold zar
     simp only [zad,zac,zaa,zX1,zX2,zX3]
     unfold pltFr
     go_wp2
     have hbn:=hB1 w8 (.cells #[.slice none 0 0,.slice none 0 0,.slice none 0 0,.slice none 0 0] 26)
     have hbx:=hb8.trans (hbn.mono hb8.size)
     exact zab ⟨⟨⟨_,hbx⟩,rfl⟩,⟨_,e8,e11,e12,e15,e16,rfl,hbx,fun h=>(hF2 h).keep hbn,fun h=>(hF5 h).keep hbn,fun h=>(hE6 h).keep hbn,fun h=>(hF9 h).keep hbn,fun h=>hF10 h,fun _=>⟨w8.heap.size,rfl,hb8.size,by rw [zae,if_pos rfl]⟩⟩⟩
open Go.Maps Go.WideMaps
def sk (s:ByteArray):Lit:=.string s.data.toList
theorem sk_ne {a s:ByteArray} (h:¬ a=s):sk s≠sk a:=fun e=>h (Go.WideShapes.bytes_inj (Lit.string.inj e).symm)
def zck (l:List ByteArray):DataW Unit:=setOf (.lit (.bool true)) (l.map sk)
theorem nameSet_snoc (l:List ByteArray) (s:ByteArray):zck (l++[s])=(zck l).put (sk s) (.lit (.bool true)):=by
 unfold zck
 rw [List.map_append]
 exact setOf_snoc _ _ _
theorem eqT {a s:ByteArray}:(a.toList == s.toList)=decide (a=s):=by
 by_cases h:a=s
 · subst h;simp
 · have:a.toList≠s.toList:=fun e=>h (Go.WideShapes.bytes_inj (by rw [← Lib.toList_data,← Lib.toList_data];exact e))
   simp [h,this]
theorem foldAt (u z:DataW Unit) (s:ByteArray):∀ (l:List ByteArray) (m:DataW Unit),IsMap m→((l.map sk).foldl (fun m x=>m.put x u) m).atKey (sk s) z=if zcu l s=true then u else m.atKey (sk s) z
 | [],_,_=>rfl
 | a :: l,m,hm=>by
  rw [List.map_cons,List.foldl_cons,foldAt u z s l _ (hm.put _ _),zfn,eqT]
  by_cases h:a=s
  · subst h
    rw [atKey_put_same hm (by simp [sk,WideAt.IsKeyLit])]
    cases zcu l a <;> simp
  · rw [atKey_put_other (sk_ne h)]
    simp [h]
theorem nameSet_at (l:List ByteArray) (s:ByteArray):(zck l).atKey (sk s) (.lit (.bool false))=.lit (.bool (zcu l s)):=by
 unfold zck setOf
 rw [foldAt _ _ _ _ _ isMap_empty]
 cases zcu l s <;> rfl
theorem zeroB (w:World):(zeroValue 4).run Tryz.prog w=.ok (.bool false) w:=by kernel_rfl
theorem zgw {P:Program} {e:TypeId} (he:P.underlying e=some .bool) {v:Value} {z:DataW Unit × List MemPlace} (h:plainElem P e v=some z):∃ b,v=.bool b∧z=(.lit (.bool b),[]):=by
 unfold plainElem at h
 rw [he] at h
 cases v <;> simp at h
 exact ⟨_,rfl,h.symm⟩
theorem zi9 {w:World} {b n:Nat} {l:List ByteArray} (h:w.ownsMap (H:=Unit) Tryz.prog 9 (plainElem Tryz.prog 4) b n (zck l)) (s:ByteArray) (hs:s.size≤1000) :
 (Instr.lookup 277 (.map (some b)) (.string s) false).run Tryz.prog w=.ok (.bool (zcu l s)) w:=by
 obtain ⟨v,ps,hrun,hv⟩:=h.lookup (string_keyed Tryz.underlying9) Tryz.underlying277 (zeroB w) (plainElem_bool Tryz.underlying4 false) (keyOf_string_mk Tryz.underlying9 (s:=s) (by unfold maxLen;omega))
 obtain ⟨c,rfl,e⟩:=zgw Tryz.underlying4 hv
 simp only [Prod.mk.injEq] at e
 have e2:=nameSet_at l s
 rw [show sk s=Lit.string s.data.toList from rfl,e.1] at e2
 cases e2
 exact hrun
end Go.Proofs.YtoodbfkbbchjiaaGreatDoor
namespace Go.Proofs.YtoodbfkbbchjiaaGreatDoor
open Go.RowKit
theorem lkName_any (s:ByteArray) (hs9:s.size≤1000000000) (w:World):Calls Tryz.prog 190 #[.string s] w fun e w'=>e=.returned (.bool (za3 s))∧Below w.heap.size w w':=by
 obtain ⟨tot,htot⟩:∃ t,zbm 0 s.data.toList=t:=⟨_,rfl⟩
 have HVF:Hid (tot=false→za3 s=false):=fun h=>by
  rw [za3,htot,h,Bool.and_false]
 have HV:Hid (za3 s=(decide (1≤s.size) && decide (s.size≤12) && tot)):=by rw [Hid,za3,htot]
 have HTT:=Lib.hid htot
 clear htot
 have kc:=Lib.run_convert_string_bytes (P:=Tryz.prog) w 9 149 5 s Tryz.underlying9 Tryz.underlying149 Tryz.underlying5
 go_enter Tryz.func190,Tryz.ntmps190
 go_wp2
 clear kc
 go_loop [3,4,5,9] (fun _ _ _ i=>∃ k:Nat,k≤s.size∧i=.int .i64 k∧zbm k (s.data.toList.drop k)=tot) (fun _ _ _ i=>s.size - (intOf i).toNat)
 case atStart=>exact ⟨0,Nat.zero_le _,rfl,by rw [List.drop_zero];exact HTT.out⟩
 case round =>
  obtain ⟨k,hk,rfl,he⟩:=hrel
  have HE:=Lib.hid he
  clear he
  by_cases hlt:k<s.size
  · have hkl:k<s.data.toList.length:=by simpa using hlt
    have HD:=Lib.hid (dropB hkl)
    have hcb:(s.data.toList.getD k 0).toNat≤255:=by have:=UInt8.toNat_lt (s.data.toList.getD k 0);omega
    have d0:=Lib.bytesWorld_cell w 5 s k hlt
    have HG:Hid ((okN k (s.data.toList.getD k 0).toNat && zbm (k+1) (s.data.toList.drop (k+1)))=tot):=by
     have:=HE.out
     rw [HD.out,zbm] at this
     exact this
    generalize (s.data.toList.getD k 0).toNat=c at *
    have hlti:(k:Int)<(s.size:Int):=by omega
    clear HE hkl
    have hcs:(c<45)∨(c=45)∨(45<c∧c<48)∨(48≤c∧c≤57)∨(57<c∧c<65)∨(65≤c∧c≤90)∨(90<c∧c<97)∨(97≤c∧c≤122)∨(122<c):=by omega
    rcases hcs with hcc | hcc | hcc | hcc | hcc | hcc | hcc | hcc | hcc <;> by_cases hk0:k=0
    all_goals
     first | have q0:(97:Int)≤(c:Int):=by omega | have q0:¬ (97:Int)≤(c:Int):=by omega
     first | have q1:(c:Int)≤122:=by omega | have q1:¬ (c:Int)≤122:=by omega
     first | have q2:(65:Int)≤(c:Int):=by omega | have q2:¬ (65:Int)≤(c:Int):=by omega
     first | have q3:(c:Int)≤90:=by omega | have q3:¬ (c:Int)≤90:=by omega
     first | have q5:(c:Int)<48:=by omega | have q5:¬ (c:Int)<48:=by omega
     first | have q6:(57:Int)<(c:Int):=by omega | have q6:¬ (57:Int)<(c:Int):=by omega
     first | (have q4:((c:Int) != 45)=false:=by rw [hcc];rfl) | have q4:((c:Int) != 45)=true:=by exact bne_iff_ne.2 (by omega)
     first | have e0:((k:Int) == 0)=false:=beq_eq_false_iff_ne.2 (by omega) | (have e0:((k:Int) == 0)=true:=by rw [hk0];rfl)
     by_cases hok:okN k c=true
     · have HN:Hid (zbm (k+1) (s.data.toList.drop (k+1))=tot):=by
        have:=HG.out
        rw [hok,Bool.true_and] at this
        exact this
       rw [okN] at hok
       simp at hok
       first
        | (exfalso;omega)
        | (clear hok hcc hk0
           go_wp2
           go_round
           case rel=>exact ⟨k+1,by omega,by go_num,HN.out⟩
           case measure=>simp [intOf];omega)
     · have HF:Hid (tot=false):=by
        have:=HG.out
        rw [Bool.eq_false_iff.2 hok,Bool.false_and] at this
        exact this.symm
       rw [okN] at hok
       simp at hok
       first
        | (exfalso;omega)
        | (clear hok hcc hk0
           go_wp2
           go_ret
           exact ⟨by rw [HVF.out HF.out];rfl,Lib.bytesWorld_below _ _ _⟩)
  · obtain rfl:k=s.size:=by omega
    have HT:Hid (tot=true):=by
     have:=HE.out
     rw [List.drop_eq_nil_iff.2 (by simp),zbm] at this
     exact this.symm
    clear HE
    by_cases h0:s.size=0
    · obtain rfl:s=⟨#[]⟩:=by
       cases s with
       | mk d =>
        have:d.size=0:=h0
        rw [Array.eq_empty_of_size_eq_zero this]
      go_wp2
      go_ret
      exact ⟨by rw [HV.out];rfl,Lib.bytesWorld_below _ _ _⟩
    · have hne0:¬ s.toList=[]:=fun h=>h0 (by
       rw [ByteArray.toList_eq] at h
       have:=congrArg List.length h
       simpa using this)
      have hne1:s.toList.isEmpty=false:=by
       rw [Bool.eq_false_iff]
       exact fun h=>hne0 (List.isEmpty_iff.1 h)
      by_cases h12:s.size≤12
      · have h12i:(s.size:Int)≤12:=by omega
        have HV2:Hid (za3 s=true):=by rw [Hid,HV.out,HT.out,decide_eq_true (show 1≤s.size by omega),decide_eq_true h12];rfl
        go_wp2
        go_ret
        exact ⟨by rw [HV2.out];rfl,Lib.bytesWorld_below _ _ _⟩
      · have h12i:¬ (s.size:Int)≤12:=by omega
        have HV2:Hid (za3 s=false):=by rw [Hid,HV.out,decide_eq_false h12,Bool.and_false,Bool.false_and]
        go_wp2
        go_ret
        exact ⟨by rw [HV2.out];rfl,Lib.bytesWorld_below _ _ _⟩
theorem zhl (s:ByteArray) (b:Bool) (hb:za3 s=b) (hs9:s.size≤1000000000) (w:World):Calls Tryz.prog 190 #[.string s] w fun e w'=>e=.returned (.bool b)∧Below w.heap.size w w':=by
 rw [← hb]
 exact lkName_any s hs9 w
theorem zl2 (w:World) (m:Nat) (x:FsV) (hm:m≤1000000000) :
 Calls Tryz.prog 134 #[.agg #[.int .i64 x.left,.int .i64 x.right,.int .i64 x.share,.int .i64 x.loss],.int .i64 m] w (zay w (fsE m x)):=by
 obtain ⟨a,b,s,l⟩:=x
 have HV:Hid (fsE m ⟨a,b,s,l⟩=zam [zag (zg3 m a && zg3 m b) 6,zag (decide (a≠-1) || decide (b≠-1)) 23,zag (decide (a≠b)) 26,zag (zaj s 0 1000 && zaj l 0 500) 2,zag (zjl ⟨a,b,s,l⟩) 3]):=rfl
 obtain ⟨c0,c1,c2,c3⟩:_∧_∧_∧_:=zbo (W:=w.alloc (.cells #[.int .i64 a,.int .i64 b,.int .i64 s,.int .i64 l] 116)) (by rw [zae,if_pos rfl])
 have hb0:=hB2 w (.cells #[.int .i64 a,.int .i64 b,.int .i64 s,.int .i64 l] 116) (.cells #[.int .i64 m] 3)
 have hb1:Below (w.alloc (.cells #[.int .i64 a,.int .i64 b,.int .i64 s,.int .i64 l] 116)).heap.size (w.alloc (.cells #[.int .i64 a,.int .i64 b,.int .i64 s,.int .i64 l] 116)) ((w.alloc (.cells #[.int .i64 a,.int .i64 b,.int .i64 s,.int .i64 l] 116)).alloc (.cells #[.int .i64 m] 3)):=(Below.refl _ _).alloc (Nat.le_refl _) _
 have d0:((w.alloc (.cells #[.int .i64 a,.int .i64 b,.int .i64 s,.int .i64 l] 116)).alloc (.cells #[.int .i64 m] 3)).cell? ⟨w.heap.size+1,0,none⟩=some (.int .i64 m):=by
  have hz:(w.alloc (.cells #[.int .i64 a,.int .i64 b,.int .i64 s,.int .i64 l] 116)).heap.size=w.heap.size+1:=by simp
  rw [cell_of_row _ _ _ _ _ _ (by rw [zae,if_pos hz.symm])]
  rfl
 replace c0:=zat hb1 c0
 replace c1:=zat hb1 c1
 replace c2:=zat hb1 c2
 replace c3:=zat hb1 c3
 have HB:=Lib.hid hb0
 have hs0:=hb0.size
 obtain ⟨w0,hw0⟩:∃ w0,w0=(w.alloc (.cells #[.int .i64 a,.int .i64 b,.int .i64 s,.int .i64 l] 116)).alloc (.cells #[.int .i64 m] 3):=⟨_,rfl⟩
 have HW:=Lib.hid hw0
 clear hb0 hb1 hw0
 obtain ⟨qa,hqa⟩:∃ q,zg3 m a=q:=⟨_,rfl⟩
 obtain ⟨qb,hqb⟩:∃ q,zg3 m b=q:=⟨_,rfl⟩
 obtain ⟨qs,hqs⟩:∃ q,zaj s 0 1000=q:=⟨_,rfl⟩
 obtain ⟨ql,hql⟩:∃ q,zaj l 0 500=q:=⟨_,rfl⟩
 have HQ:Hid (zg3 m a=qa∧zg3 m b=qb∧zaj s 0 1000=qs∧zaj l 0 500=ql):=⟨hqa,hqb,hqs,hql⟩
 have WS:=fun W=>zcp s 0 1000 qs hqs W
 have WL:=fun W=>zcp l 0 500 ql hql W
 have EA:=fun y:Xt w0=>zjn a m _ _ y.1 hm (y.cell (HW.out ▸ d0)) hqa
 have EB:=fun y:Xt w0=>zjn b m _ _ y.1 hm (y.cell (HW.out ▸ d0)) hqb
 clear hqa hqb hqs hql
 have WALK:∀ (pa pb:Bool),(a == -1)=pa→(b == -1)=pb→Calls Tryz.prog 134 #[.agg #[.int .i64 a,.int .i64 b,.int .i64 s,.int .i64 l],.int .i64 m] w (zay w (zam [zag (qa && qb) 6,zag (!pa || !pb) 23,zag (a != b) 26,zag (qs && ql) 2,zag (if pb=true then (s == 1000) else if pa=true then (s == 0) else true) 3])):=by
  intro pa pb ha hb
  have u1:pa=true→qa=true:=fun h=>by
   rw [← HQ.out.1,show a=-1 by rw [h] at ha;simpa using ha]
   rfl
  have u2:pb=true→qb=true:=fun h=>by
   rw [← HQ.out.2.1,show b=-1 by rw [h] at hb;simpa using hb]
   rfl
  clear HQ HV
  cases pa <;> cases pb <;> cases qa <;> cases qs
  all_goals try (exact absurd (u1 rfl) (by decide))
  all_goals try (obtain rfl:=u2 rfl)
  all_goals
   clear u1 u2
   first
    | (have ha2:(a != -1)=true:=by simpa using ha)
    | (obtain rfl:a=-1:=by simpa using ha)
   first
    | (have hb2:(b != -1)=true:=by simpa using hb)
    | (obtain rfl:b=-1:=by simpa using hb)
   go_enter Tryz.func134,Tryz.ntmps134
   go_upto_region 7 with (fail)
   rw [← HW.out] at c0 c1 c2 c3 d0 HB hs0 ⊢
   clear HW
   have E9:=fun y:Xt w0=>zjn (-1) m _ true y.1 hm (y.cell d0) rfl
   have x0:=fun y:Xt w0=>y.cell c0
   have x1:=fun y:Xt w0=>y.cell c1
   have x2:=fun y:Xt w0=>y.cell c2
   have x3:=fun y:Xt w0=>y.cell c3
   refine zax [] [0,1,2,3,4,5,6,7,8,9,10,11,12,13,14,15,16,17,18,19,20,21,22,23,24,25,26,27,28,29,30,31,32,33,34,35,36] 37 [38,39] (fun w'=>∃ y:Xt w0,w'=y.1) (by as_aux_lemma=>kernel_rfl) (by as_aux_lemma=>kernel_rfl) ⟨⟨w0.drew,(Below.refl _ _).drew⟩,rfl⟩ ?_
   simp only [zad,zac,zaa,zX1,zX2,zX3]
   refine wpQuiet_nil ?_
   show wpQuiet _ _ _ _ _ _
   repeat (go_big_quiet_step (first | (go_at_call 131;exact Xt.calls_same (zcd _ _ _)) | (go_at_call_of 133 (Value.int .i64 s);exact Xt.calls_same (WS _)) | (go_at_call_of 133 (Value.int .i64 l);exact Xt.calls_same (WL _)) | (go_at_call_of 197 (Value.int .i64 a);exact Xt.calls_same (EA _)) | (go_at_call_of 197 (Value.int .i64 b);exact Xt.calls_same (EB _)) | (go_at_call 197;exact Xt.calls_same (E9 _))))
   refine wpQuiet_nil ?_
   intro w1 hx
   have hb1:=Xt.below hx
   go_wp2_with (go_at_call 130;refine (fdFirst5 _ _ _ _ _ _).mono ?_;rintro e w' ⟨rfl,rfl⟩)
   refine zab ?_
   go_wp2
   go_ret
   exact ⟨by simp [zam,zag, *],(HB.out.trans (hb1.mono hs0)).alloc (Nat.le_trans hs0 hb1.size) _⟩
 have h:=WALK _ _ rfl rfl
 rw [HV.out,HQ.out.1,HQ.out.2.1,HQ.out.2.2.1,HQ.out.2.2.2]
 have e1:zjl ⟨a,b,s,l⟩=if (b == -1)=true then (s == 1000) else if (a == -1)=true then (s == 0) else true:=by
  have g1:(s == 1000)=decide (s=1000):=by by_cases h:s=1000 <;> simp [h]
  have g2:(s == 0)=decide (s=0):=by by_cases h:s=0 <;> simp [h]
  rw [g1,g2]
  unfold zjl
  simp
 have e2:decide (a≠-1)=!(a == -1):=by by_cases h:a=-1 <;> simp [h]
 have e3:decide (b≠-1)=!(b == -1):=by by_cases h:b=-1 <;> simp [h]
 have e4:decide (a≠b)=(a != b):=by by_cases h:a=b <;> simp [h]
 rw [e1,e2,e3,e4]
 exact h
end Go.Proofs.YtoodbfkbbchjiaaGreatDoor
