import Derived.Test.YtoodbfkbbchjiaaGreatDoorf3P1
import Derived.Test.YtoodbfkbbchjiaaGreatDoorf3A4
import Derived.Laws.Tables
import Derived.Laws.Rows
import Derived.Laws.CopyOwn
import Derived.Deep.MidRow
import Derived.Test.YtoodbfkbbchjiaaGreatDoorf3Shelf
import Derived.Lib.AppendStr
import Derived.Test.YtoodbfkbbchjiaaGreatDoorf3X2
set_option maxRecDepth 100000
set_option maxHeartbeats 16000000
namespace Go.Proofs.YtoodbfkbbchjiaaGreatDoor
open Go.RowKit
theorem zef {α:Type} {vals:α→List Value} {k:Nat} (hk:∀ x,(vals x).length=k):∀ l:List α,(l.flatMap vals).length=l.length * k
 | []=>by simp
 | x :: l=>by rw [List.flatMap_cons,List.length_append,hk,zef hk l,List.length_cons,Nat.succ_mul,Nat.add_comm]
theorem flat_at {α:Type} {vals:α→List Value} {k:Nat} (hk:∀ x,(vals x).length=k):∀ (l:List α) (i:Nat) (x:α),l[i]?=some x→∀ j u,(vals x)[j]?=some u→(l.flatMap vals)[i * k+j]?=some u
 | [],i,x,h,_,_,_=>by simp at h
 | y :: l,0,x,h,j,u,hu=>by
  obtain rfl:y=x:=by simpa using h
  have hj:j<(vals y).length:=(List.getElem?_eq_some_iff.1 hu).1
  rw [List.flatMap_cons,Nat.zero_mul,Nat.zero_add,List.getElem?_append_left hj]
  exact hu
 | y :: l,i+1,x,h,j,u,hu=>by
  have h':l[i]?=some x:=by simpa using h
  have e:(i+1) * k+j=(vals y).length+(i * k+j):=by rw [hk,Nat.succ_mul];omega
  rw [List.flatMap_cons,e,List.getElem?_append_right (by omega),Nat.add_sub_cancel_left]
  exact flat_at hk l i x h' j u hu
theorem Rd.row {w:World} {B:Nat} {A:Option Addr} {α:Type} {vals:α→List Value} {k:Nat} {l:List α} (h:Rd w B A (l.flatMap vals)) (hk:∀ x,(vals x).length=k) (h0:0<k) {i:Nat} {x:α} (hi:l[i]?=some x) :
 ∃ b off,A=some ⟨b,off,none⟩∧b<B∧∀ j u,(vals x)[j]?=some u→w.cell? ⟨b,off+i * k+j,none⟩=some u:=by
 have h1:0<(vals x).length:=by rw [hk];exact h0
 obtain ⟨b,off,rfl,hb,_⟩:=h (i * k+0) _ (flat_at hk l i x hi 0 _ (List.getElem?_eq_getElem h1))
 refine ⟨b,off,rfl,hb,fun j u hu=>?_⟩
 obtain ⟨b',off',e,_,c⟩:=h (i * k+j) u (flat_at hk l i x hi j u hu)
 cases e
 rw [Nat.add_assoc]
 exact c
theorem zdr {α:Type} {vals:α→List Value} (hv:∀ x,∀ u∈vals x,u.oneCell'=true) (l:List α):∀ u∈l.flatMap vals,u.oneCell'=true:=by
 intro u hu
 obtain ⟨x,_,hx⟩:=List.mem_flatMap.1 hu
 exact hv x u hx
def zgq (x:Sw):List Value:=[.string x.1,.int .i64 x.2]
def zbl (l:List Sw):List Value:=l.flatMap zgq
def rtVals (x:RtV):List Value:=[.string x.nm,x.s.v,x.d.v]
def zd1 (l:List RtV):List Value:=l.flatMap rtVals
def zit (x:StV):List Value:=[.string x.1,.int .i64 x.2.1,.bool x.2.2]
def zff (l:List StV):List Value:=l.flatMap zit
def zjk (x:FsV):List Value:=[.int .i64 x.left,.int .i64 x.right,.int .i64 x.share,.int .i64 x.loss]
def zfo (l:List FsV):List Value:=l.flatMap zjk
def ziu (x:Int × Int):List Value:=[.int .i64 x.1,.int .i64 x.2]
def zc4 (l:List (Int × Int)):List Value:=l.flatMap ziu
def zki (x:TnV):List Value:=[.string x.nm,.int .i64 x.e1,.int .i64 x.e2,x.s.v]
def zeu (l:List TnV):List Value:=l.flatMap zki
theorem Rd.sw {w:World} {B:Nat} {A:Option Addr} {l:List Sw} (h:Rd w B A (zbl l)) {i:Nat} {x:Sw} (hi:l[i]?=some x) :
 ∃ b off,A=some ⟨b,off,none⟩∧b<B∧w.cell? ⟨b,off+i * 2,none⟩=some (.string x.1)∧w.cell? ⟨b,off+i * 2+1,none⟩=some (.int .i64 x.2):=by
 obtain ⟨b,off,e,hb,c⟩:=Rd.row (k:=2) (vals:=zgq) h (fun _=>rfl) (by decide) hi
 exact ⟨b,off,e,hb,c 0 _ rfl,c 1 _ rfl⟩
theorem Rd.rt {w:World} {B:Nat} {A:Option Addr} {l:List RtV} (h:Rd w B A (zd1 l)) {i:Nat} {x:RtV} (hi:l[i]?=some x) :
 ∃ b off,A=some ⟨b,off,none⟩∧b<B∧w.cell? ⟨b,off+i * 3,none⟩=some (.string x.nm)∧w.cell? ⟨b,off+i * 3+1,none⟩=some (.slice x.s.A x.s.n x.s.c)∧w.cell? ⟨b,off+i * 3+2,none⟩=some (.slice x.d.A x.d.n x.d.c):=by
 obtain ⟨b,off,e,hb,c⟩:=Rd.row (k:=3) (vals:=rtVals) h (fun _=>rfl) (by decide) hi
 exact ⟨b,off,e,hb,c 0 _ rfl,c 1 _ rfl,c 2 _ rfl⟩
theorem Rd.st {w:World} {B:Nat} {A:Option Addr} {l:List StV} (h:Rd w B A (zff l)) {i:Nat} {x:StV} (hi:l[i]?=some x) :
 ∃ b off,A=some ⟨b,off,none⟩∧b<B∧w.cell? ⟨b,off+i * 3,none⟩=some (.string x.1)∧w.cell? ⟨b,off+i * 3+1,none⟩=some (.int .i64 x.2.1)∧w.cell? ⟨b,off+i * 3+2,none⟩=some (.bool x.2.2):=by
 obtain ⟨b,off,e,hb,c⟩:=Rd.row (k:=3) (vals:=zit) h (fun _=>rfl) (by decide) hi
 exact ⟨b,off,e,hb,c 0 _ rfl,c 1 _ rfl,c 2 _ rfl⟩
theorem Rd.fs {w:World} {B:Nat} {A:Option Addr} {l:List FsV} (h:Rd w B A (zfo l)) {i:Nat} {x:FsV} (hi:l[i]?=some x) :
 ∃ b off,A=some ⟨b,off,none⟩∧b<B∧w.cell? ⟨b,off+i * 4,none⟩=some (.int .i64 x.left)∧w.cell? ⟨b,off+i * 4+1,none⟩=some (.int .i64 x.right)∧w.cell? ⟨b,off+i * 4+2,none⟩=some (.int .i64 x.share)∧w.cell? ⟨b,off+i * 4+3,none⟩=some (.int .i64 x.loss):=by
 obtain ⟨b,off,e,hb,c⟩:=Rd.row (k:=4) (vals:=zjk) h (fun _=>rfl) (by decide) hi
 exact ⟨b,off,e,hb,c 0 _ rfl,c 1 _ rfl,c 2 _ rfl,c 3 _ rfl⟩
theorem Rd.sp {w:World} {B:Nat} {A:Option Addr} {l:List (Int × Int)} (h:Rd w B A (zc4 l)) {i:Nat} {x:Int × Int} (hi:l[i]?=some x) :
 ∃ b off,A=some ⟨b,off,none⟩∧b<B∧w.cell? ⟨b,off+i * 2,none⟩=some (.int .i64 x.1)∧w.cell? ⟨b,off+i * 2+1,none⟩=some (.int .i64 x.2):=by
 obtain ⟨b,off,e,hb,c⟩:=Rd.row (k:=2) (vals:=ziu) h (fun _=>rfl) (by decide) hi
 exact ⟨b,off,e,hb,c 0 _ rfl,c 1 _ rfl⟩
theorem Rd.tn {w:World} {B:Nat} {A:Option Addr} {l:List TnV} (h:Rd w B A (zeu l)) {i:Nat} {x:TnV} (hi:l[i]?=some x) :
 ∃ b off,A=some ⟨b,off,none⟩∧b<B∧w.cell? ⟨b,off+i * 4,none⟩=some (.string x.nm)∧w.cell? ⟨b,off+i * 4+1,none⟩=some (.int .i64 x.e1)∧w.cell? ⟨b,off+i * 4+2,none⟩=some (.int .i64 x.e2)∧w.cell? ⟨b,off+i * 4+3,none⟩=some (.slice x.s.A x.s.n x.s.c):=by
 obtain ⟨b,off,e,hb,c⟩:=Rd.row (k:=4) (vals:=zki) h (fun _=>rfl) (by decide) hi
 exact ⟨b,off,e,hb,c 0 _ rfl,c 1 _ rfl,c 2 _ rfl,c 3 _ rfl⟩
def zcs (w:World) (B:Nat) (s:SlV) (n:Nat) (xs:List Value):Prop:=n=s.n∧Rd w B s.A xs
theorem zcs.below {w w':World} {B:Nat} {s:SlV} {n:Nat} {xs:List Value} (h:zcs w B s n xs) (hb:Below B w w'):zcs w' B s n xs:=⟨h.1,h.2.below hb⟩
theorem zcs.keep {w w':World} {B:Nat} {s:SlV} {n:Nat} {xs:List Value} (h:zcs w B s n xs) (hb:Below w.heap.size w w'):zcs w' B s n xs:=⟨h.1,h.2.keep hb⟩
theorem zcs.mono {w:World} {B B':Nat} {s:SlV} {n:Nat} {xs:List Value} (h:zcs w B s n xs) (hB:B≤B'):zcs w B' s n xs:=⟨h.1,h.2.mono hB⟩
structure PlantAt (w:World) (B:Nat) (p:PlantV):Prop where
 secs:zcs w B p.ss p.secs.length (strCells p.secs)
 trains:zcs w B p.ts p.trains.length (strCells p.trains)
 sws:zcs w B p.ws p.sws.length (zbl p.sws)
 rts:zcs w B p.rs p.rts.length (zd1 p.rts)
 rt:∀ r∈p.rts,zcs w B r.s r.secs.length (zai r.secs)∧zcs w B r.d r.needs.length (zai r.needs)
 cap:p.ss.n≤p.ss.c∧p.ts.n≤p.ts.c∧p.ws.n≤p.ws.c∧p.rs.n≤p.rs.c∧∀ r∈p.rts,r.s.n≤r.s.c
structure FeedAt (w:World) (B:Nat) (n:NetV):Prop where
 sts:zcs w B n.ss n.sts.length (zff n.sts)
 fss:zcs w B n.fs n.fss.length (zfo n.fss)
 tns:zcs w B n.ts n.tns.length (zeu n.tns)
 tn:∀ t∈n.tns,zcs w B t.s t.steps.length (zc4 t.steps)
structure HouseAt (w:World) (B:Nat) (h:HouseV):Prop where
 plant:PlantAt w B h.plant
 net:FeedAt w B h.net
 vanes:zcs w B h.vanes.vs h.vanes.vanes.length (zai h.vanes.vanes)
 pcs:zcs w B h.ps h.pcs.length (zcj h.pcs)
 evs:zcs w B h.es h.evs.length (strCells h.evs)
 acts:zcs w B h.acs h.acts.length (zb4 h.acts)
 masts:zcs w B h.ms h.masts.length (strCells h.masts)
 people:zcs w B h.pp h.people.length (zbl h.people)
 cap:h.es.n≤h.es.c∧h.ms.n≤h.ms.c∧h.pp.n≤h.pp.c
theorem PlantAt.below {w w':World} {B:Nat} {p:PlantV} (h:PlantAt w B p) (hb:Below B w w'):PlantAt w' B p:=
 ⟨h.secs.below hb,h.trains.below hb,h.sws.below hb,h.rts.below hb,fun r hr=>⟨(h.rt r hr).1.below hb,(h.rt r hr).2.below hb⟩,h.cap⟩
theorem PlantAt.keep {w w':World} {B:Nat} {p:PlantV} (h:PlantAt w B p) (hb:Below w.heap.size w w'):PlantAt w' B p:=
 ⟨h.secs.keep hb,h.trains.keep hb,h.sws.keep hb,h.rts.keep hb,fun r hr=>⟨(h.rt r hr).1.keep hb,(h.rt r hr).2.keep hb⟩,h.cap⟩
theorem PlantAt.mono {w:World} {B B':Nat} {p:PlantV} (h:PlantAt w B p) (hB:B≤B'):PlantAt w B' p:=
 ⟨h.secs.mono hB,h.trains.mono hB,h.sws.mono hB,h.rts.mono hB,fun r hr=>⟨(h.rt r hr).1.mono hB,(h.rt r hr).2.mono hB⟩,h.cap⟩
theorem FeedAt.keep {w w':World} {B:Nat} {p:NetV} (h:FeedAt w B p) (hb:Below w.heap.size w w'):FeedAt w' B p:=
 ⟨h.sts.keep hb,h.fss.keep hb,h.tns.keep hb,fun r hr=>(h.tn r hr).keep hb⟩
theorem FeedAt.mono {w:World} {B B':Nat} {p:NetV} (h:FeedAt w B p) (hB:B≤B'):FeedAt w B' p:=
 ⟨h.sts.mono hB,h.fss.mono hB,h.tns.mono hB,fun r hr=>(h.tn r hr).mono hB⟩
theorem HouseAt.keep {w w':World} {B:Nat} {p:HouseV} (h:HouseAt w B p) (hb:Below w.heap.size w w'):HouseAt w' B p:=
 ⟨h.plant.keep hb,h.net.keep hb,h.vanes.keep hb,h.pcs.keep hb,h.evs.keep hb,h.acts.keep hb,h.masts.keep hb,h.people.keep hb,h.cap⟩
theorem HouseAt.mono {w:World} {B B':Nat} {p:HouseV} (h:HouseAt w B p) (hB:B≤B'):HouseAt w B' p:=
 ⟨h.plant.mono hB,h.net.mono hB,h.vanes.mono hB,h.pcs.mono hB,h.evs.mono hB,h.acts.mono hB,h.masts.mono hB,h.people.mono hB,h.cap⟩
def zap (p:PlantV):List Value:=[p.ss.v,p.ts.v,p.ws.v,p.rs.v]
def zc9 (n:NetV):List Value:=[n.ss.v,n.fs.v,n.ts.v]
def za8 (v:VanV):List Value:=[v.vs.v,.int .i64 v.window,.int .i64 v.tooth,.int .i64 v.per,.int .i64 v.first,.int .i64 v.modulus,.int .i64 v.slack,.int .i64 v.errors,.bool v.round]
def zah (h:HouseV):List Value:=zap h.plant++(zc9 h.net++(za8 h.vanes++[.string h.tn,h.ps.v,.int .i64 h.sys.brake,.int .i64 h.sys.drag,.int .i64 h.sys.drive,h.es.v,h.acs.v,h.ms.v,h.pp.v]))
structure PlantS (p:PlantV):Prop where
 secs:p.secs.length≤1000∧∀ s∈p.secs,s.size≤1000
 trains:p.trains.length≤1000∧∀ s∈p.trains,s.size≤1000
 sws:p.sws.length≤1000∧∀ s∈p.sws,s.1.size≤1000
 rts:p.rts.length≤1000∧∀ r∈p.rts,r.nm.size≤1000∧r.secs.length≤1000∧r.needs.length≤1000
structure FeedS (n:NetV):Prop where
 sts:n.sts.length≤1000∧∀ s∈n.sts,s.1.size≤1000
 fss:n.fss.length≤1000
 tns:n.tns.length≤1000∧∀ t∈n.tns,t.nm.size≤1000∧t.steps.length≤1000
structure HouseS (h:HouseV):Prop where
 plant:PlantS h.plant
 net:FeedS h.net
 vanes:h.vanes.vanes.length≤1000
 tn:h.tn.size≤1000
 pcs:h.pcs.length≤1000
 evs:h.evs.length≤1000∧∀ s∈h.evs,s.size≤1000
 acts:h.acts.length≤1000
 masts:h.masts.length≤1000∧∀ s∈h.masts,s.size≤1000
 people:h.people.length≤1000∧∀ p∈h.people,p.1.size≤1000
def zay (w:World) (E:Int) (e:Ending) (w':World):Prop:=e=.returned (.int .i64 E)∧Below w.heap.size w w'
def Fr (w:World) (lo hi:Nat) (A:Option Addr) (xs:List Value):Prop:=
 ∀ k u,xs[k]?=some u→∃ b off,A=some ⟨b,off,none⟩∧lo≤b∧b<hi∧w.cell? ⟨b,off+k,none⟩=some u
theorem Fr.keep {w w':World} {lo hi:Nat} {A:Option Addr} {xs:List Value} (h:Fr w lo hi A xs) (hb:Below w.heap.size w w'):Fr w' lo hi A xs:=fun k u hk=>by
 obtain ⟨b,off,e,h1,h2,h3⟩:=h k u hk
 exact ⟨b,off,e,h1,h2,zat hb h3⟩
theorem Fr.below {w w':World} {B lo hi:Nat} {A:Option Addr} {xs:List Value} (h:Fr w lo hi A xs) (hB:hi≤B) (hb:Below B w w'):Fr w' lo hi A xs:=fun k u hk=>by
 obtain ⟨b,off,e,h1,h2,h3⟩:=h k u hk
 exact ⟨b,off,e,h1,h2,keptB hb (Nat.lt_of_lt_of_le h2 hB) h3⟩
theorem Fr.mono {w:World} {lo hi lo' hi':Nat} {A:Option Addr} {xs:List Value} (h:Fr w lo hi A xs) (h1:lo'≤lo) (h2:hi≤hi'):Fr w lo' hi' A xs:=fun k u hk=>by
 obtain ⟨b,off,e,h3,h4,h5⟩:=h k u hk
 exact ⟨b,off,e,Nat.le_trans h1 h3,Nat.lt_of_lt_of_le h4 h2,h5⟩
theorem Fr.other {w w':World} {lo hi:Nat} {A:Option Addr} {xs:List Value} (h:Fr w lo hi A xs) (hk:∀ b off,lo≤b→b<hi→w'.cell? ⟨b,off,none⟩=w.cell? ⟨b,off,none⟩):Fr w' lo hi A xs:=fun k u hx=>by
 obtain ⟨b,off,e,h1,h2,h3⟩:=h k u hx
 exact ⟨b,off,e,h1,h2,(hk b _ h1 h2).trans h3⟩
theorem Fr.setRow {w:World} {lo hi g:Nat} {A:Option Addr} {xs:List Value} (h:Fr w lo hi A xs) (cs:Array Value) (hg:g<lo∨hi≤g):Fr (w.setRow g cs) lo hi A xs:=
 h.other fun b off h1 h2=>cell_setRow_other w g cs ⟨b,off,none⟩ (by show b≠g;omega)
theorem Fr.setCell {w:World} {lo hi g i:Nat} {A:Option Addr} {xs:List Value} (h:Fr w lo hi A xs) (v:Value) (hg:g<lo∨hi≤g):Fr (w.setCell ⟨g,i,none⟩ v) lo hi A xs:=
 h.other fun b off h1 h2=>World.cell?_setCell_other _ _ _ _ (fun he=>by have:g=b:=congrArg Addr.block he;omega)
theorem Fr.grown {w w':World} {lo hi g:Nat} {A:Option Addr} {xs:List Value} (h:Fr w lo hi A xs) (hg:w.grownBy w' (some g)) (hne:g<lo∨hi≤g) (hhi:hi≤w.heap.size):Fr w' lo hi A xs:=
 h.other fun b off h1 h2=>hg.cell_far ⟨b,off,none⟩ (by show b<_;omega) (fun he=>by have:b=g:=Option.some.inj he;omega)
theorem Fr.own {w:World} {B e size n c:Nat} {A:Option Addr} {xs:List Value} (h:w.ownsRow B e size (.slice A n c) n xs):Fr w B w.heap.size A xs:=fun k u hk=>by
 obtain ⟨b,off,rfl,h1,h2⟩:=za7 h k u hk
 exact ⟨b,off,rfl,(zbi h rfl).1,h1,h2⟩
theorem zas {P:Program} {ops:Array Oper} {Q:Exit→Go.Act→World→Prop} {rest:List Oper} {a:Go.Act} {w:World} {d:Option Tmp} (T:TypeId) {x y:Operand} {ty:TypeId} {pos:String} {af:Array Edge} {g:Option (Nat × Bool)}
 (h:Stp (wpList P ops Q ({ dst:=d,op:=.store T x y,type:=ty,pos:=pos,after:=af,guard:=g } :: rest) a w)):wpList P ops Q ({ dst:=d,op:=.store T x y,type:=ty,pos:=pos,after:=af,guard:=g } :: rest) a w:=h
theorem zaw {P:Program} {ops:Array Oper} {Q:Exit→Go.Act→World→Prop} {rest:List Oper} {a:Go.Act} {w:World} {d:Option Tmp} (T:TypeId) {x:Operand} {ty:TypeId} {pos:String} {af:Array Edge} {g:Option (Nat × Bool)}
 (h:Stp (wpList P ops Q ({ dst:=d,op:=.load T x,type:=ty,pos:=pos,after:=af,guard:=g } :: rest) a w)):wpList P ops Q ({ dst:=d,op:=.load T x,type:=ty,pos:=pos,after:=af,guard:=g } :: rest) a w:=h
theorem zh8:(Tryz.prog.info? 3).map (fun i=>(i.zero,i.size,i.bytes))=some (some (.int .i64 0),1,8):=by kernel_rfl
theorem info9s:(Tryz.prog.info? 9).map (fun i=>(i.zero,i.size,i.bytes))=some (some (.string ⟨#[]⟩),1,16):=by kernel_rfl
theorem zc0 (l:List Int):(zai l).length=l.length:=by simp [zai]
theorem zdi (l:List Int):∀ u∈zai l,u.oneCell'=true:=by
 intro u hu
 simp only [zai,List.mem_map] at hu
 obtain ⟨n,_,rfl⟩:=hu
 rfl
theorem zhx (l:List ByteArray):(strCells l).length=l.length:=by simp [strCells]
theorem strCells_one (l:List ByteArray):∀ u∈strCells l,u.oneCell'=true:=by
 intro u hu
 simp only [strCells,List.mem_map] at hu
 obtain ⟨n,_,rfl⟩:=hu
 rfl
theorem zdn {W:World} {b k:Nat} {ob:Obj} (h:W.heap[k]?=some ob) (hne:k≠b) (i:Nat) (v:Value):(W.setCell ⟨b,i,none⟩ v).heap[k]?=some ob:=by
 rw [zd6,if_neg hne]
 exact h
theorem zdy {W:World} {b t:Nat} {cs:Array Value} {f:Nat × Nat} (h:W.heap[b]?=some (.cells cs t f)) (i:Nat) (v:Value):(W.setCell ⟨b,i,none⟩ v).heap[b]?=some (.cells (cs.setIfInBounds i v) t f):=by
 rw [zd6,if_pos rfl,h]
 rfl
theorem za0 {w:World} {B B' e size n:Nat} {v:Value} {xs:List Value} (h:w.ownsRow B e size v n xs) (hB:B'≤B):w.ownsRow B' e size v n xs:=by
 refine ⟨h.1,?_⟩
 rcases h.2 with h2 | ⟨g,cap,cur,h1,h2,h3⟩
 · exact .inl h2
 · exact .inr ⟨g,cap,cur,h1,Nat.le_trans hB h2,h3⟩
theorem own_grown_ty {w w':World} {B e size n g t0:Nat} {cur:Array Value} {f:Nat × Nat} {v:Value} {xs:List Value} (h:w.ownsRow B e size v n xs) (hg:w.grownBy w' (some g)) (h0:w.heap[g]?=some (.cells cur t0 f)) (hne:e≠t0):w'.ownsRow B e size v n xs:=
 zbc h fun k cur' hk=>hg.block k (lt_of_block hk) fun he=>by
  have he':k=g:=Option.some.inj he
  rw [he',h0] at hk
  cases hk
  exact hne rfl
theorem zaq {w:World} {B e size n g:Nat} {v:Value} {xs:List Value} (h:w.ownsRow B e size v n xs) (cs:Array Value) (hne:∀ k,v.ownBlock=some k→k≠g):(w.setRow g cs).ownsRow B e size v n xs:=
 zh3 h fun k hk=>setRow_other w g k cs (hne k hk)
theorem zbx {w:World} {B e size n g i:Nat} {v u:Value} {xs:List Value} (h:w.ownsRow B e size v n xs) (hne:∀ k,v.ownBlock=some k→k≠g):(w.setCell ⟨g,i,none⟩ u).ownsRow B e size v n xs:=
 zh3 h fun k hk=>by
  have h1:=hne k hk
  obtain ⟨_,_,cur,h2⟩:=zbi h hk
  exact (zdn h2 h1 i u).trans h2.symm
theorem zbh {w:World} {B e size n g:Nat} {v:Value} {xs:List Value} (h:w.ownsRow B e size v n xs) (hg:g<B):∀ k,v.ownBlock=some k→k≠g:=fun k hk=>by
 have:=(zbi h hk).1
 omega
theorem own_hi {w:World} {B e size n g:Nat} {v:Value} {xs:List Value} (h:w.ownsRow B e size v n xs) (hg:w.heap.size≤g):∀ k,v.ownBlock=some k→k≠g:=fun k hk=>by
 have:=(zbi h hk).2.1
 omega
theorem zca {w:World} {B e size n g t0:Nat} {cur:Array Value} {f:Nat × Nat} {v:Value} {xs:List Value} (h:w.ownsRow B e size v n xs) (h0:w.heap[g]?=some (.cells cur t0 f)) (hne:e≠t0):∀ k,v.ownBlock=some k→k≠g:=fun k hk he=>by
 obtain ⟨_,_,cur',h2⟩:=zbi h hk
 rw [he,h0] at h2
 cases h2
 exact hne rfl
def zd8 (w:World) (t size:Nat) (xs:List Value) (n:Nat) (e:Ending) (w':World):Prop:=
 ∃ A c,e=.returned (.slice A n c)∧n≤c∧w'.ownsRow w.heap.size t size (.slice A n c) n xs∧Below w.heap.size w w'
theorem zfx (w:World) (B:Nat) (A:Option Addr) (n c:Nat) (l:List Int) (hl:l.length=n) (hn:n≤1000000) (h:Rd w B A (zai l)) (hB:B≤w.heap.size) :
 Calls Tryz.prog 50 #[.slice A n c] w (zd8 w 3 1 (zai l) n):=by
 obtain ⟨i1,hi1,hy0,hy1,hy2⟩:=info_parts zh8
 have HL:=Lib.hid hl
 have h':=h.below (((Below.refl _ _).alloc (Nat.le_refl _) (.cells #[] 3):Below w.heap.size w (w.alloc (.cells #[] 3))).mono hB)
 have hb0:=hB1 w (.cells #[] 3)
 clear hl
 go_enter Tryz.func50,Tryz.ntmps50
 go_wp2_with (at_builtin;refine stp ?_)
 unfold Stp
 refine za6 _ rfl _ _ 32 rfl w.heap.size 3 i1 _ 1 8 Tryz.underlying32 hi1 hy0 hy1 hy2 rfl (by omega) w.heap.size rfl (by rw [zae,if_pos rfl]) (Nat.le_refl _) B A n c (zai l) rfl (by rw [zc0,HL.out,Nat.mul_one]) h' (zdi l) (by simp only [maxLen];omega) (by omega) (by simp) ?_
 intro g cap w1 hown hgrow _
 have hb1:Below w.heap.size w w1:=hb0.grown hgrow (by simp) (fun k hk=>by rw [← Option.some.inj hk];exact Nat.le_refl _)
 have HR:=Lib.hid hown
 have hcap:=zbn hown
 have HB:=Lib.hid hb1
 clear hown hgrow hb0 hb1 h h'
 go_wp2
 go_ret
 exact ⟨_,_,rfl,hcap,HR.out,HB.out⟩
theorem zds (w:World) (B:Nat) (A:Option Addr) (n c:Nat) (l:List ByteArray) (hl:l.length=n) (hn:n≤1000000) (h:Rd w B A (strCells l)) (hB:B≤w.heap.size) :
 Calls Tryz.prog 30 #[.slice A n c] w (zd8 w 9 1 (strCells l) n):=by
 obtain ⟨i1,hi1,hy0,hy1,hy2⟩:=info_parts info9s
 have HL:=Lib.hid hl
 have h':=h.below (((Below.refl _ _).alloc (Nat.le_refl _) (.cells #[] 9):Below w.heap.size w (w.alloc (.cells #[] 9))).mono hB)
 have hb0:=hB1 w (.cells #[] 9)
 clear hl
 go_enter Tryz.func30,Tryz.ntmps30
 go_wp2_with (at_builtin;refine stp ?_)
 unfold Stp
 refine za6 _ rfl _ _ 22 rfl w.heap.size 9 i1 _ 1 16 Tryz.underlying22 hi1 hy0 hy1 hy2 rfl (by omega) w.heap.size rfl (by rw [zae,if_pos rfl]) (Nat.le_refl _) B A n c (strCells l) rfl (by rw [zhx,HL.out,Nat.mul_one]) h' (strCells_one l) (by simp only [maxLen];omega) (by omega) (by simp) ?_
 intro g cap w1 hown hgrow _
 have hb1:Below w.heap.size w w1:=hb0.grown hgrow (by simp) (fun k hk=>by rw [← Option.some.inj hk];exact Nat.le_refl _)
 have HR:=Lib.hid hown
 have hcap:=zbn hown
 have HB:=Lib.hid hb1
 clear hown hgrow hb0 hb1 h h'
 go_wp2
 go_ret
 exact ⟨_,_,rfl,hcap,HR.out,HB.out⟩
theorem bdSize:(Tryz.prog.info? 151).map (·.size)=some 2:=by kernel_rfl
theorem zl4 (B b:Nat) (bs:List Value) (w:World) (h:Lib.IsBuilder 151 5 B b bs w) :
 Calls Tryz.prog 95 #[.pointer (some ⟨b,0,none⟩)] w fun e w'=>e=.returned (.tuple #[])∧(Lib.BuilderAt 151 5 B b (.pointer (some ⟨b,0,none⟩)) bs w'∧Below B w w'):=by
 obtain ⟨j,hj,hjs⟩:=Option.map_eq_some_iff.1 bdSize
 rcases h with h | h
 · have c0:=h.cell0
   have f0:=h.frozen0
   have hsh:=h.shape
   have HH:=Lib.hid h
   clear h
   go_enter Tryz.func95,Tryz.ntmps95
   go_wp2
   rw [Lib.run_to_unsafe w ⟨b,0,none⟩ Tryz.underlying148 Tryz.underlying263 hj (by rw [hjs];decide) hsh (Nat.zero_lt_succ 1)]
   simp only [Result.andThen]
   rw [Oper.upon_value]
   go_wp2
   rw [run_callFunc_extern Tryz.func170 (by kernel_rfl) (by kernel_rfl) (by kernel_rfl) (e:=Extern.AbiNoEscape.same) (by kernel_rfl)]
   rw [Lib.run_noEscape]
   simp only [Result.andThen]
   rw [Oper.upon_value]
   go_wp2
   rw [Lib.run_from_unsafe w ⟨b,0,none⟩ Tryz.underlying263 Tryz.underlying148 hj hsh (by kernel_rfl)]
   simp only [Result.andThen]
   rw [Oper.upon_value]
   go_wp2
   go_end0
   exact ⟨rfl,HH.out.used _,(Below.refl B w).setCell (p:=⟨b,0,none⟩) HH.out.1 _⟩
 · have c0:=h.cell0
   have HH:=Lib.hid h
   clear h
   go_enter Tryz.func95,Tryz.ntmps95
   go_wp2
   rw [Lib.run_neq_ptr_same w _ Tryz.underlying148 hj]
   go_wp2
   go_end0
   exact ⟨rfl,HH.out,Below.refl B _⟩
theorem info5s:(Tryz.prog.info? 5).map (fun i=>(i.zero,i.size,i.bytes))=some (some (.int .u8 0),1,1):=by kernel_rfl
theorem zfv (B b:Nat) (bs:List Value) (s:ByteArray) (w:World) (h:Lib.IsBuilder 151 5 B b bs w) (hlen:bs.length+s.size≤1000000) (hBw:B≤w.heap.size) :
 Calls Tryz.prog 55 #[.pointer (some ⟨b,0,none⟩),.string s] w fun e w'=>e=.returned (.tuple #[.int .i64 s.size,.nilIface])∧(Lib.BuilderAt 151 5 B b (.pointer (some ⟨b,0,none⟩)) (bs++Lib.strCells s) w'∧Below B w w'):=by
 obtain ⟨i0,hi,hz0,hz1,hz2⟩:=info_parts info5s
 have CC:=zl4 B b bs w h
 clear h
 go_enter Tryz.func55,Tryz.ntmps55
 go_wp2_with (go_at_call 95;refine CC.mono ?_;rintro e w1 ⟨rfl,⟨hB,v,hbk,hown,hne⟩,hb1⟩;refine stp ?_)
 unfold Stp
 have c1:=(cell_of_row w1 b 1 _ _ _ hbk).trans (by rfl:_=some v)
 have hs1:=hb1.size
 go_wp2_with (at_builtin;refine stp ?_)
 unfold Stp
 refine Lib.wpList_append_own_string _ rfl _ _ 149 9 rfl B 5 i0 Tryz.underlying149 Tryz.underlying9 hi hz0 hz1 hz2 _ _ _ rfl hown s rfl (by unfold maxLen;omega) (by omega) (by omega) ?_
 intro v' w2 hown' hgrow _
 have hb2:=(hgrow.block b (lt_of_block hbk) (fun e=>hne e.symm)).trans hbk
 have hb3:=hb1.grown hgrow (by omega) (fun k hk=>(zbi hown hk).1)
 obtain ⟨ao,cap,rfl⟩:=zcn hown'
 have d1:=(cell_of_row w2 b 1 _ _ _ hb2).trans (by rfl:_=some v)
 have f1:=frozen_of_row w2 b 1 _ _ hb2
 have HO:=Lib.hid hown'
 have HB:=Lib.hid hb3
 clear hown hown' hgrow hb1 c1 hbk hb3 CC
 go_wp2
 go_ret2
 exact ⟨rfl,Lib.BuilderAt.put (T:=151) (e:=5) hB hb2 (bs':=bs++Lib.strCells s) (by have h9:=HO.out;simpa [Lib.strCells_length] using h9) (by decide),HB.out.setCell (p:=⟨b,1,none⟩) hB _⟩
def zfw (w:World) (s:ByteArray) (e:Ending) (w':World):Prop:=e=.returned (.string s)∧Below w.heap.size w w'
structure TxtAt (w:World):Prop where
 tab:Lib.TabIs Tryz.prog w "internal/strconv.uint64pow10" .u64 Lib.pow10Tab
 es:∃ te pe,w.cell? ⟨5,0,none⟩=some (.iface te pe)
 er:∃ te pe,w.cell? ⟨6,0,none⟩=some (.iface te pe)
 mx:∃ m,w.cell? ⟨1,0,none⟩=some (.int .i64 m)
theorem tab_below {n:String} {k:IntKind} {zs:List Int} {w w':World} (h:Lib.TabIs Tryz.prog w n k zs) (hb:Below w.heap.size w w'):Lib.TabIs Tryz.prog w' n k zs:=by
 unfold Lib.TabIs World.var? at h ⊢
 generalize hg:Tryz.prog.globalNamed n=o at h ⊢
 cases o with
 | none=>simp at h
 | some g =>
  simp only [Option.bind_some] at h ⊢
  have hlt:g<w.heap.size:=by
   rcases Nat.lt_or_ge g w.heap.size with h' | h'
   · exact h'
   · rw [Array.getElem?_eq_none h'] at h;cases h
  rw [hb.block g hlt]
  exact h
theorem TxtAt.below {w w':World} (h:TxtAt w) (hb:Below w.heap.size w w'):TxtAt w':=by
 obtain ⟨b,⟨c1,c2,c⟩,⟨d1,d2,d⟩,⟨m,e⟩⟩:=h
 exact ⟨tab_below b hb,⟨c1,c2,zat hb c⟩,⟨d1,d2,zat hb d⟩,⟨m,zat hb e⟩⟩
theorem grow_below (w:World) (k:Nat) (bs:Array Obj):Below w.heap.size w (Sort.grow (w.drewN k) bs):=by
 have hh:(w.drewN k).heap=w.heap:=rfl
 refine ⟨rfl,rfl,rfl,?_,fun j hj=>?_⟩
 · simp only [Sort.grow,hh,Array.size_append]
   omega
 · simp only [Sort.grow,hh]
   exact Array.getElem?_append_left hj
theorem zb8 (n:Int) (h0:-9223372036854775808≤n) (h1:n≤9223372036854775807) (w:World) (ht:TxtAt w):Calls Tryz.prog 57 #[.int .i64 n] w (zfw w (ba (Lib.itoa n))):=
 (Tryz.strconv_Itoa n h0 h1 w ht.tab).mono fun _ _ ⟨he,k,os,hw⟩=>⟨he,hw ▸ grow_below w k os⟩
theorem atoi_in {l:List UInt8} {v:Int} (h:Lib.atoiAll l=.ok v):-9223372036854775808≤v∧v≤9223372036854775807:=by
 unfold Lib.atoiAll at h
 split at h
 · cases h
 · simp only at h
   split at h
   · cases h
   · cases h
   · split at h
     · cases h
     · split at h
       · cases h
       · injection h with h
         subst h
         rename_i h1 h2
         split
         · rename_i h3
           have:=fun h=>h2 ⟨h3,h⟩
           omega
         · rename_i h3
           have:=fun h=>h1 ⟨h3,h⟩
           omega
def AtoiPost (w:World) (v:Int) (e:Ending) (w':World):Prop:=e=.returned (.tuple #[.int .i64 v,.nilIface])∧Below w.heap.size w w'
theorem Atoi_ok (s:ByteArray) (hs:s.size≤1000000) (v:Int) (h:Lib.atoiAll s.data.toList=.ok v) (w:World):Calls Tryz.prog 182 #[.string s] w (AtoiPost w v):=
 (Tryz.strconv_Atoi_ok s (by omega) v h w).mono fun _ _ ⟨he,hw⟩=>⟨he,by
  rcases hw with rfl | ⟨t,rfl⟩
  · exact Below.refl _ _
  · exact Lib.bytesWorld_below w _ t⟩
theorem drewN_below (w:World) (k:Nat):Below w.heap.size w (w.drewN k):=⟨rfl,rfl,rfl,Nat.le_refl _,fun _ _=>rfl⟩
theorem Cut_any (s sep:ByteArray) (hs:s.size≤1000000) (w:World) (ht:TxtAt w):Calls Tryz.prog 254 #[.string s,.string sep] w fun e w' =>
 e=.returned (.tuple #[.string (ba (Lib.cut s.data.toList sep.data.toList).1),.string (ba (Lib.cut s.data.toList sep.data.toList).2.1),.bool (Lib.cut s.data.toList sep.data.toList).2.2])∧Below w.heap.size w w':=by
 obtain ⟨m,hm⟩:=ht.mx
 exact (Tryz.strings_Cut s sep m w (by omega) hm).mono fun _ _ ⟨he,n,hw⟩=>⟨he,hw ▸ drewN_below w n⟩
theorem zf6 (xs:List ByteArray) (sep:ByteArray) (A:Option Addr) (c B:Nat) (w:World) (hc:xs.length≤c) (hB:B≤w.heap.size) (hr:Rd w B A (strCells xs)) (hN:xs.length≤1000000)
 (hlen:(Lib.join (xs.map (·.data.toList)) sep.data.toList).length≤140737488355328):Calls Tryz.prog 56 #[.slice A xs.length c,.string sep] w (zfw w (ba (Lib.join (xs.map (·.data.toList)) sep.data.toList))):=by
 cases xs with
 | nil=>exact (Tryz.strings_Join_none A c sep w).mono fun _ _ ⟨he,hw⟩=>⟨he,hw ▸ Below.refl _ _⟩
 | cons x xs =>
  obtain ⟨b,off,rfl,hb,_⟩:=hr.at_ (k:=0) (u:=.string x) rfl
  exact (Tryz.strings_Join b off c (x :: xs) sep w (fun j y hj=>by
   obtain ⟨b',off',hA,_,hc⟩:=hr.at_ (k:=j) (u:=.string y) (by simp only [strCells,List.getElem?_map,hj,Option.map_some])
   injection hA with hA
   injection hA with h1 h2
   subst h1 h2
   exact hc) (by omega) (by omega) hc hlen).mono fun _ _ ⟨he,hb⟩=>⟨he,hb⟩
def NumOk (w:World) (n:Int) (e:Ending) (w':World):Prop:=e=.returned (.tuple #[.int .i64 n,.bool true])∧Below w.heap.size w w'
theorem zgi (n:Int) (h:0≤n):(Lib.itoa n).length≤(Lib.trimPrefix (Lib.itoa n) [45]).length:=by
 rw [itoa_mag,Lib.itoa,if_neg (by omega)]
 exact Nat.le_of_eq (congrArg (fun k=>(Lib.decDigits k).length) (by omega))
theorem number156_ok (s:ByteArray) (most:Nat) (hm:most≤10) (hs:s.size≤1000000) (n:Int) (h:numL s.data.toList most=some n) (h0:0≤n) (w:World) (ht:TxtAt w) :
 Calls Tryz.prog 105 #[.string s,.int .i64 (most:Int)] w (NumOk w n):=by
 obtain ⟨a1,a2,a3,_⟩:=zlv (by omega) h
 have hv:=atoi_in a1
 have C:=Atoi_ok s hs n a1 w
 have IT:∀ W,TxtAt W→Calls Tryz.prog 57 #[.int .i64 n] W (zfw W s):=fun W hW=>by
  have:=zb8 n hv.1 hv.2 W hW
  rw [a2,ba_of] at this
  exact this
 have q:(s.size:Int)≤(most:Int):=by
  have:=zgi n h0
  rw [a2] at this
  have e:s.size=s.data.toList.length:=Lib.size_eq s
  have:s.size≤most:=by omega
  omega
 have HT:=Lib.hid ht
 clear a1 a2 a3 h hv ht
 go_enter Tryz.func105,Tryz.ntmps105
 go_upto_region 2 with (go_at_call 182;refine C.mono ?_;rintro e w1 ⟨rfl,hb1⟩)
 clear C
 have IT1:=IT w1 (HT.out.below hb1)
 have HB:=Lib.hid hb1
 have hsz:=hb1.size
 clear IT HT hb1
 go_wp2_with (go_at_call 57;refine IT1.mono ?_;rintro e w2 ⟨rfl,hb2⟩)
 go_ret2
 exact ⟨rfl,HB.out.trans (hb2.mono hsz)⟩
theorem number253_ok (s:ByteArray) (most:Nat) (hm:most≤10) (hs:s.size≤1000000) (n:Int) (h:numL s.data.toList most=some n) (h0:0≤n) (w:World) (ht:TxtAt w) :
 Calls Tryz.prog 256 #[.string s,.int .i64 (most:Int)] w (NumOk w n):=by
 obtain ⟨a1,a2,a3,_⟩:=zlv (by omega) h
 have hv:=atoi_in a1
 have C:=Atoi_ok s hs n a1 w
 have IT:∀ W,TxtAt W→Calls Tryz.prog 57 #[.int .i64 n] W (zfw W s):=fun W hW=>by
  have:=zb8 n hv.1 hv.2 W hW
  rw [a2,ba_of] at this
  exact this
 have q:(s.size:Int)≤(most:Int):=by
  have:=zgi n h0
  rw [a2] at this
  have e:s.size=s.data.toList.length:=Lib.size_eq s
  have:s.size≤most:=by omega
  omega
 have HT:=Lib.hid ht
 clear a1 a2 a3 h hv ht
 go_enter Tryz.func256,Tryz.ntmps256
 go_upto_region 2 with (go_at_call 182;refine C.mono ?_;rintro e w1 ⟨rfl,hb1⟩)
 clear C
 have IT1:=IT w1 (HT.out.below hb1)
 have HB:=Lib.hid hb1
 have hsz:=hb1.size
 clear IT HT hb1
 go_wp2_with (go_at_call 57;refine IT1.mono ?_;rintro e w2 ⟨rfl,hb2⟩)
 go_ret2
 exact ⟨rfl,HB.out.trans (hb2.mono hsz)⟩
theorem number313_ok (s:ByteArray) (hs:s.size≤1000000) (n:Int) (h:numL s.data.toList 4=some n) (h0:0≤n) (w:World) (ht:TxtAt w) :
 Calls Tryz.prog 319 #[.string s] w (NumOk w n):=by
 obtain ⟨a1,a2,a3,_⟩:=zlv (by omega) h
 have hv:=atoi_in a1
 have C:=Atoi_ok s hs n a1 w
 have IT:∀ W,TxtAt W→Calls Tryz.prog 57 #[.int .i64 n] W (zfw W s):=fun W hW=>by
  have:=zb8 n hv.1 hv.2 W hW
  rw [a2,ba_of] at this
  exact this
 have q:(s.size:Int)≤4:=by
  have:=zgi n h0
  rw [a2] at this
  have e:s.size=s.data.toList.length:=Lib.size_eq s
  have:s.size≤4:=by omega
  omega
 have HT:=Lib.hid ht
 clear a1 a2 a3 h hv ht
 go_enter Tryz.func319,Tryz.ntmps319
 go_upto_region 2 with (go_at_call 182;refine C.mono ?_;rintro e w1 ⟨rfl,hb1⟩)
 clear C
 have IT1:=IT w1 (HT.out.below hb1)
 have HB:=Lib.hid hb1
 have hsz:=hb1.size
 clear IT HT hb1
 go_wp2_with (go_at_call 57;refine IT1.mono ?_;rintro e w2 ⟨rfl,hb2⟩)
 go_ret2
 exact ⟨rfl,HB.out.trans (hb2.mono hsz)⟩
end Go.Proofs.YtoodbfkbbchjiaaGreatDoor
