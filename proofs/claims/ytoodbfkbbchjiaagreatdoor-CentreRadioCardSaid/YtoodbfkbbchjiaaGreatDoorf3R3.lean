import Derived.Test.YtoodbfkbbchjiaaGreatDoorf3B11
import Derived.Test.YtoodbfkbbchjiaaGreatDoorf3B7
import Derived.Test.YtoodbfkbbchjiaaGreatDoorf3Q8
import Derived.Test.YtoodbfkbbchjiaaGreatDoorf3F4
set_option maxRecDepth 100000
set_option maxHeartbeats 16000000
namespace Go.Proofs.YtoodbfkbbchjiaaGreatDoor
open Go.RowKit
theorem zlw (w:World) (x b:Nat) (V:BookV) (h:BkAt w x b V) (hS:HouseS V.h) (s:ByteArray):Calls Tryz.prog 218 #[.pointer (some ⟨b,0,none⟩),.string s] w fun e w'=>e=.returned (.int .i64 (zh9 V.h.masts s))∧w=w':=by
 have IX:=zf7 V.h.ms.A V.h.ms.n V.h.ms.c x V.h.masts s w (by have:=h.r.house.masts.1;have:=hS.masts.1;omega) h.r.house.masts.1 h.r.house.masts.2
 generalize zh9 V.h.masts s=i at *
 have d0:=h.house 23 (u:=V.h.ms.v) rfl
 simp only [SlV.v] at d0
 clear h hS
 go_enter Tryz.func218,Tryz.ntmps218
 go_wp2_with (go_at_call 75;refine IX.mono ?_;rintro e w' ⟨rfl,rfl⟩)
 go_ret
 exact ⟨rfl,rfl⟩
theorem zh1 (a b:Nat) (W:World):Sem.run Tryz.prog (binOp BinOp.eql 136 (.chan (some a)) (.chan (some b))) W=.ok (.bool (decide (a=b))) W:=by
 have h:Sem.run Tryz.prog (binOp BinOp.eql 136 (.chan (some a)) (.chan (some b))) W=.ok (.bool (some a == some b)) W:=by kernel_rfl
 rw [h]
 by_cases e:a=b
 · subst e;simp
 · simp [e]
theorem zhq {l:List Nat} {i c:Nat} (h:l[i]?=some c):(zel l)[i]?=some (.chan (some c)):=by simp [zel,h]
theorem zhu (A:Option Addr) (n c B:Nat) (chs:List Nat) (i ch:Nat) (hi:chs[i]?=some ch) (hnd:chs.Nodup) (w:World) (hl:chs.length=n) (hn:n≤1000000) (h:Rd w B A (zel chs)):Calls Tryz.prog 49 #[.slice A n c,.chan (some ch)] w fun e w'=>e=.returned (.int .i64 (i:Nat))∧w=w':=by
 have hin:i<n:=by rw [← hl];exact (List.getElem?_eq_some_iff.1 hi).1
 have HI:=Lib.hid (And.intro hi (And.intro hnd hl))
 obtain ⟨bb,off,rfl,hbb,z0⟩:=h.at_ (zhq hi)
 clear hi hnd hl z0
 go_enter Tryz.func49,Tryz.ntmps49
 go_wp2
 go_loop [5,8] (fun _ u=>∃ k:Nat,k≤i∧u=.int .i64 k) (fun _ u=>n - (intOf u).toNat)
 case atStart=>exact ⟨0,Nat.zero_le _,rfl⟩
 case round =>
  obtain ⟨k,hk,rfl⟩:=hrel
  have hkn:k<n:=by omega
  obtain ⟨ck,hck⟩:∃ ck,chs[k]?=some ck:=⟨_,List.getElem?_eq_getElem (by rw [HI.out.2.2];exact hkn)⟩
  have zk:=zby h (zhq hck)
  by_cases he:k=i
  · subst he
    have:ck=ch:=by rw [HI.out.1] at hck;exact (Option.some.inj hck).symm
    subst this
    have hq:=fun W=>(zh1 ck ck W).trans (by rw [decide_eq_true rfl])
    clear hck HI
    go_wp2
    go_ret
    exact ⟨rfl,rfl⟩
  · have hne:¬ ch=ck:=fun e=>he (by
     subst e
     have h1:=(List.getElem?_eq_some_iff.1 hck).1
     exact (List.getElem?_inj h1 HI.out.2.1).1 (hck.trans HI.out.1.symm))
    have hq:=fun W=>(zh1 ch ck W).trans (by rw [decide_eq_false hne])
    clear hck
    go_wp2
    go_round
    case rel=>exact ⟨k+1,by omega,by go_num⟩
    case measure=>simp [intOf];omega
def zlk (chs:List Nat) (t:Int) (born:Nat):Option (Nat × Option Nat)→Array MapEntry
 | none=>#[]
 | some (i,nx)=>#[⟨.int .i64 t,.agg #[.chan chs[i]?,.chan (nx.bind fun j=>chs[j]?)],born⟩]
def zht (V:BookV) (t:Int) (s:Option (Nat × Option Nat)):Prop:=(∃ born,V.se.es=zlk V.ms.chs t born s)∧V.ms.chs.Nodup∧V.ms.chs.length=V.h.masts.length
theorem look_none (V:BookV) (t:Int) (h:zht V t none):Instr.findNow (.int .i64) (.int .i64 t) V.se.es.toList 0=some none:=by
 obtain ⟨⟨b,e⟩,_⟩:=h
 rw [e];rfl
theorem zfk (V:BookV) (t:Int) (i:Nat) (nx:Option Nat) (h:zht V t (some (i,nx))):Instr.findNow (.int .i64) (.int .i64 t) V.se.es.toList 0=some (some (0,.agg #[.chan V.ms.chs[i]?,.chan (nx.bind fun j=>V.ms.chs[j]?)])):=by
 obtain ⟨⟨b,e⟩,_⟩:=h
 rw [e]
 simp [zlk,Instr.findNow,Instr.sameNow]
theorem run_mapNew (w:World) (m c:Nat) (t:Int) (v:Value) (h:w.heap[m]?=some (.map #[] c)) :
 (Instr.mapUpdate 108 (.map (some m)) (.int .i64 t) v).run Tryz.prog w=.ok () (mapAt w m #[⟨.int .i64 t,v,c⟩] (c+1)):=by
 have hf:Instr.findNow (.int .i64) (.int .i64 t) ([]:List MapEntry) 0=some none:=rfl
 have hc:(Instr.checkKey false 10000 3 (.int .i64 t)).run Tryz.prog w=.ok () w:=MapKept.run_checkKey (k:=.int .i64 t) Tryz.underlying3 (by simp [MapKept.IsKey]) false 9999
 simp [Instr.mapUpdate,run_underlying Tryz.underlying108,MapKept.run_getObj_map h,hc,MapKept.run_findKey Tryz.underlying3 hf,MapKept.run_setObj_map _ h,Result.andThen,mapAt]
theorem zkl (w:World) (m c born:Nat) (t:Int) (v v0:Value) (h:w.heap[m]?=some (.map #[⟨.int .i64 t,v0,born⟩] c)) :
 (Instr.mapUpdate 108 (.map (some m)) (.int .i64 t) v).run Tryz.prog w=.ok () (mapAt w m #[⟨.int .i64 t,v,born⟩] c):=by
 have hf:Instr.findNow (.int .i64) (.int .i64 t) [⟨.int .i64 t,v0,born⟩] 0=some (some (0,v0)):=by simp [Instr.findNow,Instr.sameNow]
 have hk:MapKept.IsKey (.int .i64) (.int .i64 t):=by simp [MapKept.IsKey]
 have hc:(Instr.checkKey false 10000 3 (.int .i64 t)).run Tryz.prog w=.ok () w:=MapKept.run_checkKey (k:=.int .i64 t) Tryz.underlying3 hk false 9999
 have hs:(Instr.keyThatStays (.int .i64 t) (.int .i64 t)).run Tryz.prog w=.ok (.int .i64 t) w:=MapKept.run_keyThatStays hk
 simp [Instr.mapUpdate,run_underlying Tryz.underlying108,MapKept.run_getObj_map h,hc,MapKept.run_findKey Tryz.underlying3 hf,MapKept.run_setObj_map _ h,hs,Result.andThen,mapAt]
theorem run_mapDel (w:World) (m c born:Nat) (ty:TypeId) (t:Int) (v0:Value) (h:w.heap[m]?=some (.map #[⟨.int .i64 t,v0,born⟩] c)) :
 (Builtin.delete_ #[108,3] ty #[.map (some m),.int .i64 t]).run Tryz.prog w=.ok (.tuple #[]) (mapAt w m #[] c):=by
 have hf:Instr.findNow (.int .i64) (.int .i64 t) [⟨.int .i64 t,v0,born⟩] 0=some (some (0,v0)):=by simp [Instr.findNow,Instr.sameNow]
 have hk:MapKept.IsKey (.int .i64) (.int .i64 t):=by simp [MapKept.IsKey]
 have hc:(Instr.checkKey false 10000 3 (.int .i64 t)).run Tryz.prog w=.ok () w:=MapKept.run_checkKey (k:=.int .i64 t) Tryz.underlying3 hk false 9999
 simp [Builtin.delete_,run_underlying Tryz.underlying108,MapKept.run_getObj_map h,hc,MapKept.run_findKey Tryz.underlying3 hf,MapKept.run_setObj_map _ h,Result.andThen,mapAt]
theorem BkAt.sesd {w:World} {x b:Nat} {V:BookV} (h:BkAt w x b V) (es:Array MapEntry) (c:Nat):BkAt (mapAt w V.se.m es c) x b { V with se:=⟨V.se.m,es,c⟩ }:=by
 have hse:=h.r.se
 have hk:∀ (k:Nat) (cs:Array Value) (t:Nat),w.heap[k]?=some (.cells cs t (0,0))→(mapAt w V.se.m es c).heap[k]?=w.heap[k]?:=fun k cs t hc=>zco _ _ _ _ _ (fun e=>by rw [e,hse] at hc;cases hc)
 refine ⟨(hk _ _ _ h.blk).trans h.blk,h.xb,⟨h.log.1,zbc h.log.2 fun k cur hc=>hk k _ _ hc⟩,⟨h.ms.1,zbc h.ms.2 fun k cur hc=>hk k _ _ hc⟩,⟨h.r.house.belowC (zcr (Below.refl _ _) h.r.ne.2.2.1 _ _),h.r.lk.other fun k t cur _ hc=>hk k _ _ hc,?_,?_,?_,h.r.ne,h.r.wk.1,zbc h.r.wk.2 fun k cur hc=>hk k _ _ hc⟩⟩
 · exact (zco _ _ _ _ _ h.r.ne.2.2.2.2.1).trans h.r.pl
 · exact (zco _ _ _ _ _ h.r.ne.2.2.2.2.2).trans h.r.rn
 · exact zkq _ _ _ _ _ _ hse
end Go.Proofs.YtoodbfkbbchjiaaGreatDoor
namespace Go.Proofs.YtoodbfkbbchjiaaGreatDoor
theorem spl_word (a:List UInt8) (h:∀ c∈a,c≠32):spl a=[a]:=by
 induction a with
 | nil=>rfl
 | cons c a ih =>
  rw [spl,if_neg (h c (List.mem_cons_self ..)),ih fun d hd=>h d (List.mem_cons_of_mem _ hd)]
theorem spl_cut (a l:List UInt8) (h:∀ c∈a,c≠32):spl (a++32 :: l)=a :: spl l:=by
 induction a with
 | nil=>rw [List.nil_append,spl,if_pos rfl]
 | cons c a ih =>
  rw [List.cons_append,spl,if_neg (h c (List.mem_cons_self ..)),ih fun d hd=>h d (List.mem_cons_of_mem _ hd)]
def nmB (c:UInt8):Prop:=45≤c.toNat∧c.toNat≤122
theorem okN_nm {i c:Nat} (h:okN i c=true):45≤c∧c≤122:=by
 unfold okN at h
 simp only [Bool.or_eq_true,Bool.and_eq_true,decide_eq_true_eq] at h
 omega
theorem nameGo_nm:∀ (l:List UInt8) (i:Nat),zbm i l=true→∀ c∈l,nmB c
 | [],_,_,_,h=>by simp at h
 | b :: l,i,h,c,hc=>by
  rw [zbm,Bool.and_eq_true] at h
  rcases List.mem_cons.1 hc with rfl | hc
  · exact okN_nm h.1
  · exact nameGo_nm l (i+1) h.2 c hc
theorem zc7 {s:ByteArray} (h:za3 s=true):(∀ c∈s.data.toList,nmB c)∧1≤s.size∧s.size≤12:=by
 unfold za3 at h
 simp only [Bool.and_eq_true,decide_eq_true_eq] at h
 exact ⟨nameGo_nm _ _ h.2,h.1.1,h.1.2⟩
theorem nmB_blank {c:UInt8} (h:nmB c):c≠32:=fun e=>by
 subst e
 exact absurd h.1 (by decide)
theorem spl_nm {s:ByteArray} (h:za3 s=true):∀ c∈s.data.toList,c≠32:=fun c hc=>nmB_blank ((zc7 h).1 c hc)
def prB (l:List UInt8):Prop:=∀ c∈l,32≤c.toNat∧c.toNat≤126
instance (l:List UInt8):Decidable (prB l):=inferInstanceAs (Decidable (∀ c∈l,32≤c.toNat∧c.toNat≤126))
theorem zhj {a b:List UInt8} (ha:prB a) (hb:prB b):prB (a++b):=fun c hc=>(List.mem_append.1 hc).elim (ha c) (hb c)
theorem prB_nm {s:ByteArray} (h:za3 s=true):prB s.data.toList:=fun c hc=>by
 have:=(zc7 h).1 c hc
 unfold nmB at this
 omega
theorem decode_ascii (s:ByteArray) (pos:Nat) (hp:pos<s.size) (h:(s.data.toList.getD pos 0).toNat<128):Utf8.decode s pos=((s.data.toList.getD pos 0).toNat,1):=by
 have e:s.get! pos=s.data.toList.getD pos 0:=by
  have hl:pos<s.data.size:=hp
  rw [List.getD_eq_getElem?_getD,List.getElem?_eq_getElem (by simpa using hl)]
  show s.data[pos]! = _
  rw [getElem!_pos s.data pos hl]
  simp
 unfold Utf8.decode
 simp only [Nat.add_zero,e]
 rw [if_pos h]
theorem oddB_pr (s:ByteArray) (h:prB s.data.toList):oddB s=false:=by
 have go:∀ (f pos:Nat),Lib.idxFuncFrom (fun r=>decide (r<32) || decide (126<r)) true s f pos=-1:=by
  intro f
  induction f with
  | zero=>intro pos;rfl
  | succ f ih =>
   intro pos
   unfold Lib.idxFuncFrom
   by_cases hp:pos<s.size
   · have hl:pos<s.data.toList.length:=by rw [← Lib.size_eq];exact hp
     have hm:s.data.toList.getD pos 0∈s.data.toList:=by
      rw [List.getD_eq_getElem?_getD,List.getElem?_eq_getElem hl]
      exact List.getElem_mem hl
     have hc:=h _ hm
     have hd:=decode_ascii s pos hp (by omega)
     rw [if_pos hp,hd]
     have hq:¬ ((fun r=>decide (r<32) || decide (126<r)) (s.data.toList.getD pos 0).toNat=true):=by
      simp only [Bool.or_eq_true,decide_eq_true_eq]
      omega
     rw [if_neg hq]
     exact ih (pos+1)
   · rw [if_neg hp]
 unfold oddB Lib.idxFunc
 rw [go]
 decide
theorem zg7 {α:Type} {f:List α→α→Int}:∀ (l pre:List α),za2 f pre l=0→∀ i x,l[i]?=some x→f (pre++l.take i) x=0
 | [],_,_,_,_,h=>by simp at h
 | y :: l,pre,h,i,x,hx=>by
  rw [za2] at h
  by_cases h0:f pre y=0
  · rw [if_pos h0] at h
    cases i with
    | zero =>
     obtain rfl:y=x:=by simpa using hx
     simpa using h0
    | succ i =>
     have:=zg7 l (pre++[y]) h i x (by simpa using hx)
     simpa using this
  · rw [if_neg h0] at h
    exact absurd h h0
theorem chkN_all {α:Type} {f:List α→α→Int}:∀ (l:List α) (k:Nat) (pre:List α),(zfc f k pre l).2=0→za2 f pre l=0
 | [],_,_,_=>rfl
 | y :: l,k,pre,h=>by
  rw [zfc] at h
  rw [za2]
  by_cases h0:f pre y=0
  · rw [if_pos h0] at h ⊢
    exact chkN_all l (k+1) _ h
  · rw [if_neg h0] at h
    exact absurd h h0
theorem ze2:∀ {l:List Int},zam l=0→∀ a∈l,a=0
 | [],_,_,h=>by simp at h
 | b :: l,h,a,ha=>by
  rw [zam] at h
  by_cases h0:b=0
  · rw [if_pos h0] at h
    rcases List.mem_cons.1 ha with rfl | ha
    · exact h0
    · exact ze2 h a ha
  · rw [if_neg h0] at h
    exact absurd h h0
theorem zd9 {b:Bool} {e:Int} (he:e≠0) (h:zag b e=0):b=true:=by
 cases b with
 | true=>rfl
 | false=>exact absurd h he
structure HouseR (h:HouseV):Prop where
 plant:zb7 h.plant=0
 tchk:za2 nmE [] h.plant.trains=0
 mchk:za2 nmE [] h.masts=0
 trains:∀ s∈h.plant.trains,za3 s=true
 train1:0<h.plant.trains.length
 masts:∀ s∈h.masts,za3 s=true
 mast1:0<h.masts.length∧h.masts.length≤6
 people:∀ (i j:Nat) (x y:Sw),h.people[i]?=some x→h.people[j]?=some y→x.1=y.1→i=j
 chief:∃ p∈h.people,p.2=3
theorem nmE_name {pre:List ByteArray} {s:ByteArray} (h:nmE pre s=0):za3 s=true∧zcu pre s=false:=by
 have:=ze2 h
 refine ⟨zd9 (by decide) (this _ (List.mem_cons_self ..)),?_⟩
 have:=zd9 (by decide) (this _ (List.mem_cons_of_mem _ (List.mem_cons_self ..)))
 simpa using this
theorem listE_ok {α:Type} {most:Nat} {f:List α→α→Int} {l:List α} (h:(zdh most f l).2=0):0<l.length∧l.length≤most∧za2 f [] l=0:=by
 unfold zdh at h
 by_cases h0:l.length=0
 · rw [if_pos h0] at h;exact absurd h (by decide)
 · rw [if_neg h0] at h
   by_cases h1:most<l.length
   · rw [if_pos h1] at h;exact absurd h (by decide)
   · rw [if_neg h1] at h
     exact ⟨by omega,by omega,chkN_all _ _ _ h⟩
theorem names_all {l:List ByteArray} (h:za2 nmE [] l=0):∀ s∈l,za3 s=true:=fun s hs=>by
 obtain ⟨i,hi⟩:=List.getElem?_of_mem hs
 exact (nmE_name (zg7 l [] h i s hi)).1
theorem pplE_name {pre:List Sw} {x:Sw} (h:zio pre x=0):zcu (pre.map (·.1)) x.1=false:=by
 have:=ze2 h
 have:=zd9 (by decide) (this _ (List.mem_cons_of_mem _ (List.mem_cons_self ..)))
 simpa using this
theorem hasT_of_mem {l:List ByteArray} {s:ByteArray} (h:s∈l):zcu l s=true:=by
 unfold zcu
 exact List.any_eq_true.2 ⟨s,h,by simp⟩
theorem ppl_lt {l:List Sw} (h:za2 zio [] l=0) {i j:Nat} {x y:Sw} (hi:l[i]?=some x) (hj:l[j]?=some y) (e:x.1=y.1):¬ i<j:=fun hlt=>by
 have h1:=pplE_name (zg7 l [] h j y hj)
 rw [List.nil_append,hasT_of_mem] at h1
 · exact absurd h1 (by decide)
 · rw [← e]
   refine List.mem_map.2 ⟨x,?_,rfl⟩
   exact List.mem_of_getElem? (by rw [List.getElem?_take,if_pos hlt];exact hi)
theorem ifz {E n a b:Int} {r:Int × Int × Int} (hn:n≠0) (h:(if E≠0 then (n,a,b) else r)=(0,0,0)):E=0∧r=(0,0,0):=by
 by_cases h0:E=0
 · rw [if_neg (by simpa using h0)] at h
   exact ⟨h0,h⟩
 · rw [if_pos h0] at h
   exact absurd (congrArg (·.1) h) hn
theorem houseR {h:HouseV} (e:zcg h=(0,0,0)):HouseR h:=by
 unfold zcg at e
 obtain ⟨h1,e⟩:=ifz (by decide) e
 obtain ⟨_,e⟩:=ifz (by decide) e
 obtain ⟨_,e⟩:=ifz (by decide) e
 obtain ⟨_,e⟩:=ifz (by decide) e
 obtain ⟨_,e⟩:=ifz (by decide) e
 obtain ⟨_,e⟩:=ifz (by decide) e
 obtain ⟨h7,e⟩:=ifz (by decide) e
 obtain ⟨h8,e⟩:=ifz (by decide) e
 have h9:zag (h.people.any fun p=>decide (p.2=3)) 12=0:=congrArg (·.2.2) e
 obtain ⟨m1,m2,m3⟩:=listE_ok h7
 obtain ⟨_,_,p3⟩:=listE_ok h8
 have hp:=h1
 unfold zb7 at hp
 by_cases h10:zbr h.plant.secs.length h.plant.trains.length h.plant.sws.length h.plant.rts.length=0
 · rw [if_pos h10] at hp
   have ht:=ze2 hp _ (List.mem_cons_of_mem _ (List.mem_cons_self ..))
   refine ⟨h1,ht,m3,names_all ht,(zgd h10).2.1,names_all m3,⟨m1,m2⟩,fun i j x y hi hj e=>?_,?_⟩
   · have a:=ppl_lt p3 hi hj e
     have b:=ppl_lt p3 hj hi e.symm
     omega
   · obtain ⟨p,hp,hq⟩:=List.any_eq_true.1 (zd9 (by decide) h9)
     exact ⟨p,hp,by simpa using hq⟩
 · rw [if_neg h10] at hp
   exact absurd hp h10
def tx3 (wd:List UInt8) (a b:ByteArray):ByteArray:=ba (wd++32 :: (a.data.toList++32 :: b.data.toList))
def tx2 (wd:List UInt8) (a:ByteArray):ByteArray:=ba (wd++32 :: a.data.toList)
theorem tx3_spl {wd:List UInt8} {a b:ByteArray} (hw:∀ c∈wd,c≠32) (ha:za3 a=true) (hb:za3 b=true):zli (tx3 wd a b)=[ba wd,a,b]:=by
 unfold zli tx3
 rw [zft,spl_cut _ _ hw,spl_cut _ _ (spl_nm ha),spl_word _ (spl_nm hb)]
 simp [ba_of]
theorem tx2_spl {wd:List UInt8} {a:ByteArray} (hw:∀ c∈wd,c≠32) (ha:za3 a=true):zli (tx2 wd a)=[ba wd,a]:=by
 unfold zli tx2
 rw [zft,spl_cut _ _ hw,spl_word _ (spl_nm ha)]
 simp [ba_of]
theorem tx3_odd {wd:List UInt8} {a b:ByteArray} (hw:prB wd) (ha:za3 a=true) (hb:za3 b=true):oddB (tx3 wd a b)=false:=by
 refine oddB_pr _ ?_
 unfold tx3
 rw [zft]
 exact zhj hw fun c hc=>(List.mem_cons.1 hc).elim (fun e=>by subst e;decide) (zhj (prB_nm ha) (fun c hc=>(List.mem_cons.1 hc).elim (fun e=>by subst e;decide) (prB_nm hb c)) c)
theorem tx2_odd {wd:List UInt8} {a:ByteArray} (hw:prB wd) (ha:za3 a=true):oddB (tx2 wd a)=false:=by
 refine oddB_pr _ ?_
 unfold tx2
 rw [zft]
 exact zhj hw fun c hc=>(List.mem_cons.1 hc).elim (fun e=>by subst e;decide) (prB_nm ha c)
theorem zlb {wd:List UInt8} {a b:ByteArray} (hw:wd.length≤4) (ha:za3 a=true) (hb:za3 b=true):(tx3 wd a b).size≤30:=by
 have:=(zc7 ha).2.2
 have:=(zc7 hb).2.2
 unfold tx3
 rw [zcw]
 simp only [List.length_append,List.length_cons,← Lib.size_eq]
 omega
theorem tx2_size {wd:List UInt8} {a:ByteArray} (hw:wd.length≤4) (ha:za3 a=true):(tx2 wd a).size≤30:=by
 have:=(zc7 ha).2.2
 unfold tx2
 rw [zcw]
 simp only [List.length_append,List.length_cons,← Lib.size_eq]
 omega
open Go.RowKit
theorem FeedAt.belowB {w w':World} {B:Nat} {p:NetV} (h:FeedAt w B p) (hb:Below B w w'):FeedAt w' B p:=
 ⟨h.sts.below hb,h.fss.below hb,h.tns.below hb,fun r hr=>(h.tn r hr).below hb⟩
def zec (As Af At:Option Addr) (ns cs nf cf nt ct:Nat):Value:=.agg #[.slice As ns cs,.slice Af nf cf,.slice At nt ct]
theorem zgb (As Af At:Option Addr) (ns cs nf cf nt ct:Nat) (i:Int) (b:Bool) (hb:zaj i 0 ((ns:Int) - 1)=b) (w:World) (hn:ns≤1000) :
 Calls Tryz.prog 186 #[zec As Af At ns cs nf cf nt ct,.int .i64 i] w fun e w'=>e=.returned (.bool b)∧Below w.heap.size w w':=by
 unfold zec
 obtain ⟨c0,c1,c2⟩:_∧_∧_:=zba (W:=(w.alloc (.cells #[.slice As ns cs,.slice Af nf cf,.slice At nt ct] 31))) (by rw [zae,if_pos rfl])
 have hb0:=hB1 w (.cells #[.slice As ns cs,.slice Af nf cf,.slice At nt ct] 31)
 have HB:=Lib.hid hb0
 have WI:=fun W=>za1 i 0 ((ns:Int) - 1) b hb W
 clear hb0 hb
 go_enter Tryz.func186,Tryz.ntmps186
 go_upto_region 1 with (fail)
 generalize (w.alloc (.cells #[.slice As ns cs,.slice Af nf cf,.slice At nt ct] 31))=w0 at *
 go_wp2_with (go_at_call 9;refine (WI _).mono ?_;rintro e w' ⟨rfl,rfl⟩)
 go_ret
 exact ⟨rfl,HB.out⟩
theorem zj5 (As Af At:Option Addr) (ns cs nf cf nt ct:Nat) (i:Int) (b:Bool) (hb:zaj i 0 ((nf:Int) - 1)=b) (w:World) (hn:nf≤1000) :
 Calls Tryz.prog 187 #[zec As Af At ns cs nf cf nt ct,.int .i64 i] w fun e w'=>e=.returned (.bool b)∧Below w.heap.size w w':=by
 unfold zec
 obtain ⟨c0,c1,c2⟩:_∧_∧_:=zba (W:=(w.alloc (.cells #[.slice As ns cs,.slice Af nf cf,.slice At nt ct] 31))) (by rw [zae,if_pos rfl])
 have hb0:=hB1 w (.cells #[.slice As ns cs,.slice Af nf cf,.slice At nt ct] 31)
 have HB:=Lib.hid hb0
 have WI:=fun W=>za1 i 0 ((nf:Int) - 1) b hb W
 clear hb0 hb
 go_enter Tryz.func187,Tryz.ntmps187
 go_upto_region 1 with (fail)
 generalize (w.alloc (.cells #[.slice As ns cs,.slice Af nf cf,.slice At nt ct] 31))=w0 at *
 go_wp2_with (go_at_call 9;refine (WI _).mono ?_;rintro e w' ⟨rfl,rfl⟩)
 go_ret
 exact ⟨rfl,HB.out⟩
theorem zkt {α:Type} (p:α→Bool):∀ (l:List α) (j k:Nat) (x:α),l[k]?=some x→p x=true→decide (za4 p l j<((j+k:Nat):Int))=(l.take k).any p
 | [],_,_,_,h,_=>by simp at h
 | a :: l,j,0,x,h,hp=>by
  obtain rfl:a=x:=by simpa using h
  simp [za4,hp]
 | a :: l,j,k+1,x,h,hp=>by
  have h':l[k]?=some x:=by simpa using h
  rw [za4,List.take_succ_cons,List.any_cons]
  cases ha:p a with
  | true=>simp;omega
  | false =>
   have e:j+(k+1)=j+1+k:=by omega
   rw [e]
   simpa using zkt p l (j+1) k x h' hp
theorem refTrain_any (As Af At:Option Addr) (ns cs nf cf nt ct B:Nat) (l:List TnV) (s:ByteArray) (ix:Int) (hx:za4 (fun a:TnV=>a.nm.toList == s.toList) l 0=ix) (w:World) (hn:nt≤1000) (hl:l.length=nt) (h:Rd w B At (zeu l)) (hB:B≤w.heap.size) :
 Calls Tryz.prog 111 #[zec As Af At ns cs nf cf nt ct,.string s] w fun e w'=>e=.returned (.int .i64 ix)∧Below w.heap.size w w':=by
 unfold zec
 obtain ⟨c0,c1,c2⟩:_∧_∧_:=zba (W:=(w.alloc (.cells #[.slice As ns cs,.slice Af nf cf,.slice At nt ct] 31))) (by rw [zae,if_pos rfl])
 have hb0:=hB1 w (.cells #[.slice As ns cs,.slice Af nf cf,.slice At nt ct] 31)
 replace h:=h.below (hb0.mono hB)
 have HB:=Lib.hid hb0
 have HL:=Lib.hid hl
 have HX:=Lib.hid hx
 clear hb0 hl hx
 go_enter Tryz.func111,Tryz.ntmps111
 go_upto_region 1 with (fail)
 generalize (w.alloc (.cells #[.slice As ns cs,.slice Af nf cf,.slice At nt ct] 31))=w0 at *
 go_wp2
 go_loop [5] (fun i=>∃ k:Nat,k≤nt∧i=.int .i64 k∧za4 (fun a:TnV=>a.nm.toList == s.toList) (l.drop k) k=ix) (fun i=>nt - (intOf i).toNat)
 case atStart=>exact ⟨0,Nat.zero_le _,rfl,HX.out⟩
 case round =>
  clear HX
  obtain ⟨k,hk,rfl,he⟩:=hrel
  have HE:=Lib.hid he;clear he
  by_cases hlt:k<nt
  · have hkl:k<l.length:=by rw [HL.out];exact hlt
    obtain ⟨ev,hev⟩:∃ ev,l[k]?=some ev:=⟨_,List.getElem?_eq_getElem hkl⟩
    obtain ⟨bb,off,rfl,hbB,z0,z1,z2,z3⟩:=Rd.tn h hev
    have HS:=Lib.hid (za9 hev)
    have HG:Hid ((if (ev.nm.toList == s.toList)=true then (k:Int) else za4 (fun a:TnV=>a.nm.toList == s.toList) (l.drop (k+1)) (k+1))=ix):=by rw [Hid,← HE.out,HS.out,za4]
    clear hkl hev
    generalize ev.nm=x at *
    cases hx:(x.toList == s.toList) with
    | true =>
     have HX:Hid ((k:Int)=ix):=by rw [Hid,← HG.out,if_pos hx]
     go_wp2
     go_ret
     exact ⟨by rw [← HX.out];rfl,HB.out⟩
    | false =>
     have HX:Hid (za4 (fun a:TnV=>a.nm.toList == s.toList) (l.drop (k+1)) (k+1)=ix):=by rw [Hid,← HG.out,if_neg (by rw [hx];decide)]
     go_wp2
     go_round
     case rel=>exact ⟨k+1,by omega,by go_num,HX.out⟩
     case measure=>simp [intOf];omega
  · have HX:Hid (-1=ix):=by
     rw [Hid,← HE.out,List.drop_eq_nil_iff.2 (by rw [HL.out];omega)]
     rfl
    go_wp2
    go_ret
    exact ⟨by rw [← HX.out];rfl,HB.out⟩
theorem refFsec_any (As Af At:Option Addr) (ns cs nf cf nt ct:Nat) (w:World) (x:FsV) (hn:ns≤1000) :
 Calls Tryz.prog 110 #[zec As Af At ns cs nf cf nt ct,.agg #[.int .i64 x.left,.int .i64 x.right,.int .i64 x.share,.int .i64 x.loss]] w (zay w (fsE ns x)):=by
 obtain ⟨a,b,s,l⟩:=x
 simp only
 have k0:((w.alloc (.cells #[.slice As ns cs,.slice Af nf cf,.slice At nt ct] 31)).alloc (.cells #[.int .i64 a,.int .i64 b,.int .i64 s,.int .i64 l] 116)).heap[w.heap.size]?=some (.cells #[.slice As ns cs,.slice Af nf cf,.slice At nt ct] 31 (0,0)):=by
  rw [zae,if_neg (by simp),zae,if_pos rfl]
 have k1:((w.alloc (.cells #[.slice As ns cs,.slice Af nf cf,.slice At nt ct] 31)).alloc (.cells #[.int .i64 a,.int .i64 b,.int .i64 s,.int .i64 l] 116)).heap[w.heap.size+1]?=some (.cells #[.int .i64 a,.int .i64 b,.int .i64 s,.int .i64 l] 116 (0,0)):=by
  rw [zae,if_pos (by simp)]
 have hb0:=hB2 w (.cells #[.slice As ns cs,.slice Af nf cf,.slice At nt ct] 31) (.cells #[.int .i64 a,.int .i64 b,.int .i64 s,.int .i64 l] 116)
 have HB:=Lib.hid hb0
 have hs0:=hb0.size
 obtain ⟨qa,hqa⟩:∃ q,zaj a 0 ((ns:Int) - 1)=q:=⟨_,rfl⟩
 obtain ⟨qb,hqb⟩:∃ q,zaj b 0 ((ns:Int) - 1)=q:=⟨_,rfl⟩
 obtain ⟨qs,hqs⟩:∃ q,zaj s 0 1000=q:=⟨_,rfl⟩
 obtain ⟨ql,hql⟩:∃ q,zaj l 0 500=q:=⟨_,rfl⟩
 have HQ:Hid (zaj a 0 ((ns:Int) - 1)=qa∧zaj b 0 ((ns:Int) - 1)=qb∧zaj s 0 1000=qs∧zaj l 0 500=ql):=⟨hqa,hqb,hqs,hql⟩
 have WS:=fun W=>za1 s 0 1000 qs hqs W
 have WL:=fun W=>za1 l 0 500 ql hql W
 have EA:=fun W=>zgb As Af At ns cs nf cf nt ct a qa hqa W hn
 have EB:=fun W=>zgb As Af At ns cs nf cf nt ct b qb hqb W hn
 unfold zec at EA EB ⊢
 clear hqa hqb hqs hql hb0
 have WALK:∀ (pa pb:Bool),(a == -1)=pa→(b == -1)=pb→Calls Tryz.prog 110 #[.agg #[.slice As ns cs,.slice Af nf cf,.slice At nt ct],.agg #[.int .i64 a,.int .i64 b,.int .i64 s,.int .i64 l]] w (zay w (zam [zag ((pa || qa) && (pb || qb)) 6,zag (!pa || !pb) 23,zag (a != b) 26,zag (qs && ql) 2,zag (if pb=true then (s == 1000) else if pa=true then (s == 0) else true) 3])):=by
  intro pa pb ha hb
  clear HQ
  cases pa <;> cases pb <;> cases qa <;> cases qb
  all_goals
   first
    | (have ha2:(a != -1)=true:=by simpa using ha)
    | (have ha2:(a != -1)=false:=by simpa using ha)
   first
    | (have hb2:(b != -1)=true:=by simpa using hb)
    | (have hb2:(b != -1)=false:=by simpa using hb)
   have HA:=Lib.hid ha
   have HBB:=Lib.hid hb
   clear ha hb
   go_enter Tryz.func110,Tryz.ntmps110
   go_upto_region 1 with (fail)
   generalize ((w.alloc (.cells #[.slice As ns cs,.slice Af nf cf,.slice At nt ct] 31)).alloc (.cells #[.int .i64 a,.int .i64 b,.int .i64 s,.int .i64 l] 116))=w0 at *
   generalize hbw:w.heap.size=bw at *
   have HBW:=Lib.hid hbw
   clear hbw
   obtain ⟨c0,c1,c2⟩:_∧_∧_:=zba k0
   obtain ⟨d0,d1,d2,d3⟩:_∧_∧_∧_:=zbo k1
   have x0:=fun y:Xt w0=>y.cell d0
   have x1:=fun y:Xt w0=>y.cell d1
   refine za5 (by kernel_rfl) (by kernel_rfl) ?_
   repeat (go_big_quiet_step (fail))
   refine wpQuiet_nil ?_
   intro w1 hx
   have hb1:=Xt.below hx
   have HB1:=Lib.hid (HB.out.trans (hb1.mono (by omega)))
   have hs1:=Nat.le_trans hs0 hb1.size
   replace c0:=zat hb1 c0
   replace c1:=zat hb1 c1
   replace c2:=zat hb1 c2
   replace d0:=zat hb1 d0
   replace d1:=zat hb1 d1
   replace d2:=zat hb1 d2
   replace d3:=zat hb1 d3
   clear hx hb1 x0 x1 k0 k1
   cases hab:(a == b)
   all_goals
    cases qs <;> cases ql
    all_goals
     go_upto_region 10 with (first | (go_at_call_of 186 (Value.int .i64 a);refine (EA _).mono ?_;rintro e wx ⟨rfl,hbx⟩;replace c0:=zat hbx c0;replace c1:=zat hbx c1;replace c2:=zat hbx c2;replace d0:=zat hbx d0;replace d1:=zat hbx d1;replace d2:=zat hbx d2;replace d3:=zat hbx d3;replace HB1:=Lib.hid (HB1.out.trans (hbx.mono hs1));replace hs1:=Nat.le_trans hs1 hbx.size;clear hbx) | (go_at_call_of 186 (Value.int .i64 b);refine (EB _).mono ?_;rintro e wx ⟨rfl,hbx⟩;replace c0:=zat hbx c0;replace c1:=zat hbx c1;replace c2:=zat hbx c2;replace d0:=zat hbx d0;replace d1:=zat hbx d1;replace d2:=zat hbx d2;replace d3:=zat hbx d3;replace HB1:=Lib.hid (HB1.out.trans (hbx.mono hs1));replace hs1:=Nat.le_trans hs1 hbx.size;clear hbx) | (go_at_call_of 9 (Value.int .i64 s);refine (WS _).mono ?_;rintro e w' ⟨rfl,rfl⟩) | (go_at_call_of 9 (Value.int .i64 l);refine (WL _).mono ?_;rintro e w' ⟨rfl,rfl⟩))
     all_goals
      first
       | (go_ret;exact ⟨by have e1:=HA.out;have e2:=HBB.out;clear c0 c1 c2 d0 d1 d2 d3;simp [zam,zag,bne, *],by rw [HBW.out];exact HB1.out⟩)
       | (cases hs1:(s == 0) <;> cases hs2:(s == 1000)
          all_goals
           have g1:(s != 0)=!(s == 0):=rfl
           have g2:(s != 1000)=!(s == 1000):=rfl
           rw [hs1] at g1
           rw [hs2] at g2
           go_wp2
           go_ret
           exact ⟨by have e1:=HA.out;have e2:=HBB.out;clear c0 c1 c2 d0 d1 d2 d3;simp [zam,zag,bne, *],by rw [HBW.out];exact HB1.out⟩)
 have h:=WALK _ _ rfl rfl
 have HV:fsE ns ⟨a,b,s,l⟩=zam [zag (zg3 ns a && zg3 ns b) 6,zag (decide (a≠-1) || decide (b≠-1)) 23,zag (decide (a≠b)) 26,zag (zaj s 0 1000 && zaj l 0 500) 2,zag (zjl ⟨a,b,s,l⟩) 3]:=rfl
 rw [HV,zg3,zg3,HQ.out.1,HQ.out.2.1,HQ.out.2.2.1,HQ.out.2.2.2]
 have e1:zjl ⟨a,b,s,l⟩=if (b == -1)=true then (s == 1000) else if (a == -1)=true then (s == 0) else true:=by
  have g1:(s == 1000)=decide (s=1000):=by by_cases h:s=1000 <;> simp [h]
  have g2:(s == 0)=decide (s=0):=by by_cases h:s=0 <;> simp [h]
  rw [g1,g2]
  unfold zjl
  simp
 have e2:decide (a≠-1)=!(a == -1):=by by_cases h:a=-1 <;> simp [h]
 have e3:decide (b≠-1)=!(b == -1):=by by_cases h:b=-1 <;> simp [h]
 have e4:decide (a≠b)=(a != b):=by by_cases h:a=b <;> simp [h]
 have e5:decide (a=-1)=(a == -1):=by by_cases h:a=-1 <;> simp [h]
 have e6:decide (b=-1)=(b == -1):=by by_cases h:b=-1 <;> simp [h]
 rw [e1,e2,e3,e4,e5,e6]
 exact h
theorem zls (As Af At:Option Addr) (ns cs nf cf nt ct:Nat) (w:World) (B:Nat) (x:TnV) (hn:nf≤1000) (h:zcs w B x.s x.steps.length (zc4 x.steps)) (hB:B≤w.heap.size) (hz:x.steps.length≤1000) :
 Calls Tryz.prog 112 #[zec As Af At ns cs nf cf nt ct,.agg (zki x).toArray] w (zay w (trE nf x)):=by
 obtain ⟨s,a,b,⟨A,n,c⟩,l⟩:=x
 obtain ⟨hl,hr⟩:=h
 simp only at hl hr hz
 rw [hl] at hz
 show Calls Tryz.prog 112 #[zec As Af At ns cs nf cf nt ct,.agg #[.string s,.int .i64 a,.int .i64 b,.slice A n c]] w _
 have k0:((w.alloc (.cells #[.slice As ns cs,.slice Af nf cf,.slice At nt ct] 31)).alloc (.cells #[.string s,.int .i64 a,.int .i64 b,.slice A n c] 83)).heap[w.heap.size]?=some (.cells #[.slice As ns cs,.slice Af nf cf,.slice At nt ct] 31 (0,0)):=by
  rw [zae,if_neg (by simp),zae,if_pos rfl]
 have k1:((w.alloc (.cells #[.slice As ns cs,.slice Af nf cf,.slice At nt ct] 31)).alloc (.cells #[.string s,.int .i64 a,.int .i64 b,.slice A n c] 83)).heap[w.heap.size+1]?=some (.cells #[.string s,.int .i64 a,.int .i64 b,.slice A n c] 83 (0,0)):=by
  rw [zae,if_pos (by simp)]
 have hb0:=hB2 w (.cells #[.slice As ns cs,.slice Af nf cf,.slice At nt ct] 31) (.cells #[.string s,.int .i64 a,.int .i64 b,.slice A n c] 83)
 have HB:=Lib.hid hb0
 have HR:=Lib.hid (hr.below (hb0.mono hB))
 have HL:=Lib.hid hl
 have hs0:=hb0.size
 obtain ⟨q1,hq1⟩:∃ q,zaj a 0 1000=q:=⟨_,rfl⟩
 obtain ⟨q2,hq2⟩:∃ q,zaj b 0 1000=q:=⟨_,rfl⟩
 obtain ⟨V,hV⟩:∃ V,trE nf ⟨s,a,b,⟨A,n,c⟩,l⟩=V:=⟨_,rfl⟩
 obtain ⟨V2,hV2⟩:∃ V,za2 (fun _ x=>spE nf x) [] l=V:=⟨_,rfl⟩
 rw [hV]
 have HV:Hid (V=if zam [zag (q1 && q2) 2,zag (decide (a≤b)) 9,zag (decide (0<(n:Int))) 10,zag (decide ((n:Int)≤12)) 8]=0 then V2 else zam [zag (q1 && q2) 2,zag (decide (a≤b)) 9,zag (decide (0<(n:Int))) 10,zag (decide ((n:Int)≤12)) 8]):=by
  rw [Hid,← hV,trE]
  simp only [hl,hq1,hq2,hV2]
 have HV2:=Lib.hid hV2
 have W1:=fun W=>za1 a 0 1000 q1 hq1 W
 have W2:=fun W=>za1 b 0 1000 q2 hq2 W
 unfold zec
 clear hl hr hb0 hq1 hq2 hV hV2
 go_enter Tryz.func112,Tryz.ntmps112
 go_upto_region 1 with (fail)
 generalize ((w.alloc (.cells #[.slice As ns cs,.slice Af nf cf,.slice At nt ct] 31)).alloc (.cells #[.string s,.int .i64 a,.int .i64 b,.slice A n c] 83))=w0 at *
 generalize hbw:w.heap.size=bw at *
 have HBW:=Lib.hid hbw
 clear hbw
 obtain ⟨c0,c1,c2⟩:_∧_∧_:=zba k0
 obtain ⟨d0,d1,d2,d3⟩:_∧_∧_∧_:=zbo k1
 clear k0 k1
 cases q1 with
 | false =>
  have HN:Hid (V=2):=by rw [Hid,HV.out];rfl
  go_wp2_with (first | (go_at_call_of 9 (Value.int .i64 a);refine (W1 _).mono ?_;rintro e w' ⟨rfl,rfl⟩) | (go_at_call_of 9 (Value.int .i64 b);refine (W2 _).mono ?_;rintro e w' ⟨rfl,rfl⟩))
  go_ret
  exact ⟨by rw [HN.out];rfl,by rw [HBW.out];exact HB.out⟩
 | true =>
 cases q2 with
 | false =>
  have HN:Hid (V=2):=by rw [Hid,HV.out];rfl
  go_wp2_with (first | (go_at_call_of 9 (Value.int .i64 a);refine (W1 _).mono ?_;rintro e w' ⟨rfl,rfl⟩) | (go_at_call_of 9 (Value.int .i64 b);refine (W2 _).mono ?_;rintro e w' ⟨rfl,rfl⟩))
  go_ret
  exact ⟨by rw [HN.out];rfl,by rw [HBW.out];exact HB.out⟩
 | true =>
 go_upto_region 3 with (first | (go_at_call_of 9 (Value.int .i64 a);refine (W1 _).mono ?_;rintro e w' ⟨rfl,rfl⟩) | (go_at_call_of 9 (Value.int .i64 b);refine (W2 _).mono ?_;rintro e w' ⟨rfl,rfl⟩))
 clear W1 W2
 by_cases hab:b<a
 · have HN:Hid (V=9):=by
    have g:¬ a≤b:=by omega
    rw [Hid,HV.out]
    simp only [g,decide_false]
    rfl
   go_wp2
   go_ret
   exact ⟨by rw [HN.out];rfl,by rw [HBW.out];exact HB.out⟩
 have HAB:Hid (decide (a≤b)=true):=by rw [Hid,decide_eq_true_eq];omega
 by_cases h0:n=0
 · have HN:Hid (V=10):=by rw [Hid,HV.out,HAB.out,h0];rfl
   subst h0
   go_wp2
   go_ret
   exact ⟨by rw [HN.out];rfl,by rw [HBW.out];exact HB.out⟩
 have g0:((n:Int) == 0)=false:=beq_eq_false_iff_ne.2 (by omega)
 by_cases h12:(12:Int)<(n:Int)
 · have HN:Hid (V=8):=by
    have g:¬ (n:Int)≤12:=by omega
    have g':0<(n:Int):=by omega
    rw [Hid,HV.out,HAB.out]
    simp only [g,g',decide_true,decide_false]
    rfl
   go_wp2
   go_ret
   exact ⟨by rw [HN.out];rfl,by rw [HBW.out];exact HB.out⟩
 have HN:Hid (V=V2):=by
  have g:(n:Int)≤12:=by omega
  have g':0<(n:Int):=by omega
  rw [Hid,HV.out,HAB.out]
  simp only [g,g',decide_true]
  rfl
 clear HV HAB
 go_wp2
 go_loopw [5] (fun u wr=>zkd w0 (fun _ x=>spE nf x) l n V2 u wr) (fun u _=>n - (intOf u).toNat)
 case atStart=>exact ⟨0,Nat.zero_le _,rfl,HV2.out,Below.refl _ _⟩
 case round =>
  clear HV2
  obtain ⟨k,hk,rfl,hgo,hb⟩:=hrel
  have HGO:=Lib.hid hgo
  have HBK:=Lib.hid hb
  have hr:=HR.out.below (hb.mono (by omega))
  have hsk:=hb.size
  replace c0:=zat hb c0
  replace c1:=zat hb c1
  replace c2:=zat hb c2
  replace d3:=zat hb d3
  clear hgo hb d0 d1 d2
  by_cases hlt:k<n
  · have hkl:k<l.length:=by rw [HL.out];exact hlt
    obtain ⟨⟨sc,pw⟩,hev⟩:∃ ev,l[k]?=some ev:=⟨_,List.getElem?_eq_getElem hkl⟩
    obtain ⟨bb,off,rfl,hbB,z0,z1⟩:=Rd.sp hr hev
    have HSV:=Lib.hid hev
    simp only at z0 z1
    obtain ⟨b1,hb1⟩:∃ b,zaj sc 0 ((nf:Int) - 1)=b:=⟨_,rfl⟩
    obtain ⟨b2,hb2⟩:∃ b,zaj pw (-20000) 20000=b:=⟨_,rfl⟩
    have HER:Hid (spE nf (sc,pw)=zam [zag b1 6,zag b2 2]):=by rw [Hid,spE,hb1,hb2]
    have SE:=fun W=>zj5 As Af At ns cs nf cf nt ct sc b1 hb1 W hn
    have W3:=fun W=>za1 pw (-20000) 20000 b2 hb2 W
    unfold zec at SE
    have x0:=fun y:Xt wr=>y.cell c0
    have x1:=fun y:Xt wr=>y.cell c1
    have x2:=fun y:Xt wr=>y.cell c2
    have x3:=fun y:Xt wr=>y.cell d3
    have x4:=fun y:Xt wr=>y.cell z0
    clear hev hkl hr hb1 hb2
    go_upto_region 12 with (fail)
    refine za5 (by kernel_rfl) (by kernel_rfl) ?_
    repeat (go_big_quiet_step (first | (go_at_call 187;exact Xt.calls (SE _))))
    refine wpQuiet_nil ?_
    intro w1 hx
    have hb5:=Xt.below hx
    have HB1:=Lib.hid (HBK.out.trans (hb5.mono hsk))
    replace d3:=zat hb5 d3
    replace z1:=zat hb5 z1
    clear hx x0 x1 x2 x3 x4 hb5 SE c0 c1 c2 z0
    cases b1 with
    | false =>
     have HN2:Hid (V2=6):=by
      have e:spE nf (sc,pw)=6:=by rw [HER.out];rfl
      have h9:=zb3 (f:=fun _ x=>spE nf x) HSV.out HGO.out (by rw [e];decide)
      rw [Hid,← h9]
      exact e
     go_wp2
     go_ret
     exact ⟨by rw [HN.out,HN2.out];rfl,by rw [HBW.out];exact HB.out.trans (HB1.out.mono (by omega))⟩
    | true =>
    cases b2 with
    | false =>
     have HN2:Hid (V2=2):=by
      have e:spE nf (sc,pw)=2:=by rw [HER.out];rfl
      have h9:=zb3 (f:=fun _ x=>spE nf x) HSV.out HGO.out (by rw [e];decide)
      rw [Hid,← h9]
      exact e
     go_wp2_with (go_at_call 9;refine (W3 _).mono ?_;rintro e w' ⟨rfl,rfl⟩)
     go_ret
     exact ⟨by rw [HN.out,HN2.out];rfl,by rw [HBW.out];exact HB.out.trans (HB1.out.mono (by omega))⟩
    | true =>
     have HN2:=Lib.hid (zc1 (f:=fun _ x=>spE nf x) HSV.out HGO.out (by rw [HER.out];rfl))
     go_wp2_with (go_at_call 9;refine (W3 _).mono ?_;rintro e w' ⟨rfl,rfl⟩)
     go_roundw
     case rel=>exact ⟨k+1,by omega,by go_num,HN2.out,HB1.out⟩
     case measure=>simp [intOf];omega
  · have HN2:Hid (V2=0):=zb9 (by rw [HL.out];omega) HGO.out
    go_wp2
    go_ret
    exact ⟨by rw [HN.out,HN2.out];rfl,by rw [HBW.out];exact HB.out.trans (HBK.out.mono (by omega))⟩
end Go.Proofs.YtoodbfkbbchjiaaGreatDoor
