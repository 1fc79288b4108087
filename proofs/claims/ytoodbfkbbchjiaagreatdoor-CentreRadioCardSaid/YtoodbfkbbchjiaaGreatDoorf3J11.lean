import Derived.Test.YtoodbfkbbchjiaaGreatDoorf3J10
import Derived.Test.YtoodbfkbbchjiaaGreatDoorf3S10
import Derived.Test.YtoodbfkbbchjiaaGreatDoorf3S8
set_option maxRecDepth 100000
set_option maxHeartbeats 16000000
namespace Go.Proofs.YtoodbfkbbchjiaaGreatDoor
open Go.RowKit
def zjr (l:List Bool):List Value:=l.map .bool
theorem bools_at {l:List Bool} {i:Nat} {b:Bool} (h:l[i]?=some b):(zjr l)[i]?=some (.bool b):=by simp [zjr,h]
theorem zi4 (h:HouseV) (by_ tr:ByteArray) (evs:List REv) (e:REv):zf8 h by_ tr (evs++[e])=zf8 h by_ tr evs++[(by_,e.tx h.masts tr)]:=by simp [zf8]
structure RW (w:World) (bw:Nat) (B:Nat) (h:HouseV) (wv:Array Value) (W:World):Prop where
 b:Below bw w W
 s:bw+2≤W.heap.size
 k0:W.heap[bw]?=some (.cells (zah h).toArray 45 (0,0))
 k1:W.heap[bw+1]?=some (.cells wv 48 (0,0))
 house:HouseAt W B h
theorem RW.nextB {w:World} {bw B:Nat} {h:HouseV} {wv:Array Value} {W W':World} (r:RW w bw B h wv W) (hb:Below (bw+2) W W') (hB:B≤bw:=by assumption):RW w bw B h wv W':=
 ⟨r.b.trans (hb.mono (by omega)),Nat.le_trans r.s hb.size,(hb.block bw (by omega)).trans r.k0,(hb.block (bw+1) (by omega)).trans r.k1,r.house.belowC (hb.mono (by omega))⟩
theorem RW.next {w:World} {bw B:Nat} {h:HouseV} {wv:Array Value} {W W':World} (r:RW w bw B h wv W) (hb:Below W.heap.size W W') (hB:B≤bw:=by assumption):RW w bw B h wv W':=r.nextB (hb.mono r.s) hB
theorem RW.mast {w:World} {bw B:Nat} {h:HouseV} {wv:Array Value} {W:World} (r:RW w bw B h wv W) {mb mo:Nat} (hA:h.ms.A=some ⟨mb,mo,none⟩) {i:Nat} {s:ByteArray} (hs:h.masts[i]?=some s):W.cell? ⟨mb,mo+i,none⟩=some (.string s):=by
 obtain ⟨b,o,e,_,z⟩:=r.house.masts.2.at_ (zej hs)
 rw [hA] at e
 cases e
 exact z
theorem RW.row {w:World} {bw B:Nat} {h:HouseV} {wv:Array Value} {W:World} (r:RW w bw B h wv W) {mb mo nm:Nat} (hA:h.ms.A=some ⟨mb,mo,none⟩) (hn:h.ms.n=nm):W.cell? ⟨bw,23,none⟩=some (.slice (some ⟨mb,mo,none⟩) nm h.ms.c):=by
 rw [← hA,← hn]
 exact (cell_of_row W bw 23 _ _ _ r.k0).trans (by rfl:_=some h.ms.v)
def ChfRel (people:List Sw) (n:Nat) (u5 u6:Value):Prop:=∃ (k:Nat) (s:ByteArray),k≤n∧u5=.string s∧u6=.int .i64 k∧zfb people k s
def WyRel (w:World) (bw B:Nat) (h:HouseV) (wv:Array Value) (by_ tr:ByteArray) (n:Nat) (u8 u9 u10:Value) (wr:World):Prop:=
 ∃ (k at_ m:Nat) (evs:List REv) (A9:Option Addr) (c9:Nat),k≤n∧u10=.int .i64 k∧u8=.int .i64 at_∧evs.length=m∧u9=.slice A9 m c9∧LogR h.masts.length evs at_∧m≤1+2 * k∧wr.ownsRow (bw+2) 58 2 (.slice A9 m c9) m (zbe (zf8 h by_ tr evs))∧RW w bw B h wv wr
theorem lt_of_blk {w:World} {k:Nat} {b:Obj} (h:w.heap[k]?=some b):k<w.heap.size:=(Array.getElem?_eq_some_iff.1 h).1
theorem ze9 {P:Program} {ops:Array Oper} {C:World→Prop} {rest:List Oper} {o:Oper} {a:Go.Act} {Q:Go.Act→Prop} (hgd:o.guard=none) (ty:TypeId) (x:Operand) (ho:o.op=.load ty x)
 (g:Nat) (hx:a.eval x=.pointer (some ⟨g,0,none⟩)) (t:TypeId) (cs:Array Value) (fr:Nat × Nat) (d:TypeDesc) (hg:∀ w,C w→w.heap[g]?=some (.cells cs t fr))
 (hu:P.underlying ty=some d) (hd:(match d with | .struct _ | .array _ _=>true | _=>false)=true) (hi:(P.info? ty).map (·.size)=some cs.size)
 (h:wpQuiet P ops C Q rest (a.put o.dst (.agg cs))):wpQuiet P ops C Q (o :: rest) a:=
 wpQuiet_step fun K hK=>by
  rw [if_pos (by simp [Region.wanted,hgd])]
  refine ⟨_,fun w hw=>?_,hK _ h⟩
  unfold Oper.quietAt execOp
  simp only [ho,hx,Instr.loadAt,Instr.sureAddr,Sem.run_bind,Sem.run_pure,Result.andThen_ok,run_loadVar_row w g t ty cs fr d (hg w hw) hu hd hi]
  exact ⟨rfl,rfl⟩
section
variable {P:Program} {ops:Array Oper} {md:Region.Mode} {S:World→Prop} {ts:List Nat} {Q:Exit→Go.Act→World→Prop}
def readKind5 (o:Oper):Bool:=
 match o.op with
 | .build ..=>true
 | _=>zi2 o
theorem wpIf_of_quiet5 {K:Go.Act→Prop}:∀ (l:List Oper) (a:Go.Act),l.all readKind5=true→wpQuiet P ops S K l a→wpIf P ops S K l a
 | [],_,_,h=>h
 | o :: rest,a,hk,h=>by
  simp only [List.all_cons,Bool.and_eq_true] at hk
  by_cases hr:zi2 o=true
  · have h1:wpQuiet P ops S (fun a'=>wpIf P ops S K rest a') [o] a:=by
     unfold wpQuiet at h ⊢
     split
     · rename_i hw
       rw [if_pos hw] at h
       obtain ⟨v,h1,h2⟩:=h
       exact ⟨v,h1,by unfold wpQuiet;exact wpIf_of_quiet5 rest _ hk.2 h2⟩
     · rename_i hw
       rw [if_neg hw] at h
       unfold wpQuiet
       exact wpIf_of_quiet5 rest _ hk.2 h
    exact zcx [o] a (by simp [hr]) h1
  · have hk1:=hk.1
    unfold wpQuiet at h
    by_cases hw:Region.wanted o (yielded ops a.tmps)=true
    · rw [if_pos hw] at h
      obtain ⟨v,h1,h2⟩:=h
      refine ⟨v,.inl ⟨hw,fun w hS=>?_⟩,wpIf_of_quiet5 rest _ hk.2 h2⟩
      have h3:=h1 w hS
      unfold Oper.quietAt at h3
      have hno:(∀ w',(execOp a.eval o).run P w≠.ok .skip w')∧∀ f args w',(execOp a.eval o).run P w≠.ok (.enter f args) w':=by
       unfold readKind5 at hk1
       obtain ⟨dst,op,type,pos,after,guard⟩:=o
       cases op
       case build=>exact ⟨fun _ h=>zem h,fun _ _ _ h=>zd7 h⟩
       all_goals exact absurd hk1 hr
      generalize hr:(execOp a.eval o).run P w=r at h3 hno
      cases r with
      | ok n w' =>
       cases n <;> simp only [Oper.quietUpon] at h3
       case value u=>obtain ⟨e1,e2⟩:=h3;rw [e1,e2]
       case skip=>exact (hno.1 w' rfl).elim
       case enter f args=>exact (hno.2 f args w' rfl).elim
      | halt x w'=>simp only [Oper.quietUpon] at h3
    · rw [if_neg hw] at h
      exact ⟨undef,.inr ⟨by simpa using hw,rfl⟩,wpIf_of_quiet5 rest _ hk.2 h⟩
theorem wpE_reads5 {m:Nat} {listed:Array Bool} {a:Go.Act} {w:World} (is:List Nat) (g:Nat) (hn:m=is.length+g)
 (hB:(Region.noSelect ops && zeq md ops is listed && (ts.all fun t=>zen md ops t is) && (zb5 ops is).all readKind5)=true)
 (h:wpQuiet P ops S (fun a'=>wpE P md ops Q S ts g (zbw is listed) a' w) (zb5 ops is) a):wpE P md ops Q S ts m listed a w:=by
 intro inv hS
 simp only [Bool.and_eq_true] at hB
 obtain ⟨⟨⟨hsel,h1⟩,h2⟩,h4⟩:=hB
 rw [hn]
 refine zfd hsel hS is _ a inv h1 (fun t ht i hi=>?_) (fun a' ha'=>ha' (zdf is _ inv h1) hS) (wpIf_of_quiet5 _ _ h4 h)
 have h6:=List.all_eq_true.1 h2 t (by simpa using ht)
 simp only [zen,List.all_eq_true] at h6 ⊢
 intro j hj
 have:j=i:=by simpa using hj
 subst this
 exact h6 j hi
end
theorem wpList_load_row_g {P:Program} {ops:Array Oper} {rest:List Oper} {o:Oper} {a:Go.Act} {w:World} {Q:Exit→Go.Act→World→Prop} (hw:Region.wanted o (yielded ops a.tmps)=true) (ty:TypeId) (x:Operand) (ho:o.op=.load ty x)
 (g:Nat) (hx:a.eval x=.pointer (some ⟨g,0,none⟩)) (t:TypeId) (cs:Array Value) (fr:Nat × Nat) (d:TypeDesc) (hg:w.heap[g]?=some (.cells cs t fr))
 (hu:P.underlying ty=some d) (hd:(match d with | .struct _ | .array _ _=>true | _=>false)=true) (hi:(P.info? ty).map (·.size)=some cs.size)
 (h:wpList P ops Q rest (a.put o.dst (.agg cs)) w):wpList P ops Q (o :: rest) a w:=
 wpList_step fun K hK=>by
  rw [if_pos hw]
  exact wp_load_row ty x ho g hx t cs fr d hg hu hd hi (hK _ _ h)
theorem radio_law (w:World) (B:Nat) (h:HouseV) (H:HouseAt w B h) (hW:HouseW h) (xt xf:Int) (A:Option Addr) (n c:Nat) (ways:List Bool) (hwl:ways.length=n) (hx:Rd w B A (zjr ways)) (hB:B≤w.heap.size) (hT:CtAt w)
 (AWK:∀ W:World,Below w.heap.size w W→Calls Tryz.prog 4 #[] W fun e w'=>e=.returned (.bool true)∧Below W.heap.size W w')
 (HER:∀ W:World,HouseAt W B h→HouseS h→(∀ s∈h.evs,s.size≤20)→B≤W.heap.size→Calls Tryz.prog 6 #[.agg (zah h).toArray] W (zay W (zcg h).2.2)) :
 Calls Tryz.prog 3 #[.agg (zah h).toArray,.agg #[.int .i64 xt,.int .i64 xf,.slice A n c]] w fun e w'=>e=.returned (.bool true)∧Below w.heap.size w w':=by
 have hb0:=hB2 w (.cells (zah h).toArray 45) (.cells #[.int .i64 xt,.int .i64 xf,.slice A n c] 48)
 have k0:=hA2a w (.cells (zah h).toArray 45) (.cells #[.int .i64 xt,.int .i64 xf,.slice A n c] 48)
 have k1:=hA2b w (.cells (zah h).toArray 45) (.cells #[.int .i64 xt,.int .i64 xf,.slice A n c] 48)
 have hs0:=hS2 w (.cells (zah h).toArray 45) (.cells #[.int .i64 xt,.int .i64 xf,.slice A n c] 48)
 have R0:=Lib.hid (show RW w w.heap.size B h #[.int .i64 xt,.int .i64 xf,.slice A n c] ((w.alloc (.cells (zah h).toArray 45)).alloc (.cells #[.int .i64 xt,.int .i64 xf,.slice A n c] 48)) from ⟨hb0,hs0,k0,k1,H.keep hb0⟩)
 replace HER:=Lib.hid HER
 have HT:=Lib.hid hT
 have HW:=Lib.hid hW
 have HX:=Lib.hid (And.intro hwl hx)
 have AW0:=AWK _ hb0
 clear hb0 k0 k1 hs0 H hW hwl hx hT AWK
 go_enter Tryz.func3,Tryz.ntmps3
 go_upto_region 1 with (fail)
 generalize ((w.alloc (.cells (zah h).toArray 45)).alloc (.cells #[.int .i64 xt,.int .i64 xf,.slice A n c] 48))=w0 at *
 generalize hbw:w.heap.size=bw at *
 have HBW:=Lib.hid hbw
 clear hbw
 go_upto_region 3 with (go_at_call 4;refine AW0.mono ?_;rintro e w1 ⟨rfl,hb⟩)
 have R1:=R0.out.next hb
 clear AW0 hb R0
 have FWC:=few_any w1 B h R1.house HW.out (Nat.le_trans hB (by have:=R1.s;omega))
 go_wp2_with (with_reducible refine zaw 45 ?_)
 unfold Stp
 refine wpList_load_row rfl 45 _ rfl bw rfl 45 _ (0,0) _ R1.k0 Tryz.underlying45 rfl (by kernel_rfl) ?_
 go_wp2_with (go_at_call 5;refine FWC.mono ?_;rintro e w2 ⟨b,rfl,hS,hb⟩;refine stp ?_)
 unfold Stp
 cases b
 · go_wp2
   go_ret
   exact ⟨rfl,by rw [HBW.out];exact (R1.next hb).b⟩
 obtain ⟨hS1,hz⟩:=hS rfl
 have R2:=R1.next hb
 have HEC:=HER.out w2 R2.house hS1 hz (Nat.le_trans hB (by have:=R2.s;omega))
 have HS:=Lib.hid hS1
 obtain ⟨E,hE⟩:∃ E,(zcg h).2.2=E:=⟨_,rfl⟩
 rw [hE] at HEC
 have HE:=Lib.hid hE
 unfold zay at HEC
 clear FWC hS hS1 hz R1 hb hE HER
 go_wp2_with (with_reducible refine zaw 45 ?_)
 unfold Stp
 refine wpList_load_row_g (by rfl) 45 _ rfl bw rfl 45 _ (0,0) _ R2.k0 Tryz.underlying45 rfl (by kernel_rfl) ?_
 by_cases hE0:E=0
 rotate_left
 · have hE1:(E != 0)=true:=by simpa using hE0
   go_wp2_with (go_at_call 6;refine HEC.mono ?_;rintro e w3 ⟨rfl,hb⟩)
   go_ret
   exact ⟨rfl,by rw [HBW.out];exact (R2.next hb).b⟩
 subst hE0
 by_cases hn12:12<n
 · have hq9:(12:Int)<(n:Int):=by omega
   have d2:=fun (W:World) (r:RW w bw B h #[.int .i64 xt,.int .i64 xf,.slice A n c] W)=>(cell_of_row W (bw+1) 2 _ _ _ r.k1).trans (by rfl:_=some (.slice A n c))
   go_wp2_with (go_at_call 6;refine HEC.mono ?_;rintro e w3 ⟨rfl,hb⟩;have R3:=R2.next hb;have d3:=d2 _ R3)
   go_ret
   exact ⟨rfl,by rw [HBW.out];exact R3.b⟩
 have hq9:¬ (12:Int)<(n:Int):=by omega
 have d2:=fun (W:World) (r:RW w bw B h #[.int .i64 xt,.int .i64 xf,.slice A n c] W)=>(cell_of_row W (bw+1) 2 _ _ _ r.k1).trans (by rfl:_=some (.slice A n c))
 go_upto_region 5 with (go_at_call 6;refine HEC.mono ?_;rintro e w3 ⟨rfl,hb⟩;have R3:=R2.next hb;have d3:=d2 _ R3)
 clear HEC R2 hb d2 d3 hq9
 have hR:=houseR (zd5 HE.out)
 have HR:=Lib.hid hR
 obtain ⟨np,hnp⟩:∃ np,h.pp.n=np:=⟨_,rfl⟩
 have hpl:h.people.length=np:=by rw [R3.house.people.1];exact hnp
 have hp1000:np≤1000:=by rw [← hpl];exact HS.out.people.1
 have d24:=(cell_of_row w3 bw 24 _ _ _ R3.k0).trans (by rfl:_=some h.pp.v)
 simp only [SlV.v,hnp] at d24
 have HPL:=Lib.hid hpl
 have R3H:=Lib.hid R3
 clear hR hpl R3 hnp
 go_upto_region 7 with (fail)
 go_loop [5,6] (fun u5 u6=>ChfRel h.people np u5 u6) (fun _ u6=>np - (intOf u6).toNat)
 case atStart=>exact ⟨0,⟨#[]⟩,Nat.zero_le _,rfl,rfl,zfb.start _⟩
 case round =>
  obtain ⟨k,s,hk,rfl,rfl,hc⟩:=hrel
  have HC:=Lib.hid hc
  clear hc
  by_cases hlt:k<np
  · obtain ⟨z,hz⟩:∃ z,h.people[k]?=some z:=⟨_,List.getElem?_eq_getElem (by rw [HPL.out];exact hlt)⟩
    obtain ⟨pb,po,hA,_,p0,p1⟩:=Rd.sw R3H.out.house.people.2 hz
    rw [hA] at d24
    have hlti:(k:Int)<(np:Int):=by omega
    have HZ:=Lib.hid hz
    clear hz hA
    by_cases h3:z.2=3
    · have h3b:(z.2 == 3)=true:=by simpa using h3
      have HN:=Lib.hid (zfb.take HZ.out h3)
      rw [h3] at p1
      clear h3 h3b
      go_wp2
      go_round
      case rel=>exact ⟨k+1,z.1,hlt,rfl,by go_num,HN.out⟩
      case measure=>simp [intOf];omega
    · have h3b:(z.2 == 3)=false:=by simpa using h3
      have HN:=Lib.hid (HC.out.next HZ.out h3)
      go_wp2
      go_round
      case rel=>exact ⟨k+1,s,hlt,rfl,by go_num,HN.out⟩
      case measure=>simp [intOf];omega
  · obtain rfl:k=np:=by omega
    obtain ⟨p,y,hp,hy3,rfl⟩:=HC.out.fin (by rw [HPL.out];exact Nat.le_refl _) HR.out.chief
    have HP:=Lib.hid (And.intro hp (show 1≤y.2 by omega))
    clear hp hy3 HC hk
    obtain ⟨nt,hnt⟩:∃ nt,h.plant.ts.n=nt:=⟨_,rfl⟩
    have htl:h.plant.trains.length=nt:=by rw [R3H.out.house.plant.trains.1];exact hnt
    have ht0:0<nt:=by rw [← htl];exact HR.out.train1
    have ht9:nt≤1000:=by rw [← htl];exact HS.out.plant.trains.1
    obtain ⟨nm,hnm⟩:∃ nm,h.ms.n=nm:=⟨_,rfl⟩
    have hml:h.masts.length=nm:=by rw [R3H.out.house.masts.1];exact hnm
    have hm0:0<nm:=by rw [← hml];exact HR.out.mast1.1
    have hm9:nm≤6:=by rw [← hml];exact HR.out.mast1.2
    have htm:=modF_lt xt ht0
    obtain ⟨t,htt⟩:∃ t,modF xt nt=t:=⟨_,rfl⟩
    rw [htt] at htm
    obtain ⟨tr,htr⟩:∃ tr,h.plant.trains[t]?=some tr:=⟨_,List.getElem?_eq_getElem (by rw [htl];exact htm)⟩
    have hntr:=HR.out.trains tr (List.mem_of_getElem? htr)
    have hts:=(zc7 hntr).2.2
    obtain ⟨tb,to_,hAt,_,zt⟩:=R3H.out.house.plant.trains.2.at_ (zej htr)
    have d1:=(cell_of_row w3 bw 1 _ _ _ R3H.out.k0).trans (by rfl:_=some h.plant.ts.v)
    simp only [SlV.v,hnt,hAt] at d1
    have e0:=(cell_of_row w3 (bw+1) 0 _ _ _ R3H.out.k1).trans (by rfl:_=some (.int .i64 xt))
    have MD:=fun W=>Mod_any xt nt ht0 ht9 W
    rw [htt] at MD
    have HTR:=Lib.hid (And.intro htr htl)
    have HML:=Lib.hid hml
    have htmi:(t:Int)<(nt:Int):=by omega
    clear hAt htr htl hml hntr htt
    go_upto_region 11 with (fail)
    clear d24 hlt
    have x0:=fun y:Xt w3=>y.cell d1
    have x1:=fun y:Xt w3=>y.cell e0
    have x2:=fun y:Xt w3=>y.cell zt
    refine zak [12] (fun w'=>∃ y:Xt w3,w'=y.1) (by kernel_rfl) ⟨⟨w3.drew,(Below.refl _ _).drew⟩,rfl⟩ ?_
    refine zao [0,1,2,3,4,5,6,7,8] 4 rfl (by kernel_rfl) ?_
    simp only [zad,zac,zaa,zX1,zX2,zX3]
    repeat (go_big_quiet_step (fail))
    refine wpQuiet_nil ?_
    have hbd:Below w3.heap.size w3 w3.drew:=(Below.refl _ _).drew
    show wpE _ _ _ _ _ _ _ _ _ w3.drew
    generalize w3.drew=w4 at *
    refine zan (i:=9) rfl (by kernel_rfl) rfl ?_
    unfold zar
    simp only [zad,zac,zaa,zX1,zX2,zX3]
    go_wp2_with (go_at_call 7;refine (MD _).mono ?_;rintro e w' ⟨rfl,rfl⟩)
    refine zab ⟨⟨⟨_,hbd⟩,rfl⟩,?_⟩
    refine zao [10,11] 1 rfl (by kernel_rfl) ?_
    simp only [zad,zac,zaa,zX1,zX2,zX3]
    repeat (go_big_quiet_step (fail))
    refine wpQuiet_nil ?_
    refine zau rfl (by kernel_rfl) ?_
    simp only [zad,zac,zaa,zX1,zX2,zX3]
    have R4:=R3H.out.next hbd
    clear x0 x1 x2 d1 e0 zt MD hbd R3H
    go_wp2
    refine zab ?_
    have hmm:=modF_lt xf hm0
    obtain ⟨a0,haa⟩:∃ a,modF xf nm=a:=⟨_,rfl⟩
    rw [haa] at hmm
    obtain ⟨ma,hma⟩:∃ ma,h.masts[a0]?=some ma:=⟨_,List.getElem?_eq_getElem (by rw [HML.out];exact hmm)⟩
    have hmas:=(zc7 (HR.out.masts ma (List.mem_of_getElem? hma))).2.2
    obtain ⟨mb,mo,hAm,_,zm⟩:=R4.house.masts.2.at_ (zej hma)
    have d23:=(cell_of_row w4 bw 23 _ _ _ R4.k0).trans (by rfl:_=some h.ms.v)
    simp only [SlV.v,hnm,hAm] at d23
    have e1:=(cell_of_row w4 (bw+1) 1 _ _ _ R4.k1).trans (by rfl:_=some (.int .i64 xf))
    have MD:=fun W=>Mod_any xf nm hm0 (by omega) W
    rw [haa] at MD
    have hmmi:(a0:Int)<(nm:Int):=by omega
    have HMA:=Lib.hid hma
    clear hma hAm haa
    have ha1:∀ W,(Op.stringOp .add ⟨#[106,111,105,110,32]⟩ tr).run Tryz.prog W=.ok (.string (⟨#[106,111,105,110,32]⟩++tr)) W:=fun W=>run_string_add_sum (P:=Tryz.prog) W ⟨#[106,111,105,110,32]⟩ tr (by show 5+tr.size≤_;omega)
    have ha2:∀ W,(Op.stringOp .add (⟨#[106,111,105,110,32]⟩++tr) ⟨#[32]⟩).run Tryz.prog W=.ok (.string (⟨#[106,111,105,110,32]⟩++tr++⟨#[32]⟩)) W:=fun W=>run_string_add_sum (P:=Tryz.prog) W (⟨#[106,111,105,110,32]⟩++tr) ⟨#[32]⟩ (by rw [ByteArray.size_append];show 5+tr.size+1≤_;omega)
    have ha3:∀ W,(Op.stringOp .add (⟨#[106,111,105,110,32]⟩++tr++⟨#[32]⟩) ma).run Tryz.prog W=.ok (.string (tx3 [106,111,105,110] tr ma)) W:=fun W=>by
     rw [← tx3_sum]
     exact run_string_add_sum (P:=Tryz.prog) W (⟨#[106,111,105,110,32]⟩++tr++⟨#[32]⟩) ma (by rw [ByteArray.size_append,ByteArray.size_append];show 5+tr.size+1+ma.size≤_;omega)
    have OC:=one_any w4 y.1 (tx3 [106,111,105,110] tr ma)
    go_upto_region 14 with (first | (go_at_call 7;refine (MD _).mono ?_;rintro e w' ⟨rfl,rfl⟩) | (go_at_call 8;refine OC.mono ?_;rintro e w5 ⟨A5,c5,rfl,_,hO5,hb5⟩))
    have R5:=Lib.hid (R4.next hb5)
    have HL5:=Lib.hid (show w5.ownsRow (bw+2) 58 2 (.slice A5 1 c5) 1 (zbe (zf8 h y.1 tr [.join a0])) by
     have e9:zf8 h y.1 tr [.join a0]=[(y.1,tx3 [106,111,105,110] tr ma)]:=by
      show [(y.1,tx3 [106,111,105,110] tr (h.masts.getD a0 ⟨#[]⟩))]=_
      rw [List.getD_eq_getElem?_getD,HMA.out]
      rfl
     rw [e9]
     exact za0 hO5 R4.s)
    clear hb5 hO5 OC R4 MD ha1 ha2 ha3 d23 e1 zm
    have hn9:n≤12:=by omega
    have HLR:=Lib.hid (LogR.start (n:=h.masts.length) (k:=a0) (by rw [HML.out];exact hmm))
    go_wp2
    go_loopw [8,9,10,11,12,13] (fun u8 u9 u10 _ _ _ wr=>WyRel w bw B h #[.int .i64 xt,.int .i64 xf,.slice A n c] y.1 tr n u8 u9 u10 wr) (fun _ _ u10 _ _ _ _=>n - (intOf u10).toNat)
    case atStart=>exact ⟨0,a0,1,[.join a0],A5,c5,Nat.zero_le _,rfl,rfl,rfl,rfl,HLR.out,by omega,HL5.out,R5.out⟩
    case round =>
     clear HL5 R5 HLR HMA
     obtain ⟨k,at_,m,evs,A9,c9,hk,rfl,rfl,hev,rfl,hlr,hm2,hlg,hrw⟩:=hrel
     have HLR:=Lib.hid hlr
     have HEV:=Lib.hid hev
     have HLG:=Lib.hid hlg
     have R1:=Lib.hid hrw
     have hat:at_<nm:=by rw [← HML.out];exact hlr.2
     have hat6:(at_:Int)≤6:=by omega
     obtain ⟨ma,hma⟩:∃ ma,h.masts[at_]?=some ma:=⟨_,List.getElem?_eq_getElem (by rw [HML.out];exact hat)⟩
     have hmas:=(zc7 (HR.out.masts ma (List.mem_of_getElem? hma))).2.2
     have HMA:=Lib.hid hma
     have e2:=(cell_of_row wr (bw+1) 2 _ _ _ hrw.k1).trans (by rfl:_=some (.slice A n c))
     clear hlr hev hlg hrw hma
     by_cases hlt:k<n
     · have hlti:(k:Int)<(n:Int):=by omega
       obtain ⟨b,hb⟩:∃ b,ways[k]?=some b:=⟨_,List.getElem?_eq_getElem (by rw [HX.out.1];exact hlt)⟩
       obtain ⟨wb,wo,hAw,_,zw⟩:=(HX.out.2.below (R1.out.b.mono hB)).at_ (bools_at hb)
       rw [hAw] at e2
       obtain ⟨mb,mo,hAm,_,zm0⟩:=R1.out.house.masts.2.at_ (zej HMA.out)
       have d23:=(cell_of_row wr bw 23 _ _ _ R1.out.k0).trans (by rfl:_=some h.ms.v)
       simp only [SlV.v,hnm,hAm] at d23
       obtain ⟨nx,hnx⟩:∃ nx:Int,(b=false∧(at_:Int)+1=nx)∨(b=true∧(at_:Int) - 1=nx):=by
        cases b
        · exact ⟨_,.inl ⟨rfl,rfl⟩⟩
        · exact ⟨_,.inr ⟨rfl,rfl⟩⟩
       have HAM:=Lib.hid hAm
       clear hb hAw hAm zm0
       rcases hnx with ⟨rfl,hg⟩ | ⟨rfl,hg⟩
       all_goals
        go_upto_region 20 with (fail)
        have HG:Hid (nx=at_+1∨(at_:Int)=nx+1):=by rw [Hid];omega
        clear hg zw e2
        obtain ⟨v,hv⟩:∃ v,zaj nx 0 ((nm:Int) - 1)=v:=⟨_,rfl⟩
        have WC:=fun W=>za1 nx 0 ((nm:Int) - 1) v hv W
        have HV:=Lib.hid hv
        clear hv
        cases v with
        | false =>
         go_wp2_with (go_at_call 9;refine (WC _).mono ?_;rintro e w' ⟨rfl,rfl⟩)
         go_roundw
         case rel=>exact ⟨k+1,at_,m,evs,A9,c9,hlt,by go_num,rfl,HEV.out,rfl,HLR.out,by omega,HLG.out,R1.out⟩
         case measure=>simp [intOf];omega
        | true =>
         obtain ⟨m2,rfl⟩:∃ m2:Nat,nx=m2:=⟨nx.toNat,by have:=HV.out;unfold zaj at this;simp at this;omega⟩
         have hm2n:m2<nm:=by have:=HV.out;unfold zaj at this;simp at this;omega
         have HADJ:Hid (m2=at_+1∨at_=m2+1):=by have:=HG.out;rw [Hid];omega
         obtain ⟨mc,hmc⟩:∃ mc,h.masts[m2]?=some mc:=⟨_,List.getElem?_eq_getElem (by rw [HML.out];exact hm2n)⟩
         have hmcs:=(zc7 (HR.out.masts mc (List.mem_of_getElem? hmc))).2.2
         obtain ⟨mb2,mo2,hAm2,_,zc⟩:=R1.out.house.masts.2.at_ (zej hmc)
         obtain ⟨rfl,rfl⟩:mb2=mb∧mo2=mo:=by
          have:=HAM.out.symm.trans hAm2
          simp at this
          exact ⟨this.1.symm,this.2.symm⟩
         have hm2i:(m2:Int)<(nm:Int):=by omega
         have HMC:=Lib.hid hmc
         clear hmc hAm2
         go_upto_region 21 with (go_at_call 9;refine (WC _).mono ?_;rintro e w' ⟨rfl,rfl⟩)
         clear WC
         have ha1:∀ W,(Op.stringOp .add ⟨#[104,97,110,100,32]⟩ tr).run Tryz.prog W=.ok (.string (⟨#[104,97,110,100,32]⟩++tr)) W:=fun W=>run_string_add_sum (P:=Tryz.prog) W ⟨#[104,97,110,100,32]⟩ tr (by show 5+tr.size≤_;omega)
         have ha2:∀ W,(Op.stringOp .add (⟨#[104,97,110,100,32]⟩++tr) ⟨#[32]⟩).run Tryz.prog W=.ok (.string (⟨#[104,97,110,100,32]⟩++tr++⟨#[32]⟩)) W:=fun W=>run_string_add_sum (P:=Tryz.prog) W (⟨#[104,97,110,100,32]⟩++tr) ⟨#[32]⟩ (by rw [ByteArray.size_append];show 5+tr.size+1≤_;omega)
         have ha3:∀ W,(Op.stringOp .add (⟨#[104,97,110,100,32]⟩++tr++⟨#[32]⟩) mc).run Tryz.prog W=.ok (.string (tx3 [104,97,110,100] tr mc)) W:=fun W=>by
          rw [← tx3_sum]
          exact run_string_add_sum (P:=Tryz.prog) W (⟨#[104,97,110,100,32]⟩++tr++⟨#[32]⟩) mc (by rw [ByteArray.size_append,ByteArray.size_append];show 5+tr.size+1+mc.size≤_;omega)
         have hba:=hB1 wr (.cells #[.string y.1,.string (tx3 [104,97,110,100] tr mc)] 58)
         obtain ⟨i1,hi1,hy0,hy1,hy2⟩:=info_parts zjh
         have hown1:=zaf HLG.out hba
         have R2:=R1.out.next hba
         go_wp2_with (at_builtin;refine stp ?_)
         unfold Stp
         refine wpList_append_lies _ rfl _ _ 55 rfl (bw+2) 58 i1 _ 2 32 Tryz.underlying55 hi1 hy0 hy1 hy2 rfl (by omega) (.slice A9 (m) c9) (m) _ rfl hown1 ⟨wr.heap.size,0,none⟩ 1 1 [.string y.1,.string (tx3 [104,97,110,100] tr mc)] rfl rfl (zey (f:=(0,0)) (t:=58) (by rw [zae,if_pos rfl])) (by simp [Value.oneCell']) (by omega) (by simp only [maxLen];omega) (by omega) (by have:=R1.out.s;simp;omega) _ rfl ?_
         intro gg cap w6 hown6 hgrow6 _ _
         have R3:=Lib.hid (R2.nextB ((Below.refl _ _).grown hgrow6 R2.s (fun j hj=>(zbi hown1 hj).1)))
         have HL6:=Lib.hid (show w6.ownsRow (bw+2) 58 2 (.slice (some ⟨gg,0,none⟩) (m+1) cap) (m+1) (zbe (zf8 h y.1 tr (evs++[REv.hand m2]))) by
          have e9:(REv.hand m2:REv).tx h.masts tr=tx3 [104,97,110,100] tr mc:=(by show tx3 _ tr (h.masts.getD m2 ⟨#[]⟩)=_;rw [List.getD_eq_getElem?_getD,HMC.out];rfl)
          rw [zi4,zeh,e9]
          exact hown6)
         clear hgrow6 hown6 hown1 hba R2 hi1 hy0 hy1 hy2
         clear ha1 ha2 ha3 zc d23
         have HRUN1:=Lib.hid (HLR.out.hand (by rw [HML.out];exact hm2n) HADJ.out)
         have HEV1:=Lib.hid (show (evs++[REv.hand m2]).length=m+1 by rw [List.length_append,HEV.out];rfl)
         go_upto_region 22 with (fail)
         have CP:=zdq w6 B h R3.out.house HS.out (Nat.le_trans hB (by have:=R3.out.s;omega))
         go_wp2_with (with_reducible refine zaw 45 ?_)
         unfold Stp
         refine wpList_load_row rfl 45 _ rfl bw rfl 45 _ (0,0) _ R3.out.k0 Tryz.underlying45 rfl (by kernel_rfl) ?_
         go_wp2_with (go_at_call 11;refine CP.mono ?_;rintro e w7 ⟨q,hq,rfl,hO,hb7⟩;refine stp ?_)
         unfold Stp
         have R7:=Lib.hid (R3.out.next hb7)
         have HL7:=Lib.hid (zaf HL6.out hb7)
         have HQ:=Lib.hid (And.intro hq hO)
         have CLC:=ze7 w7 w7.heap.size (some ⟨gg,0,none⟩) (m+1) cap (zf8 h y.1 tr (evs++[.hand m2])) (by unfold zf8;rw [List.length_map];exact HEV1.out) (by omega) (za7 HL7.out) (Nat.le_refl _)
         clear CP hq hO hb7
         go_wp2_with (go_at_call 12;refine CLC.mono ?_;rintro e w8 ⟨A8,c8,rfl,_,hO8,hb8⟩;refine stp ?_)
         unfold Stp
         have R8:=Lib.hid (R7.out.next hb8)
         have HL8:=Lib.hid (zaf HL7.out hb8)
         have MQ:=zjw w8 _ h q HQ.out.1 (HQ.out.2.keep hb8) (zd5 HE.out) HS.out p y HP.out.1 HP.out.2 t tr HTR.out.1 (evs++[.hand m2]) (some (at_,some m2)) HRUN1.out (by rw [HEV1.out];omega) (m+1) HEV1.out A8 c8 (za7 hO8) (HT.out.below (by have:=R8.out.b;rw [← HBW.out] at this;exact this))
         clear CLC hO8 hb8
         go_upto_region 23 with (go_at_call 10;refine MQ.mono ?_;rintro e w9 ⟨v9,E9,rfl,hP9,hb9⟩)
         have R9:=Lib.hid (R8.out.next hb9)
         have HL9:=Lib.hid (zaf HL8.out hb9)
         clear MQ hb9
         obtain ⟨rfl,A2,n2,c2,rfl,hl2,hr2⟩:=hP9.2 at_ (some m2) rfl
         have hnm2:zd4 h.masts [some at_,some m2]=[ma,mc]:=by simp [zd4,HMA.out,HMC.out]
         rw [hnm2] at hl2 hr2
         obtain rfl:2=n2:=hl2
         have d23:=R9.out.row HAM.out hnm
         have za:=R9.out.mast HAM.out HMA.out
         have zc:=R9.out.mast HAM.out HMC.out
         have x0:=fun y:Xt w9=>y.cell d23
         have x1:=fun y:Xt w9=>y.cell za
         have x2:=fun y:Xt w9=>y.cell zc
         clear hP9 hnm2 d23 za zc
         refine zak [17] (fun w'=>∃ y:Xt w9,w'=y.1) (by kernel_rfl) ⟨⟨w9.drew,(Below.refl _ _).drew⟩,rfl⟩ ?_
         refine zao [0,1,2,3,4,5,6,7,8,9,10,11,12,13] 4 rfl (by kernel_rfl) ?_
         simp only [zad,zac,zaa,zX1,zX2,zX3]
         repeat (go_big_quiet_step (fail))
         refine wpQuiet_nil ?_
         have hbd:Below w9.heap.size w9 w9.drew:=(Below.refl _ _).drew
         show wpE _ _ _ _ _ _ _ _ _ w9.drew
         generalize w9.drew=wd at *
         have hbe:Below w9.heap.size w9 (wd.alloc (.cells #[.string ma,.string mc] 9)):=hbd.alloc hbd.size _
         have kq:=hA1 wd (.cells #[.string ma,.string mc] 9)
         have TXC:=zk4 A2 (some ⟨wd.heap.size,0,none⟩) 2 c2 2 [ma,mc] (wd.alloc (.cells #[.string ma,.string mc] 9)) (by omega) rfl ((hr2.keep hbe).mono hbe.size) (zbq kq)
         clear x0 x1 x2 hr2
         refine zan (i:=14) rfl (by kernel_rfl) rfl ?_
         unfold zar
         simp only [zad,zac,zaa,zX1,zX2,zX3]
         go_wp2
         refine zab ⟨⟨⟨_,hbe⟩,rfl⟩,?_⟩
         refine zan (i:=15) rfl (by kernel_rfl) rfl ?_
         unfold zar
         simp only [zad,zac,zaa,zX1,zX2,zX3]
         go_wp2_with (go_at_call 13;refine TXC.mono ?_;rintro e wa ⟨rfl,hbt⟩)
         refine zab ⟨⟨⟨_,hbe.trans (hbt.mono hbe.size)⟩,rfl⟩,?_⟩
         refine zao [16] 1 rfl (by kernel_rfl) ?_
         simp only [zad,zac,zaa,zX1,zX2,zX3]
         repeat (go_big_quiet_step (fail))
         refine wpQuiet_nil ?_
         refine zau rfl (by kernel_rfl) ?_
         simp only [zad,zac,zaa,zX1,zX2,zX3]
         have hbe2:=hbe.trans (hbt.mono hbe.size)
         have RA:=Lib.hid (R9.out.next hbe2)
         have HLA:=Lib.hid (zaf HL9.out hbe2)
         clear hbe hbd kq TXC hbt hbe2
         go_wp2
         refine zab ?_
         have ha1:∀ W,(Op.stringOp .add ⟨#[100,114,111,112,32]⟩ tr).run Tryz.prog W=.ok (.string (tx2 [100,114,111,112] tr)) W:=fun W=>by
          rw [← tx2_sum]
          exact run_string_add_sum (P:=Tryz.prog) W ⟨#[100,114,111,112,32]⟩ tr (by show 5+tr.size≤_;omega)
         have hba:=hB1 wa (.cells #[.string y.1,.string (tx2 [100,114,111,112] tr)] 58)
         obtain ⟨i1,hi1,hy0,hy1,hy2⟩:=info_parts zjh
         have hown1:=zaf HLA.out hba
         have R2:=RA.out.next hba
         go_wp2_with (at_builtin;refine stp ?_)
         unfold Stp
         refine wpList_append_lies _ rfl _ _ 55 rfl (bw+2) 58 i1 _ 2 32 Tryz.underlying55 hi1 hy0 hy1 hy2 rfl (by omega) (.slice (some ⟨gg,0,none⟩) (m+1) cap) (m+1) _ rfl hown1 ⟨wa.heap.size,0,none⟩ 1 1 [.string y.1,.string (tx2 [100,114,111,112] tr)] rfl rfl (zey (f:=(0,0)) (t:=58) (by rw [zae,if_pos rfl])) (by simp [Value.oneCell']) (by omega) (by simp only [maxLen];omega) (by omega) (by have:=RA.out.s;simp;omega) _ rfl ?_
         intro gg2 cap2 w6 hown6 hgrow6 _ _
         have R3:=Lib.hid (R2.nextB ((Below.refl _ _).grown hgrow6 R2.s (fun j hj=>(zbi hown1 hj).1)))
         have HL6:=Lib.hid (show w6.ownsRow (bw+2) 58 2 (.slice (some ⟨gg2,0,none⟩) (m+1+1) cap2) (m+1+1) (zbe (zf8 h y.1 tr ((evs++[REv.hand m2])++[REv.drop]))) by
          have e9:(REv.drop:REv).tx h.masts tr=tx2 [100,114,111,112] tr:=rfl
          rw [zi4,zeh,e9]
          exact hown6)
         clear hgrow6 hown6 hown1 hba R2 hi1 hy0 hy1 hy2
         clear ha1
         have HRUN2:=Lib.hid (HLR.out.drop (by rw [HML.out];exact hm2n) HADJ.out)
         have HEV2:=Lib.hid (show ((evs++[REv.hand m2])++[REv.drop]).length=m+1+1 by rw [List.length_append,HEV1.out];rfl)
         go_upto_region 26 with (fail)
         have CP:=zdq w6 B h R3.out.house HS.out (Nat.le_trans hB (by have:=R3.out.s;omega))
         go_wp2_with (with_reducible refine zaw 45 ?_)
         unfold Stp
         refine wpList_load_row rfl 45 _ rfl bw rfl 45 _ (0,0) _ R3.out.k0 Tryz.underlying45 rfl (by kernel_rfl) ?_
         go_wp2_with (go_at_call 11;refine CP.mono ?_;rintro e w7 ⟨q,hq,rfl,hO,hb7⟩;refine stp ?_)
         unfold Stp
         have R7:=Lib.hid (R3.out.next hb7)
         have HL7:=Lib.hid (zaf HL6.out hb7)
         have HQ:=Lib.hid (And.intro hq hO)
         have CLC:=ze7 w7 w7.heap.size (some ⟨gg2,0,none⟩) (m+1+1) cap2 (zf8 h y.1 tr ((evs++[REv.hand m2])++[REv.drop])) (by unfold zf8;rw [List.length_map];exact HEV2.out) (by omega) (za7 HL7.out) (Nat.le_refl _)
         clear CP hq hO hb7
         go_wp2_with (go_at_call 12;refine CLC.mono ?_;rintro e w8 ⟨A8,c8,rfl,_,hO8,hb8⟩;refine stp ?_)
         unfold Stp
         have R8:=Lib.hid (R7.out.next hb8)
         have HL8:=Lib.hid (zaf HL7.out hb8)
         have MQ:=zjw w8 _ h q HQ.out.1 (HQ.out.2.keep hb8) (zd5 HE.out) HS.out p y HP.out.1 HP.out.2 t tr HTR.out.1 ((evs++[REv.hand m2])++[REv.drop]) (some (m2,none)) HRUN2.out.1 (by rw [HEV2.out];omega) (m+1+1) HEV2.out A8 c8 (za7 hO8) (HT.out.below (by have:=R8.out.b;rw [← HBW.out] at this;exact this))
         clear CLC hO8 hb8
         go_upto_region 27 with (go_at_call 10;refine MQ.mono ?_;rintro e w9 ⟨v9,E9,rfl,hP9,hb9⟩)
         have R9:=Lib.hid (R8.out.next hb9)
         have HL9:=Lib.hid (zaf HL8.out hb9)
         clear MQ hb9
         obtain ⟨rfl,A2,n2,c2,rfl,hl2,hr2⟩:=hP9.2 m2 none rfl
         have hnm2:zd4 h.masts [some m2,none]=[mc]:=by simp [zd4,HMC.out]
         rw [hnm2] at hl2 hr2
         obtain rfl:1=n2:=hl2
         have d23:=R9.out.row HAM.out hnm
         have zc:=R9.out.mast HAM.out HMC.out
         have hbe:=hB1 w9 (.cells #[.string mc] 9)
         have kq:=hA1 w9 (.cells #[.string mc] 9)
         have TXC:=zk4 A2 (some ⟨w9.heap.size,0,none⟩) 1 c2 1 [mc] (w9.alloc (.cells #[.string mc] 9)) (by omega) rfl ((hr2.keep hbe).mono hbe.size) (zbq kq)
         clear hP9 hnm2 hr2 kq
         go_upto_region 29 with (go_at_call 13;refine TXC.mono ?_;rintro e wa2 ⟨rfl,hbt⟩)
         have hbe2:=hbe.trans (hbt.mono hbe.size)
         have RB:=Lib.hid (R9.out.next hbe2)
         have HLB:=Lib.hid (zaf HL9.out hbe2)
         clear d23 zc TXC hbe hbt hbe2
         have HREL:Hid (WyRel w bw B h #[.int .i64 xt,.int .i64 xf,.slice A n c] y.1 tr n (.int .i64 (m2:Nat)) (.slice (some ⟨gg2,0,none⟩) (m+1+1) cap2) (.int .i64 ((k:Int)+1)) wa2):=⟨k+1,m2,m+1+1,_,_,_,hlt,by go_num,rfl,HEV2.out,rfl,HRUN2.out,by omega,HLB.out,RB.out⟩
         go_wp2
         go_roundw
         case rel=>exact HREL.out
         case measure=>simp [intOf];omega
     · obtain rfl:k=n:=by omega
       obtain ⟨mb,mo,hAm,_,_⟩:=R1.out.house.masts.2.at_ (zej HMA.out)
       have d23:=(cell_of_row wr bw 23 _ _ _ R1.out.k0).trans (by rfl:_=some h.ms.v)
       simp only [SlV.v,hnm,hAm] at d23
       have hm2n:=modF_lt ((at_:Int)+2) hm0
       obtain ⟨aw,haw⟩:∃ a,modF ((at_:Int)+2) nm=a:=⟨_,rfl⟩
       rw [haw] at hm2n
       obtain ⟨mc,hmc⟩:∃ mc,h.masts[aw]?=some mc:=⟨_,List.getElem?_eq_getElem (by rw [HML.out];exact hm2n)⟩
       have hmcs:=(zc7 (HR.out.masts mc (List.mem_of_getElem? hmc))).2.2
       obtain ⟨mb2,mo2,hAm2,_,zc⟩:=R1.out.house.masts.2.at_ (zej hmc)
       obtain ⟨rfl,rfl⟩:mb2=mb∧mo2=mo:=by
        have:=hAm.symm.trans hAm2
        simp at this
        exact ⟨this.1.symm,this.2.symm⟩
       have MD:=fun W=>Mod_any ((at_:Int)+2) nm hm0 (by omega) W
       rw [haw] at MD
       have hmmi:(aw:Int)<(nm:Int):=by omega
       have HMC:=Lib.hid hmc
       have HAM:=Lib.hid hAm
       clear hmc hAm2 hAm haw
       have ha1:∀ W,(Op.stringOp .add ⟨#[104,97,110,100,32]⟩ tr).run Tryz.prog W=.ok (.string (⟨#[104,97,110,100,32]⟩++tr)) W:=fun W=>run_string_add_sum (P:=Tryz.prog) W ⟨#[104,97,110,100,32]⟩ tr (by show 5+tr.size≤_;omega)
       have ha2:∀ W,(Op.stringOp .add (⟨#[104,97,110,100,32]⟩++tr) ⟨#[32]⟩).run Tryz.prog W=.ok (.string (⟨#[104,97,110,100,32]⟩++tr++⟨#[32]⟩)) W:=fun W=>run_string_add_sum (P:=Tryz.prog) W (⟨#[104,97,110,100,32]⟩++tr) ⟨#[32]⟩ (by rw [ByteArray.size_append];show 5+tr.size+1≤_;omega)
       have ha3:∀ W,(Op.stringOp .add (⟨#[104,97,110,100,32]⟩++tr++⟨#[32]⟩) mc).run Tryz.prog W=.ok (.string (tx3 [104,97,110,100] tr mc)) W:=fun W=>by
        rw [← tx3_sum]
        exact run_string_add_sum (P:=Tryz.prog) W (⟨#[104,97,110,100,32]⟩++tr++⟨#[32]⟩) mc (by rw [ByteArray.size_append,ByteArray.size_append];show 5+tr.size+1+mc.size≤_;omega)
       go_upto_region 30 with (fail)
       clear e2
       have x0:=fun q:Xt wr=>q.cell d23
       have x1:=fun q:Xt wr=>q.cell zc
       refine zak [17] (fun w'=>∃ q:Xt wr,w'=q.1) (by kernel_rfl) ⟨⟨wr.drew,(Below.refl _ _).drew⟩,rfl⟩ ?_
       refine zao [0,1,2,3,4,5,6,7,8,9,10] 7 rfl (by kernel_rfl) ?_
       simp only [zad,zac,zaa,zX1,zX2,zX3]
       repeat (go_big_quiet_step (fail))
       refine wpQuiet_nil ?_
       have hbd:Below wr.heap.size wr wr.drew:=(Below.refl _ _).drew
       show wpE _ _ _ _ _ _ _ _ _ wr.drew
       generalize wr.drew=wd at *
       have hbn:Below wr.heap.size wr (wd.alloc (.cells #[.string ⟨#[]⟩,.string ⟨#[]⟩] 58)):=hbd.alloc hbd.size _
       have kn:=hA1 wd (.cells #[.string ⟨#[]⟩,.string ⟨#[]⟩] 58)
       refine zk7 (i:=11) (k:=16) rfl (by kernel_rfl) rfl rfl ?_ ?_
       all_goals unfold zar
       all_goals simp only [zad,zac,zaa,zX1,zX2,zX3]
       focus
        go_wp2_with (go_at_call 7;refine (MD _).mono ?_;rintro e w' ⟨rfl,rfl⟩)
        refine zab ⟨⟨⟨_,hbd⟩,rfl⟩,?_⟩
        refine wpE_reads5 [12,13,14,15] 2 rfl (by kernel_rfl) ?_
        simp only [zad,zac,zaa,zX1,zX2,zX3]
        repeat (go_big_quiet_step (fail))
        refine wpQuiet_nil ?_
        refine zan (i:=16) rfl (by kernel_rfl) rfl ?_
        unfold zar
        simp only [zad,zac,zaa,zX1,zX2,zX3]
        go_wp2
        refine zab ⟨⟨⟨_,hbn⟩,rfl⟩,?_⟩
        refine zau rfl (by kernel_rfl) ?_
       rotate_left
       focus
        go_wp2
        refine zab ⟨⟨⟨_,hbn⟩,rfl⟩,?_⟩
        refine zan (i:=11) rfl (by kernel_rfl) rfl ?_
        unfold zar
        simp only [zad,zac,zaa,zX1,zX2,zX3]
        go_wp2_with (go_at_call 7;refine (MD _).mono ?_;rintro e w' ⟨rfl,rfl⟩)
        refine zab ⟨⟨⟨_,hbn⟩,rfl⟩,?_⟩
        refine wpE_reads5 [12,13,14,15] 1 rfl (by kernel_rfl) ?_
        simp only [zad,zac,zaa,zX1,zX2,zX3]
        repeat (go_big_quiet_step (fail))
        refine wpQuiet_nil ?_
        refine zau rfl (by kernel_rfl) ?_
       all_goals
        simp only [zad,zac,zaa,zX1,zX2,zX3]
        refine wpList_store_row rfl 58 _ _ rfl (wd.heap.size) #[.string y.1,.string (tx3 [104,97,110,100] tr mc)] rfl rfl 58 _ kn (by kernel_rfl) rfl (by kernel_rfl) ?_
        have kz:=setRow_heap (wd.alloc (.cells #[.string ⟨#[]⟩,.string ⟨#[]⟩] 58)) (wd.heap.size) _ #[.string y.1,.string (tx3 [104,97,110,100] tr mc)] 58 (0,0) kn
        have hbz:Below wr.heap.size wr ((wd.alloc (.cells #[.string ⟨#[]⟩,.string ⟨#[]⟩] 58)).setRow (wd.heap.size) #[.string y.1,.string (tx3 [104,97,110,100] tr mc)]):=below_setRow hbn hbd.size _
        have RZ:=Lib.hid (R1.out.next hbz)
        have HLZ:=Lib.hid (zaf HLG.out hbz)
        clear x0 x1 zc ha1 ha2 ha3 hbz kn hbn hbd
        generalize hyy:(wd.heap.size)=bz at *
        clear hyy
        generalize (wd.alloc (.cells #[.string ⟨#[]⟩,.string ⟨#[]⟩] 58)).setRow bz #[.string y.1,.string (tx3 [104,97,110,100] tr mc)]=wz at *
        have d23:=(cell_of_row wz bw 23 _ _ _ RZ.out.k0).trans (by rfl:_=some h.ms.v)
        simp only [SlV.v,hnm,HAM.out] at d23
        go_wp2
        refine zab ?_
        go_upto_region 32 with (go_at_call 7;refine (MD _).mono ?_;rintro e w' ⟨rfl,rfl⟩)
        clear MD d23
        have hcase:((aw:Int) != (at_:Int)+1)=false∨(((aw:Int) != (at_:Int)+1)=true∧((aw:Int) != (at_:Int) - 1)=false)∨(((aw:Int) != (at_:Int)+1)=true∧((aw:Int) != (at_:Int) - 1)=true∧(aw≠at_+1∧at_≠aw+1)):=by
         by_cases d1:(aw:Int)=(at_:Int)+1
         · exact .inl (bne_eq_false_iff_eq.2 d1)
         · by_cases d2:(aw:Int)=(at_:Int) - 1
           · exact .inr (.inl ⟨bne_iff_ne.2 d1,bne_eq_false_iff_eq.2 d2⟩)
           · exact .inr (.inr ⟨bne_iff_ne.2 d1,bne_iff_ne.2 d2,by omega⟩)
        rcases hcase with c1 | ⟨c1,c2⟩ | ⟨c1,c2,hfar⟩
        focus go_upto_region 36 with (fail)
        rotate_left
        focus go_upto_region 36 with (fail)
        rotate_left
        focus
         go_upto_region 33 with (fail)
         refine zak [10] (fun w'=>∃ q:Xt wz,w'=q.1) (by kernel_rfl) ⟨⟨wz.drew,(Below.refl _ _).drew⟩,rfl⟩ ?_
         refine zao [0,2,4] 8 rfl (by kernel_rfl) ?_
         simp only [zad,zac,zaa,zX1,zX2,zX3]
         refine ze9 rfl 45 _ rfl bw rfl 45 _ (0,0) _ (by rintro _ ⟨q,rfl⟩;exact (q.2.block bw (by have:=RZ.out.s;omega)).trans RZ.out.k0) Tryz.underlying45 rfl (by kernel_rfl) ?_
         simp only [Act.put,List.setIfInBounds_toArray,List.set_cons_succ,List.set_cons_zero]
         go_big_quiet_step (fail)
         refine ze9 rfl 58 _ rfl bz rfl 58 _ (0,0) _ (by rintro _ ⟨q,rfl⟩;exact (q.2.block bz (lt_of_blk kz)).trans kz) Tryz.underlying58 rfl (by kernel_rfl) ?_
         simp only [Act.put,List.setIfInBounds_toArray,List.set_cons_succ,List.set_cons_zero]
         refine wpQuiet_nil ?_
         have hbd:Below wz.heap.size wz wz.drew:=(Below.refl _ _).drew
         show wpE _ _ _ _ _ _ _ _ _ wz.drew
         generalize wz.drew=wd at *
         have RD:=Lib.hid (RZ.out.next hbd)
         have HLD:=Lib.hid (zaf HLZ.out hbd)
         have CP:=zdq wd B h RD.out.house HS.out (Nat.le_trans hB (by have:=RD.out.s;omega))
         refine zan (i:=1) rfl (by kernel_rfl) rfl ?_
         unfold zar
         simp only [zad,zac,zaa,zX1,zX2,zX3]
         go_wp2_with (go_at_call 11;refine CP.mono ?_;rintro e w7 ⟨q,hq,rfl,hO,hb7⟩)
         refine zab ⟨⟨⟨_,hbd.trans (hb7.mono hbd.size)⟩,rfl⟩,?_⟩
         have hbd7:=hbd.trans (hb7.mono hbd.size)
         have R7:=Lib.hid (RD.out.next hb7)
         have HL7:=Lib.hid (zaf HLD.out hb7)
         have HQ:=Lib.hid (And.intro hq hO)
         have CLC:=ze7 w7 w7.heap.size A9 m c9 (zf8 h y.1 tr evs) (by unfold zf8;rw [List.length_map];exact HEV.out) (by omega) (za7 HL7.out) (Nat.le_refl _)
         clear CP hq hO hb7 hbd
         refine zan (i:=3) rfl (by kernel_rfl) rfl ?_
         unfold zar
         simp only [zad,zac,zaa,zX1,zX2,zX3]
         go_wp2_with (go_at_call 12;refine CLC.mono ?_;rintro e w8 ⟨A8,c8,rfl,_,hO8,hb8⟩)
         refine zab ⟨⟨⟨_,hbd7.trans (hb8.mono hbd7.size)⟩,rfl⟩,?_⟩
         have hbd8:=hbd7.trans (hb8.mono hbd7.size)
         have R8:=Lib.hid (R7.out.next hb8)
         have HL8:=Lib.hid (zaf HL7.out hb8)
         have e9:(REv.hand aw).tx h.masts tr=tx3 [104,97,110,100] tr mc:=by show tx3 _ tr (h.masts.getD aw ⟨#[]⟩)=_;rw [List.getD_eq_getElem?_getD,HMC.out];rfl
         have AQ:=Accept_Q w8 _ h q HQ.out.1 (HQ.out.2.keep hb8) (zd5 HE.out) HS.out p y HP.out.1 HP.out.2 t tr HTR.out.1 evs at_ aw HLR.out (by rw [HEV.out];omega) (by rw [HML.out];exact hm2n) hfar m HEV.out A8 c8 (za7 hO8) (HT.out.below (by have:=R8.out.b;rw [← HBW.out] at this;exact this))
         rw [e9] at AQ
         clear CLC hO8 hb8 hbd7
         refine zan (i:=5) rfl (by kernel_rfl) rfl ?_
         unfold zar
         simp only [zad,zac,zaa,zX1,zX2,zX3]
         go_wp2_with (go_at_call 14;refine AQ.mono ?_;rintro e w9 ⟨rfl,hb9⟩)
         refine zab ⟨⟨⟨_,hbd8.trans (hb9.mono hbd8.size)⟩,rfl⟩,?_⟩
         have RZ:=Lib.hid (R8.out.next hb9)
         have HLZ:=Lib.hid (zaf HL8.out hb9)
         refine zao [6,7,8,9] 1 rfl (by kernel_rfl) ?_
         simp only [zad,zac,zaa,zX1,zX2,zX3]
         repeat (go_big_quiet_step (fail))
         refine wpQuiet_nil ?_
         refine zau rfl (by kernel_rfl) ?_
         simp only [zad,zac,zaa,zX1,zX2,zX3]
         clear AQ hb9 hbd8 e9
         go_wp2
         refine zab ?_
         go_upto_region 36 with (fail)
        all_goals
         rename World=>wy
         clear kz c1
         have ha1:∀ W,(Op.stringOp .add ⟨#[100,114,111,112,32]⟩ tr).run Tryz.prog W=.ok (.string (tx2 [100,114,111,112] tr)) W:=fun W=>by
          rw [← tx2_sum]
          exact run_string_add_sum (P:=Tryz.prog) W ⟨#[100,114,111,112,32]⟩ tr (by show 5+tr.size≤_;omega)
         have hba:=hB1 wy (.cells #[.string y.1,.string (tx2 [100,114,111,112] tr)] 58)
         obtain ⟨i1,hi1,hy0,hy1,hy2⟩:=info_parts zjh
         have hown1:=zaf HLZ.out hba
         have R2:=RZ.out.next hba
         go_wp2_with (at_builtin;refine stp ?_)
         unfold Stp
         refine wpList_append_lies _ rfl _ _ 55 rfl (bw+2) 58 i1 _ 2 32 Tryz.underlying55 hi1 hy0 hy1 hy2 rfl (by omega) (.slice A9 (m) c9) (m) _ rfl hown1 ⟨wy.heap.size,0,none⟩ 1 1 [.string y.1,.string (tx2 [100,114,111,112] tr)] rfl rfl (zey (f:=(0,0)) (t:=58) (by rw [zae,if_pos rfl])) (by simp [Value.oneCell']) (by omega) (by simp only [maxLen];omega) (by omega) (by have:=RZ.out.s;simp;omega) _ rfl ?_
         intro gg cap w6 hown6 hgrow6 _ _
         have R3:=Lib.hid (R2.nextB ((Below.refl _ _).grown hgrow6 R2.s (fun j hj=>(zbi hown1 hj).1)))
         have HL6:=Lib.hid (show w6.ownsRow (bw+2) 58 2 (.slice (some ⟨gg,0,none⟩) (m+1) cap) (m+1) (zbe (zf8 h y.1 tr (evs++[REv.drop]))) by
          have e9:(REv.drop:REv).tx h.masts tr=tx2 [100,114,111,112] tr:=rfl
          rw [zi4,zeh,e9]
          exact hown6)
         clear hgrow6 hown6 hown1 hba R2 hi1 hy0 hy1 hy2
         clear ha1
         have HRUN2:=Lib.hid HLR.out.end_
         have HEV2:=Lib.hid (show (evs++[REv.drop]).length=m+1 by rw [List.length_append,HEV.out];rfl)
         go_upto_region 37 with (fail)
         have CP:=zdq w6 B h R3.out.house HS.out (Nat.le_trans hB (by have:=R3.out.s;omega))
         go_wp2_with (with_reducible refine zaw 45 ?_)
         unfold Stp
         refine wpList_load_row rfl 45 _ rfl bw rfl 45 _ (0,0) _ R3.out.k0 Tryz.underlying45 rfl (by kernel_rfl) ?_
         go_wp2_with (go_at_call 11;refine CP.mono ?_;rintro e w7 ⟨q,hq,rfl,hO,hb7⟩;refine stp ?_)
         unfold Stp
         have R7:=Lib.hid (R3.out.next hb7)
         have HL7:=Lib.hid (zaf HL6.out hb7)
         have HQ:=Lib.hid (And.intro hq hO)
         have CLC:=ze7 w7 w7.heap.size (some ⟨gg,0,none⟩) (m+1) cap (zf8 h y.1 tr (evs++[.drop])) (by unfold zf8;rw [List.length_map];exact HEV2.out) (by omega) (za7 HL7.out) (Nat.le_refl _)
         clear CP hq hO hb7
         go_wp2_with (go_at_call 12;refine CLC.mono ?_;rintro e w8 ⟨A8,c8,rfl,_,hO8,hb8⟩;refine stp ?_)
         unfold Stp
         have R8:=Lib.hid (R7.out.next hb8)
         have HL8:=Lib.hid (zaf HL7.out hb8)
         have MQ:=zjw w8 _ h q HQ.out.1 (HQ.out.2.keep hb8) (zd5 HE.out) HS.out p y HP.out.1 HP.out.2 t tr HTR.out.1 (evs++[.drop]) (none) HRUN2.out (by rw [HEV2.out];omega) (m+1) HEV2.out A8 c8 (za7 hO8) (HT.out.below (by have:=R8.out.b;rw [← HBW.out] at this;exact this))
         clear CLC hO8 hb8
         go_upto_region 38 with (go_at_call 10;refine MQ.mono ?_;rintro e w9 ⟨v9,E9,rfl,hP9,hb9⟩)
         have R9:=Lib.hid (R8.out.next hb9)
         have HL9:=Lib.hid (zaf HL8.out hb9)
         clear MQ hb9
         obtain ⟨rfl,rfl⟩:=hP9.1 rfl
         clear hP9
         go_wp2
         go_ret
         exact ⟨rfl,by rw [HBW.out];exact R9.out.b⟩
end Go.Proofs.YtoodbfkbbchjiaaGreatDoor
