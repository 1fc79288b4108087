import Derived.Test.YtoodbfkbbchjiaaGreatDoorProg
import Derived.WalkKit
import Derived.WalkLawsBesides
import Derived.WalkSpells
import Derived.Handy
import Derived.Lib.Hide
import Derived.Deep.LoopGhost
import Derived.Deep.QuietTactic
import Derived.BigQuiet
import Derived.StillTailTactics
import Derived.Deep.DeepMust
import Derived.Outline
import Derived.Deep.Quiet
import Derived.Tactics
import Derived.Deep.OwnRows
import Derived.RegionTactic
import Derived.BigRegion
import Derived.Deep.RegionHeld3
import Derived.OrdersHeld
import Derived.Deep.AppendLies
import Derived.Laws.CopyOwn
import Derived.ArgAppend
import Derived.Deep.Cut
import Derived.Deep.Upon
import Derived.Lib.AtoiErrMem
import Derived.RangeFuncNested
import Derived.RangeFuncBound
import Derived.RangeFuncCalls
import Derived.RangeFuncLeaves
import Derived.Shelf.Abstract
import Derived.Shelf.RegionOpen
import Derived.OwnWalkIn
import Derived.TacticsInMore
import Derived.LoopNIn
import Derived.LoopIn
import Derived.Deep.MidRow
set_option maxRecDepth 100000
set_option maxHeartbeats 16000000
namespace Go.Proofs.YtoodbfkbbchjiaaGreatDoor
theorem zX1 {α:Type} {l:List α} {i:Nat}:l.toArray[i]?=l[i]?:=List.getElem?_toArray
theorem zX2 {α:Type} {a:α} {l:List α}:(a::l)[0]?=some a:=List.getElem?_cons_zero
theorem zX3 {α:Type} {a:α} {l:List α} {i:Nat}:(a::l)[i+1]?=l[i]?:=List.getElem?_cons_succ
open Go.RowKit
def zaj (n lo hi:Int):Bool:=decide (lo≤n) && decide (n≤hi)
def zag (b:Bool) (e:Int):Int:=bif b then 0 else e
def zam:List Int→Int
 | []=>0
 | a :: l=>if a=0 then zam l else a
def Xt (w:World):={ w':World // Below w.heap.size w w' }
def zai (l:List Int):List Value:=l.map (.int .i64)
def Rd (w:World) (B:Nat) (A:Option Addr) (xs:List Value):Prop:=
 ∀ k u,xs[k]?=some u→∃ b off,A=some ⟨b,off,none⟩∧b<B∧w.cell? ⟨b,off+k,none⟩=some u
end Go.Proofs.YtoodbfkbbchjiaaGreatDoor
namespace Go.Proofs.YtoodbfkbbchjiaaGreatDoor
open Go.RowKit
instance xtNonempty (w:World):Nonempty (Xt w):=⟨⟨w,Below.refl _ _⟩⟩
theorem zfz {w:World} {p:Addr} {v:Value} (h:w.cell? p=some v):p.block<w.heap.size:=World.block_lt_of_cell? w p h
theorem Xt.cell {w:World} (x:Xt w) {p:Addr} {v:Value} (h:w.cell? p=some v):x.1.cell? p=some v:=
 (x.2.cell (zfz h)).trans h
theorem zat {w w':World} (hb:Below w.heap.size w w') {p:Addr} {v:Value} (h:w.cell? p=some v):w'.cell? p=some v:=
 (hb.cell (zfz h)).trans h
theorem keptB {B:Nat} {w w':World} (hb:Below B w w') {p:Addr} {v:Value} (hp:p.block<B) (h:w.cell? p=some v):w'.cell? p=some v:=
 (hb.cell hp).trans h
theorem thenB {w w1 w2:World} (h1:Below w.heap.size w w1) (h2:Below w1.heap.size w1 w2):Below w.heap.size w w2:=
 h1.trans (h2.mono h1.size)
theorem za5 {P:Program} {id:Nat} {Q:Exit→Act→World→Prop} {a:Act} {w:World} {l:List Oper} (hm:P.follows .mixedOrders=true) (hB:Region.lexB .any l.toArray=true)
 (h:wpQuiet P l.toArray (fun w'=>∃ x:Xt w,w'=x.1) (fun a'=>∀ w',(∃ x:Xt w,w'=x.1)→Q .normal a' w') l a):(Code.region id l.toArray true).wp P Q a w:=
 wp_region_quiet (C:=fun w'=>∃ x:Xt w,w'=x.1) hm hB ⟨⟨w.drew,(Below.refl _ _).drew⟩,rfl⟩ (by simpa using h)
theorem Xt.calls {P:Program} {f:FuncId} {args:Array Value} {w:World} {x:Xt w} {v:Value}
 (h:Calls P f args x.1 fun e w'=>e=.returned v∧Below x.1.heap.size x.1 w'):Calls P f args x.1 fun e w''=>e=.returned v∧∃ y:Xt w,w''=y.1:=
 h.mono fun _ w' ⟨he,hm⟩=>⟨he,⟨w',thenB x.2 hm⟩,rfl⟩
theorem Xt.calls_same {P:Program} {f:FuncId} {args:Array Value} {w:World} {x:Xt w} {v:Value}
 (h:Calls P f args x.1 fun e w'=>e=.returned v∧x.1=w'):Calls P f args x.1 fun e w''=>e=.returned v∧∃ y:Xt w,w''=y.1:=
 h.mono fun _ _ ⟨he,hm⟩=>⟨he,x,hm.symm⟩
theorem Xt.below {w w':World} (h:∃ x:Xt w,w'=x.1):Below w.heap.size w w':=by
 obtain ⟨x,rfl⟩:=h;exact x.2
def za4 {α:Type} (p:α→Bool):List α→Nat→Int
 | [],_=>-1
 | a :: l,k=>if p a then k else za4 p l (k+1)
theorem zcc {α:Type} (p:α→Bool) (l:List α) (k:Nat):decide (0≤za4 p l k)=l.any p:=by
 induction l generalizing k with
 | nil=>simp [za4]
 | cons a l ih =>
  unfold za4
  by_cases h:p a=true
  · simp [h]
  · simp only [if_neg h,ih,List.any_cons]
    simp only [Bool.not_eq_true] at h
    simp [h]
theorem zfq {α:Type} (l:List α) (d:α) (k:Nat) (h:k<l.length):l.drop k=(l[k]?.getD d) :: l.drop (k+1):=by
 rw [List.drop_eq_getElem_cons h];simp [h]
theorem Rd.at_ {w:World} {B:Nat} {A:Option Addr} {xs:List Value} (h:Rd w B A xs) {k:Nat} {u:Value} (hk:xs[k]?=some u) :
 ∃ b off,A=some ⟨b,off,none⟩∧b<B∧w.cell? ⟨b,off+k,none⟩=some u:=h k u hk
theorem Rd.below {w w':World} {B:Nat} {A:Option Addr} {xs:List Value} (h:Rd w B A xs) (hb:Below B w w'):Rd w' B A xs:=fun k u hk=>by
 obtain ⟨b,off,hA,hB,hc⟩:=h k u hk
 exact ⟨b,off,hA,hB,(hb.cell (p:=⟨b,off+k,none⟩) hB).trans hc⟩
theorem Rd.keep {w w':World} {B:Nat} {A:Option Addr} {xs:List Value} (h:Rd w B A xs) (hb:Below w.heap.size w w'):Rd w' B A xs:=fun k u hk=>by
 obtain ⟨b,off,hA,hB,hc⟩:=h k u hk
 exact ⟨b,off,hA,hB,zat hb hc⟩
theorem Rd.mono {w:World} {B B':Nat} {A:Option Addr} {xs:List Value} (h:Rd w B A xs) (hB:B≤B'):Rd w B' A xs:=fun k u hk=>by
 obtain ⟨b,off,hA,hb,hc⟩:=h k u hk
 exact ⟨b,off,hA,by omega,hc⟩
end Go.Proofs.YtoodbfkbbchjiaaGreatDoor
namespace Go.Proofs.YtoodbfkbbchjiaaGreatDoor
open Go
section
variable {P:Program} {ops:Array Oper} {md:Region.Mode} {C:World→Prop}
def zav (Q:Exit→Act→World→Prop):Exit→Act→World→Prop
 | .normal,a,w=>Q .normal a w
 | _,_,_=>False
theorem zab {Q:Exit→Act→World→Prop} {a:Act} {w:World} (h:Q .normal a w):zav Q .normal a w:=h
theorem Oper_wp_only {o:Oper} {Q:Exit→Act→World→Prop} {a:Act} {w:World} {K:Act→World→Prop}
 (hh:o.wp P a w K (zav Q)):o.wp P a w K Q:=by
 unfold Oper.wp at *
 generalize (execOp a.eval o).run P w=r at *
 cases r with
 | ok n w' =>
  cases n <;> simp only [Oper.upon] at hh ⊢ <;>
   first
    | exact hh
    | exact Calls.mono hh (fun e w'' he=>by
     cases e
     · exact he
     · exact absurd he (by simp [zav])
     · obtain ⟨_,_,h⟩:=he;exact absurd h (by simp [zav]))
 | halt x w'=>cases x <;> simp only [Oper.upon] at hh ⊢ <;> first | exact hh | exact absurd hh (by simp [zav])
theorem wpOp_only {i:Nat} {Q:Exit→Act→World→Prop} {a:Act} {w:World} {K:Act→World→Prop}
 (hh:wpOp P ops (zav Q) i K a w):wpOp P ops Q i K a w:=by
 unfold wpOp at *
 split
 · simpa [*] using hh
 · rename_i o ho
   simp only [ho] at hh
   split
   · rename_i hw
     simp only [hw,if_true] at hh
     rcases hh with h | ⟨_,_,_,h⟩
     · exact .inl (Oper_wp_only h)
     · exact absurd h (by simp [zav])
   · rename_i hw;simp only [hw] at hh;exact hh
theorem zhg {Q:Exit→Act→World→Prop}:∀ (fuel:Nat) (listed:Array Bool) (a:Act) (w:World),
 wpAny P md ops (zav Q) fuel listed a w→wpAny P md ops Q fuel listed a w
 | 0,_,_,_,h=>h
 | fuel+1,_,_,_,h=>⟨h.1,fun i hi=>wpOp_mono (fun a' w' h'=>zhg fuel _ a' w' h') (wpOp_only (h.2 i hi))⟩
def zeq (md:Region.Mode) (ops:Array Oper):List Nat→Array Bool→Bool
 | [],_=>true
 | i :: is,listed=>(Region.ready md ops listed).contains i && Region.free md ops listed i && zeq md ops is (listed.setIfInBounds i true)
def zbw:List Nat→Array Bool→Array Bool
 | [],listed=>listed
 | i :: is,listed=>zbw is (listed.setIfInBounds i true)
def seqL (md:Region.Mode) (ops:Array Oper):List Nat→Array Bool→Bool
 | [],listed=>(Region.ready md ops listed).isEmpty
 | t :: ts,listed=>decide (Region.ready md ops listed=[t]) && seqL md ops ts (listed.setIfInBounds t true)
def zlx (md:Region.Mode):List Edge→Array Bool→Array Bool
 | [],m=>m
 | e :: es,m=>zlx md es (if Region.binds md e then m.setIfInBounds e.on true else m)
def marks (md:Region.Mode) (ops:Array Oper):Nat→Array Bool→Array Bool
 | 0,m=>m
 | j+1,m=>marks md ops j (if m.getD j false then (match ops[j]? with | some o=>zlx md o.after.toList m | none=>m) else m)
def zdb (md:Region.Mode) (ops:Array Oper) (listed:Array Bool):Prop:=
 listed.size=ops.size∧∀ j oj,ops[j]?=some oj→listed.getD j false=true→∀ e∈oj.after,Region.binds md e=true→listed.getD e.on false=true
theorem zcm {listed:Array Bool} {i:Nat} (h:listed.getD i true=false):listed.getD i false=false:=by
 rcases Nat.lt_or_ge i listed.size with h' | h'
 · simp [h'] at h ⊢;exact h
 · simp [Array.getElem?_eq_none h'] at h
theorem zdb.set {i:Nat} {listed:Array Bool} (inv:zdb md ops listed) (hi:i∈Region.ready md ops listed):zdb md ops (listed.setIfInBounds i true):=by
 obtain ⟨_,oi,hoi,hall⟩:=mem_ready.1 hi
 refine ⟨by simp [inv.1],fun j oj hj hl e he hb=>?_⟩
 by_cases hij:i=j
 · subst hij
   have:oj=oi:=Option.some.inj (hj.symm.trans hoi)
   subst this
   exact getD_set_true (hall e he hb)
 · rw [getD_set_ne false hij] at hl
   exact getD_set_true (inv.2 j oj hj hl e he hb)
theorem zh4 {listed:Array Bool} {t:Nat}:∀ (es:List Edge) (m:Array Bool),(∀ i,m.getD i false=true→i=t∨listed.getD i false=true) →
 (∀ e∈es,Region.binds md e=true→listed.getD e.on false=true)→∀ i,(zlx md es m).getD i false=true→i=t∨listed.getD i false=true
 | [],_,hm,_=>hm
 | e :: es,m,hm,he=>by
  unfold zlx
  refine zh4 es _ (fun i hi=>?_) (fun e' h'=>he e' (by simp [h']))
  split at hi
  · rename_i hb
    by_cases hie:e.on=i
    · exact .inr (hie ▸ he e (by simp) hb)
    · rw [getD_set_ne false hie] at hi
      exact hm i hi
  · exact hm i hi
theorem zkp {listed:Array Bool} {t:Nat} (inv:zdb md ops listed) (ht:∀ o,ops[t]?=some o→∀ e∈o.after,Region.binds md e=true→listed.getD e.on false=true) :
 ∀ (k:Nat) (m:Array Bool),(∀ i,m.getD i false=true→i=t∨listed.getD i false=true)→∀ i,(marks md ops k m).getD i false=true→i=t∨listed.getD i false=true
 | 0,_,hm=>hm
 | j+1,m,hm=>by
  unfold marks
  refine zkp inv ht j _ ?_
  split
  · rename_i hj
    split
    · rename_i o ho
      refine zh4 _ _ hm (fun e he hb=>?_)
      have he':e∈o.after:=by simpa using he
      rcases hm j hj with h | h
      · subst h;exact ht o ho e he' hb
      · exact inv.2 j o ho h e he' hb
    · exact hm
  · exact hm
def zen (md:Region.Mode) (ops:Array Oper) (t:Nat) (is:List Nat):Bool:=
 let m:=marks md ops ops.size ((Array.replicate ops.size false).setIfInBounds t true)
 is.all fun i=>m.getD i false && i != t
theorem zfe {listed:Array Bool} (inv:zdb md ops listed) {t:Nat} {is:List Nat} (hw:zen md ops t is=true) {i:Nat} (hi:i∈is) (ht:t∈Region.ready md ops listed)
 (hun:listed.getD i true=false):False:=by
 obtain ⟨_,ot,hot,hall⟩:=mem_ready.1 ht
 simp only [zen,List.all_eq_true,Bool.and_eq_true,bne_iff_ne] at hw
 obtain ⟨h1,h2⟩:=hw i hi
 have h3:=zkp inv (t:=t) (fun o ho e he hb=>by
  have:o=ot:=Option.some.inj (ho.symm.trans hot)
  subst this
  exact hall e he hb) ops.size _ (fun k hk=>by
   by_cases hkt:t=k
   · exact .inl hkt.symm
   · rw [getD_set_ne false hkt] at hk
     have:(Array.replicate ops.size false).getD k false=false:=by
      rcases Nat.lt_or_ge k ops.size with h | h
      · simp [h]
      · simp [h]
     rw [this] at hk
     cases hk) i h1
 rcases h3 with h | h
 · exact h2 h
 · rw [zcm hun] at h
   cases h
def anyQ (P:Program) (md:Region.Mode) (ops:Array Oper) (C:World→Prop) (L:Array Bool→Act→Prop):Nat→Array Bool→Act→Prop
 | 0,listed,a=>L listed a
 | f+1,listed,a=>Region.ready md ops listed≠[]∧∀ i∈Region.ready md ops listed,qOp P ops C i (anyQ P md ops C L f (listed.setIfInBounds i true)) a
theorem zgn {g:Nat} {L:Array Bool→Act→Prop} {Q:Exit→Act→World→Prop} (hL:∀ listed a,L listed a→∀ w,C w→wpAny P md ops Q g listed a w) :
 ∀ (f:Nat) (listed:Array Bool) (a:Act),anyQ P md ops C L f listed a→∀ w,C w→wpAny P md ops Q (f+g) listed a w
 | 0,listed,a,h,w,hw=>by rw [Nat.zero_add];exact hL _ _ h w hw
 | f+1,listed,a,h,w,hw=>by
  rw [show f+1+g=(f+g)+1 by omega]
  exact ⟨fun h0=>absurd h0 h.1,fun i hi=>wpOp_of_qOp hw (fun a' w' hw' h'=>zgn hL f _ a' h' w' hw') (h.2 i hi)⟩
theorem anyQ_first {i t:Nat} {hs:List Nat} {oi:Oper} {v:Value} {L:Array Bool→Act→Prop} (hi:ops[i]?=some oi) (hsel:∀ (j:Nat) (o:Oper) cs b,ops[j]?=some o→o.op≠.select cs b)
 (hL:∀ listed a,L listed a→∀ j∈Region.ready md ops listed,j=t) (hw:zen md ops t hs=true) (hih:i∈hs) :
 ∀ (f:Nat) (listed:Array Bool) (a:Act),zdb md ops listed →
  (∀ j oj,ops[j]?=some oj→j≠i→listed.getD j true=false→(∀ e∈oj.after,Region.binds md e=true→e.on≠i)→oi.apart ops oj=true) →
  i∈Region.ready md ops listed→YieldsIn P ops C oi v a →
  anyQ P md ops C L f (listed.setIfInBounds i true) (a.put oi.dst v)→anyQ P md ops C L (f+1) listed a:=by
 intro f
 induction f with
 | zero =>
  intro listed a inv _ hr hy H
  have hun:=(mem_ready.1 hr).1
  refine ⟨fun h=>(by rw [h] at hr;cases hr),fun j hj=>?_⟩
  by_cases hji:j=i
  · subst hji;exact hy.qOp hi H
  · have hjt:=hL _ _ H j (ready_mono hj hji)
    subst hjt
    exact (zfe inv hw hih hj hun).elim
 | succ f ih =>
  intro listed a inv hfree hr hy H
  have hun:=(mem_ready.1 hr).1
  refine ⟨fun h=>(by rw [h] at hr;cases hr),fun j hj=>?_⟩
  by_cases hji:j=i
  · subst hji;exact hy.qOp hi H
  · have h1:=H.2 j (ready_mono hj hji)
    obtain ⟨hjun,oj,hoj,hall⟩:=mem_ready.1 hj
    have hnot:∀ e∈oj.after,Region.binds md e=true→e.on≠i:=fun e he hb heq=>by
     have h1:=hall e he hb
     rw [heq,zcm hun] at h1
     cases h1
    have h2:=qOp_put hoj (hfree j oj hoj hji hjun hnot) (fun cs b=>hsel i oi cs b hi) (fun cs b=>hsel j oj cs b hoj) hy h1
    have hfree':∀ k ok,ops[k]?=some ok→k≠i→(listed.setIfInBounds j true).getD k true=false →
     (∀ e∈ok.after,Region.binds md e=true→e.on≠i)→oi.apart ops ok=true:=fun k ok hk hki hun hno=>by
     refine hfree k ok hk hki ?_ hno
     by_cases hjk:j=k
     · subst hjk;exact hjun
     · rw [getD_set_ne true hjk] at hun;exact hun
    refine qOp_mono (fun a' h3=>ih (listed.setIfInBounds j true) a' (inv.set hj) hfree' (ready_mono hr (Ne.symm hji)) h3.1 ?_) h2
    rw [Array.setIfInBounds_comm _ _ hji]
    exact h3.2
def ze3:Option Oper→List Oper→List Oper
 | some o,l=>o :: l
 | none,l=>l
theorem zaa (o:Oper) (l:List Oper):ze3 (some o) l=o :: l:=rfl
def zb5 (ops:Array Oper):List Nat→List Oper
 | []=>[]
 | i :: is=>ze3 ops[i]? (zb5 ops is)
theorem zad (ops:Array Oper):zb5 ops []=[]:=rfl
theorem zac (ops:Array Oper) (i:Nat) (is:List Nat):zb5 ops (i :: is)=ze3 ops[i]? (zb5 ops is):=rfl
theorem anyQ_lex {t:Nat} {hws:List Nat} {L:Array Bool→Act→Prop} {Lq:Act→Prop} (hs:Region.noSelect ops=true)
 (hL:∀ listed a,L listed a→∀ j∈Region.ready md ops listed,j=t) :
 ∀ (is:List Nat) (listed:Array Bool) (a:Act),zdb md ops listed→zeq md ops is listed=true→zen md ops t hws=true→(∀ i∈is,i∈hws) →
  (∀ a',Lq a'→L (zbw is listed) a')→wpQuiet P ops C Lq (zb5 ops is) a→anyQ P md ops C L is.length listed a
 | [],listed,a,_,_,_,_,hLq,h=>hLq a h
 | i :: is,listed,a,inv,hB,hw,hin,hLq,h=>by
  simp only [zeq,Bool.and_eq_true] at hB
  obtain ⟨⟨hr,hf⟩,hB'⟩:=hB
  have hr':i∈Region.ready md ops listed:=by simpa using hr
  obtain ⟨_,oi,hoi,_⟩:=mem_ready.1 hr'
  have hop:zb5 ops (i :: is)=oi :: zb5 ops is:=by simp [zb5,hoi,ze3]
  rw [hop] at h
  have hst:qOp P ops C i (wpQuiet P ops C Lq (zb5 ops is)) a:=by unfold qOp;simp only [hoi];exact h
  obtain ⟨v,hy,hK⟩:=yieldsIn_of_qOp hoi hst
  exact anyQ_first hoi (Region.noSelect_spec hs) hL hw (hin i (by simp)) is.length listed a inv (Region.free_spec hoi hf) hr' hy
   (anyQ_lex hs hL is _ _ (inv.set hr') hB' hw (fun k hk=>hin k (by simp [hk])) hLq hK)
theorem zkf {Q:Exit→Act→World→Prop}:∀ (ts:List Nat) (listed:Array Bool) (a:Act) (w:World),
 seqL md ops ts listed=true→wpList P ops Q (zb5 ops ts) a w→wpAny P md ops Q ts.length listed a w
 | [],_,_,_,hB,h=>⟨by simpa [seqL] using hB,h⟩
 | t :: ts,listed,a,w,hB,h=>by
  simp only [seqL,Bool.and_eq_true,decide_eq_true_eq] at hB
  refine ⟨fun h1=>(by rw [hB.1] at h1;cases h1),fun i hi=>?_⟩
  have hi':=hi
  rw [hB.1] at hi
  have hit:i=t:=by simpa using hi
  subst hit
  obtain ⟨_,oi,hoi,_⟩:=mem_ready.1 hi'
  have hop:zb5 ops (i :: ts)=oi :: zb5 ops ts:=by simp [zb5,hoi,ze3]
  rw [hop] at h
  have hw:wpOp P ops Q i (wpList P ops Q (zb5 ops ts)) a w:=by unfold wpOp;simp only [hoi];exact h
  exact wpOp_mono (fun a' w' h'=>zkf ts _ a' w' hB.2 h') hw
def wpPure (P:Program) (ops:Array Oper) (Q:Act→Prop):List Oper→Act→Prop
 | [],a=>Q a
 | o :: rest,a=>∃ v,Yields P ops o v a∧wpPure P ops Q rest (a.put o.dst v)
theorem zkg {g:Nat} {Q:Exit→Act→World→Prop} {Lq:Act→Prop} (hs:Region.noSelect ops=true) :
 ∀ (is:List Nat) (listed:Array Bool) (a:Act) (w:World),zeq md ops is listed=true →
  (∀ a',Lq a'→wpAny P md ops (zav Q) g (zbw is listed) a' w)→wpPure P ops Lq (zb5 ops is) a→wpAny P md ops (zav Q) (is.length+g) listed a w
 | [],listed,a,w,_,hL,h=>by rw [List.length_nil,Nat.zero_add];exact hL a h
 | i :: is,listed,a,w,hB,hL,h=>by
  simp only [zeq,Bool.and_eq_true] at hB
  obtain ⟨⟨hr,hf⟩,hB'⟩:=hB
  have hr':i∈Region.ready md ops listed:=by simpa using hr
  obtain ⟨_,oi,hoi,_⟩:=mem_ready.1 hr'
  have hop:zb5 ops (i :: is)=oi :: zb5 ops is:=by simp [zb5,hoi,ze3]
  rw [hop] at h
  obtain ⟨v,hy,hK⟩:=h
  rw [show (i :: is).length+g=(is.length+g)+1 by simp;omega]
  exact wpAny_first hoi (Region.noSelect_spec hs) (fun _ _ _ h=>h) _ listed a w (Region.free_spec hoi hf) hr' hy (zkg hs is _ _ w hB' hL hK)
theorem zdk (n:Nat) (h:n=ops.size):zdb md ops (Array.replicate n false):=
 ⟨by simp [h],fun j _ _ hl=>by
   have:(Array.replicate n false).getD j false=false:=by
    rcases Nat.lt_or_ge j n with h | h
    · simp [h]
    · simp [h]
   rw [this] at hl
   cases hl⟩
theorem zdf:∀ (is:List Nat) (listed:Array Bool),zdb md ops listed→zeq md ops is listed=true→zdb md ops (zbw is listed)
 | [],_,inv,_=>inv
 | i :: is,listed,inv,hB=>by
  simp only [zeq,Bool.and_eq_true] at hB
  exact zdf is _ (inv.set (by simpa using hB.1.1)) hB.2
def splitB (md:Region.Mode) (ops:Array Oper) (ps hs:List Nat) (t:Nat) (ts:List Nat):Bool:=
 Region.noSelect ops && decide (ps.length+(hs.length+(ts.length+1))=ops.size) && zeq md ops ps (Array.replicate ops.size false) &&
 zeq md ops hs (zbw ps (Array.replicate ops.size false)) && seqL md ops (t :: ts) (zbw hs (zbw ps (Array.replicate ops.size false))) &&
 zen md ops t hs
theorem zis {id:Nat} {Q:Exit→Act→World→Prop} {a:Act} {w:World} {l:List Oper} (ps hs:List Nat) (t:Nat) (ts:List Nat) (C:World→Prop)
 (hm:P.follows .mixedOrders=true) (hB:splitB .any l.toArray ps hs t ts=true) (hC:C { w with drawn:=w.drawn+1 })
 (h:wpPure P l.toArray (fun a1=>wpQuiet P l.toArray C (fun a2=>∀ w',C w'→wpList P l.toArray (zav Q) (zb5 l.toArray (t :: ts)) a2 w') (zb5 l.toArray hs) a1) (zb5 l.toArray ps) a) :
 (Code.region id l.toArray true).wp P Q a w:=by
 simp only [splitB,Bool.and_eq_true,decide_eq_true_eq] at hB
 obtain ⟨⟨⟨⟨⟨hsel,hn⟩,h1⟩,h2⟩,h3⟩,h4⟩:=hB
 have inv0:zdb .any l.toArray (Array.replicate l.toArray.size false):=zdk _ rfl
 have inv1:=zdf ps _ inv0 h1
 refine wp_region_any hm (zhg _ _ _ _ ?_)
 rw [← hn]
 refine zkg (g:=hs.length+(ts.length+1)) hsel ps _ a _ (by rw [hn];exact h1) (fun a1 ha1=>?_) h
 rw [hn]
 refine zgn (C:=C) (L:=fun listed a'=>seqL .any l.toArray (t :: ts) listed=true∧∀ w',C w'→wpList P l.toArray (zav Q) (zb5 l.toArray (t :: ts)) a' w')
  (fun listed a' hL w' hw'=>zkf (t :: ts) listed a' w' hL.1 (hL.2 w' hw')) hs.length _ a1 ?_ _ hC
 refine anyQ_lex (t:=t) (hws:=hs) hsel (fun listed a' hL j hj=>?_) hs _ a1 inv1 h2 h4 (fun i hi=>hi) (fun a' ha'=>⟨h3,ha'⟩) ha1
 have h5:=hL.1
 simp only [seqL,Bool.and_eq_true,decide_eq_true_eq] at h5
 rw [h5.1] at hj
 simpa using hj
def zew (o:Oper):Bool:=
 match o.op with
 | .move _ | .assign _ | .nilCheck _ | .fieldAddr .. | .unOp .. | .binOp .. | .extract .. | .field ..=>true
 | _=>false
theorem zd7 {s:Sem Value} {w w':World} {f:FuncId} {args:Array Value} (h:(do pure (Next.value (← s)):Sem Next).run P w=.ok (.enter f args) w'):False:=by
 rw [Sem.run_bind] at h
 cases hr:s.run P w with
 | ok v w1=>rw [hr] at h;simp [Result.andThen] at h
 | halt x w1=>rw [hr] at h;simp [Result.andThen] at h
theorem zgc {o:Oper} (hk:zew o=true) {ρ:Operand→Value} {w w':World} {f:FuncId} {args:Array Value}
 (h:(execOp ρ o).run P w=.ok (.enter f args) w'):False:=by
 obtain ⟨dst,op,type,pos,after,guard⟩:=o
 cases op <;> simp only [zew,Bool.false_eq_true] at hk <;> simp only [execOp] at h
 case move=>simp at h
 case assign=>simp at h
 case nilCheck x =>
  split at h
  · simp [runtimePanic] at h
  · simp [runtimePanic] at h
  · simp [runtimePanic] at h
  · split at h
    · simp [runtimePanic] at h
    · simp only [Sem.run_bind] at h
      generalize Sem.run P _ w=r at h
      cases r with
      | halt _ _=>simp [Result.andThen] at h
      | ok p w1 =>
       simp only [Result.andThen_ok] at h
       generalize Sem.run P (nilAhead _ _ _ _) w1=r at h
       cases r with
       | halt _ _=>simp [Result.andThen] at h
       | ok q w2 =>
        simp only [Result.andThen_ok] at h
        split at h
        · simp [unsupported] at h
        · simp at h
    · simp at h
  · simp at h
 all_goals exact zd7 h
theorem zem {s:Sem Value} {w w':World} (h:(do pure (Next.value (← s)):Sem Next).run P w=.ok .skip w'):False:=by
 rw [Sem.run_bind] at h
 cases hr:s.run P w with
 | ok v w1=>rw [hr] at h;simp [Result.andThen] at h
 | halt x w1=>rw [hr] at h;simp [Result.andThen] at h
theorem zgv {o:Oper} (hk:zew o=true) {ρ:Operand→Value} {w w':World}
 (h:(execOp ρ o).run P w=.ok .skip w'):False:=by
 obtain ⟨dst,op,type,pos,after,guard⟩:=o
 cases op <;> simp only [zew,Bool.false_eq_true] at hk <;> simp only [execOp] at h
 case move=>simp at h
 case assign=>simp at h
 case nilCheck x =>
  split at h
  · simp [runtimePanic] at h
  · simp [runtimePanic] at h
  · simp [runtimePanic] at h
  · split at h
    · simp [runtimePanic] at h
    · simp only [Sem.run_bind] at h
      generalize Sem.run P _ w=r at h
      cases r with
      | halt _ _=>simp [Result.andThen] at h
      | ok p w1 =>
       simp only [Result.andThen_ok] at h
       generalize Sem.run P (nilAhead _ _ _ _) w1=r at h
       cases r with
       | halt _ _=>simp [Result.andThen] at h
       | ok q w2 =>
        simp only [Result.andThen_ok] at h
        split at h
        · simp [unsupported] at h
        · simp at h
    · simp at h
  · simp at h
 all_goals exact zem h
theorem zdw {Q:Act→Prop}:∀ (l:List Oper) (a:Act),l.all zew=true→wpQuiet P ops (fun _=>True) Q l a→wpPure P ops Q l a
 | [],_,_,h=>h
 | o :: rest,a,hk,h=>by
  simp only [List.all_cons,Bool.and_eq_true] at hk
  unfold wpQuiet at h
  by_cases hw:Region.wanted o (yielded ops a.tmps)=true
  · rw [if_pos hw] at h
    obtain ⟨v,h1,h2⟩:=h
    refine ⟨v,.inl ⟨hw,fun w=>?_⟩,zdw rest _ hk.2 h2⟩
    have h3:=h1 w trivial
    unfold Oper.quietAt at h3
    generalize hr:(execOp a.eval o).run P w=r at h3
    cases r with
    | ok n w' =>
     cases n <;> simp only [Oper.quietUpon] at h3
     case value u=>obtain ⟨e1,e2⟩:=h3;rw [e1,e2]
     case skip=>exact (zgv hk.1 hr).elim
     case enter f args=>exact (zgc hk.1 hr).elim
    | halt x w'=>simp only [Oper.quietUpon] at h3
  · rw [if_neg hw] at h
    exact ⟨undef,.inr ⟨by simpa using hw,rfl⟩,zdw rest _ hk.2 h⟩
theorem zax {id:Nat} {Q:Exit→Act→World→Prop} {a:Act} {w:World} {l:List Oper} (ps hs:List Nat) (t:Nat) (ts:List Nat) (C:World→Prop)
 (hm:P.follows .mixedOrders=true) (hB:(splitB .any l.toArray ps hs t ts && (zb5 l.toArray ps).all zew)=true) (hC:C { w with drawn:=w.drawn+1 })
 (h:wpQuiet P l.toArray (fun _=>True) (fun a1=>wpQuiet P l.toArray C (fun a2=>∀ w',C w'→wpList P l.toArray (zav Q) (zb5 l.toArray (t :: ts)) a2 w') (zb5 l.toArray hs) a1) (zb5 l.toArray ps) a) :
 (Code.region id l.toArray true).wp P Q a w:=by
 simp only [Bool.and_eq_true] at hB
 exact zis ps hs t ts C hm hB.1 hC (zdw _ _ hB.2 h)
end
end Go.Proofs.YtoodbfkbbchjiaaGreatDoor
namespace Go.Proofs.YtoodbfkbbchjiaaGreatDoor
open Go.RowKit
section
variable {w w':World}
theorem zaf {base e size n:Nat} {v:Value} {xs:List Value} (h:w.ownsRow base e size v n xs) (hb:Below w.heap.size w w'):w'.ownsRow base e size v n xs:=by
 refine ⟨h.1,?_⟩
 rcases h.2 with h2 | ⟨g,cap,cur,hv,hg,hh,r⟩
 · exact .inl h2
 · exact .inr ⟨g,cap,cur,hv,hg,(hb.block g (Array.getElem?_eq_some_iff.1 hh).1).trans hh,r⟩
end
end Go.Proofs.YtoodbfkbbchjiaaGreatDoor
namespace Go.Proofs.YtoodbfkbbchjiaaGreatDoor
open Go.RowKit
section
variable {w w':World}
end
end Go.Proofs.YtoodbfkbbchjiaaGreatDoor
namespace Go.Proofs.YtoodbfkbbchjiaaGreatDoor
open Go.RowKit
def objSet (i:Nat) (v:Value):Obj→Obj
 | .cells c e f=>.cells (c.setIfInBounds i v) e f
 | o=>o
theorem zae (w:World) (o:Obj) (k:Nat):(w.alloc o).heap[k]?=if k=w.heap.size then some o else w.heap[k]?:=by
 show (w.heap.push o)[k]?=_
 rw [Array.getElem?_push]
theorem zd6 (w:World) (b i:Nat) (v:Value) (k:Nat):(w.setCell ⟨b,i,none⟩ v).heap[k]?=if k=b then (w.heap[k]?).map (objSet i v) else w.heap[k]?:=by
 simp only [World.setCell,Array.getElem?_modify]
 by_cases h:k=b
 · subst h
   simp
   cases w.heap[k]? with
   | none=>rfl
   | some o=>cases o <;> rfl
 · rw [if_neg (fun e=>h e.symm),if_neg h]
end Go.Proofs.YtoodbfkbbchjiaaGreatDoor
namespace Go.Proofs.YtoodbfkbbchjiaaGreatDoor
open Go.RowKit
end Go.Proofs.YtoodbfkbbchjiaaGreatDoor
namespace Go.Proofs.YtoodbfkbbchjiaaGreatDoor
open Go
section
variable {P:Program} {ops:Array Oper} {md:Region.Mode} {S:World→Prop} {ts:List Nat} {Q:Exit→Act→World→Prop}
def zhv (P:Program) (md:Region.Mode) (ops:Array Oper) (Q:Exit→Act→World→Prop) (S:World→Prop) (ts:List Nat):Nat→Array Bool→Act→World→Prop
 | 0,listed,a,w=>Region.ready md ops listed=[]∧Q .normal a w
 | fuel+1,listed,a,w =>
  (Region.ready md ops listed=[]→Q .normal a w) ∧
  ∀ i∈Region.ready md ops listed,wpOp P ops Q i (fun a' w'=>(ts.contains i=false→S w')∧zhv P md ops Q S ts fuel (listed.setIfInBounds i true) a' w') a w
theorem zhh:∀ (fuel:Nat) (listed:Array Bool) (a:Act) (w:World),zhv P md ops Q S ts fuel listed a w→wpAny P md ops Q fuel listed a w
 | 0,_,_,_,h=>h
 | fuel+1,_,_,_,h=>⟨h.1,fun i hi=>wpOp_mono (fun a' w' h'=>zhh fuel _ a' w' h'.2) (h.2 i hi)⟩
theorem wpAnyL_first {i:Nat} {oi:Oper} {v:Value} (hi:ops[i]?=some oi) (hsel:∀ (j:Nat) (o:Oper) cs b,ops[j]?=some o→o.op≠.select cs b)
 (hQ:∀ c a w,Q (.panic c) (a.put oi.dst v) w→Q (.panic c) a w) (hT:∀ t,ts.contains t=true→zen md ops t [i]=true) :
 ∀ (fuel:Nat) (listed:Array Bool) (a:Act) (w:World),zdb md ops listed →
  (∀ j oj,ops[j]?=some oj→j≠i→listed.getD j true=false→(∀ e∈oj.after,Region.binds md e=true→e.on≠i)→oi.apart ops oj=true) →
  i∈Region.ready md ops listed→YieldsIf P ops S oi v a→S w →
  zhv P md ops Q S ts fuel (listed.setIfInBounds i true) (a.put oi.dst v) w→zhv P md ops Q S ts (fuel+1) listed a w:=by
 intro fuel
 induction fuel with
 | zero =>
  intro listed a w _ _ hr hy hS H
  refine ⟨fun h=>(by rw [h] at hr;cases hr),fun j hj=>?_⟩
  by_cases hji:j=i
  · subst hji;exact hy.wpOp hi hS ⟨fun _=>hS,H⟩
  · have:=ready_mono hj hji
    rw [H.1] at this
    cases this
 | succ fuel ih =>
  intro listed a w inv hfree hr hy hS H
  have hun:=(mem_ready.1 hr).1
  refine ⟨fun h=>(by rw [h] at hr;cases hr),fun j hj=>?_⟩
  by_cases hji:j=i
  · subst hji;exact hy.wpOp hi hS ⟨fun _=>hS,H⟩
  · have h1:=H.2 j (ready_mono hj hji)
    obtain ⟨hjun,oj,hoj,hall⟩:=mem_ready.1 hj
    have hnot:∀ e∈oj.after,Region.binds md e=true→e.on≠i:=fun e he hb heq=>by
     have h1:=hall e he hb
     rw [heq,zcm hun] at h1
     cases h1
    have h2:=wpOp_putIf hoj (hfree j oj hoj hji hjun hnot) (fun cs b=>hsel i oi cs b hi) (fun cs b=>hsel j oj cs b hoj) hQ hy h1
    have hTj:ts.contains j=false:=by
     cases ht:ts.contains j with
     | false=>rfl
     | true=>exact (zfe inv (hT j ht) (i:=i) (by simp) hj hun).elim
    have hfree':∀ k ok,ops[k]?=some ok→k≠i→(listed.setIfInBounds j true).getD k true=false →
     (∀ e∈ok.after,Region.binds md e=true→e.on≠i)→oi.apart ops ok=true:=fun k ok hk hki hun hno=>by
     refine hfree k ok hk hki ?_ hno
     by_cases hjk:j=k
     · subst hjk;exact hjun
     · rw [getD_set_ne true hjk] at hun;exact hun
    refine wpOp_mono (fun a' w' h3=>⟨h3.2.1,ih (listed.setIfInBounds j true) a' w' (inv.set hj) hfree' (ready_mono hr (Ne.symm hji)) h3.1 (h3.2.1 hTj) ?_⟩) h2
    rw [Array.setIfInBounds_comm _ _ hji]
    exact h3.2.2
def wpIf (P:Program) (ops:Array Oper) (S:World→Prop) (K:Act→Prop):List Oper→Act→Prop
 | [],a=>K a
 | o :: rest,a=>∃ v,YieldsIf P ops S o v a∧wpIf P ops S K rest (a.put o.dst v)
theorem zfd {g:Nat} {w:World} {K:Act→Prop} (hsel:Region.noSelect ops=true) (hS:S w) :
 ∀ (is:List Nat) (listed:Array Bool) (a:Act),zdb md ops listed→zeq md ops is listed=true→(∀ t,ts.contains t=true→∀ i∈is,zen md ops t [i]=true) →
  (∀ a',K a'→zhv P md ops (zav Q) S ts g (zbw is listed) a' w)→wpIf P ops S K (zb5 ops is) a→zhv P md ops (zav Q) S ts (is.length+g) listed a w
 | [],listed,a,_,_,_,hL,h=>by rw [List.length_nil,Nat.zero_add];exact hL a h
 | i :: is,listed,a,inv,hB,hT,hL,h=>by
  simp only [zeq,Bool.and_eq_true] at hB
  obtain ⟨⟨hr,hf⟩,hB'⟩:=hB
  have hr':i∈Region.ready md ops listed:=by simpa using hr
  obtain ⟨_,oi,hoi,_⟩:=mem_ready.1 hr'
  have hop:zb5 ops (i :: is)=oi :: zb5 ops is:=by simp [zb5,hoi,ze3]
  rw [hop] at h
  obtain ⟨v,hy,hK⟩:=h
  rw [show (i :: is).length+g=(is.length+g)+1 by simp;omega]
  exact wpAnyL_first hoi (Region.noSelect_spec hsel) (fun _ _ _ h=>h) (fun t ht=>hT t ht i (by simp)) _ listed a w inv (Region.free_spec hoi hf) hr' hy hS
   (zfd hsel hS is _ _ (inv.set hr') hB' (fun t ht k hk=>hT t ht k (by simp [hk])) hL hK)
theorem zie {o:Oper} {Q1 Q2:Exit→Act→World→Prop} {a:Act} {w:World} {K:Act→World→Prop}
 (hh:o.wp P a w K (zav Q1)):o.wp P a w K (zav Q2):=by
 unfold Oper.wp at *
 generalize (execOp a.eval o).run P w=r at *
 cases r with
 | ok n w' =>
  cases n <;> simp only [Oper.upon] at hh ⊢ <;>
   first
    | exact hh
    | exact Calls.mono hh (fun e w'' he=>by
     cases e
     · exact he
     · exact absurd he (by simp [zav])
     · obtain ⟨_,_,h⟩:=he;exact absurd h (by simp [zav]))
 | halt x w'=>cases x <;> simp only [Oper.upon] at hh ⊢ <;> first | exact hh | exact absurd hh (by simp [zav])
def zar (P:Program) (ops:Array Oper) (K:Act→World→Prop) (i:Nat) (a:Act) (w:World):Prop:=
 wpList P ops (zav fun _ a' w'=>K a' w') (zb5 ops [i]) a w
theorem wpOp_of_mid {i:Nat} {K:Act→World→Prop} {a:Act} {w:World} {oi:Oper} (hoi:ops[i]?=some oi) (h:zar P ops K i a w):wpOp P ops (zav Q) i K a w:=by
 unfold zar at h
 have hop:zb5 ops [i]=[oi]:=by simp [zb5,hoi,ze3]
 rw [hop] at h
 unfold wpOp
 simp only [hoi]
 unfold wpList at h
 split
 · rename_i hw
   rw [if_pos hw] at h
   rcases h with h | ⟨_,_,_,h⟩
   · exact .inl (zie (Oper.wp_mono (fun a w h=>h) h))
   · exact absurd h (by simp [zav])
 · rename_i hw
   rw [if_neg hw] at h
   exact h
theorem wpList_L:∀ (us:List Nat) (listed:Array Bool) (a:Act) (w:World),(∀ u∈us,ts.contains u=true) →
 seqL md ops us listed=true→wpList P ops (zav Q) (zb5 ops us) a w→zhv P md ops (zav Q) S ts us.length listed a w
 | [],_,_,_,_,hB,h=>⟨by simpa [seqL] using hB,h⟩
 | t :: us,listed,a,w,hu,hB,h=>by
  simp only [seqL,Bool.and_eq_true,decide_eq_true_eq] at hB
  refine ⟨fun h1=>(by rw [hB.1] at h1;cases h1),fun i hi=>?_⟩
  have hi':=hi
  rw [hB.1] at hi
  have hit:i=t:=by simpa using hi
  subst hit
  obtain ⟨_,oi,hoi,_⟩:=mem_ready.1 hi'
  have hop:zb5 ops (i :: us)=oi :: zb5 ops us:=by simp [zb5,hoi,ze3]
  rw [hop] at h
  have hw:wpOp P ops (zav Q) i (wpList P ops (zav Q) (zb5 ops us)) a w:=by unfold wpOp;simp only [hoi];exact h
  refine wpOp_mono (fun a' w' h'=>⟨fun hf=>?_,wpList_L us _ a' w' (fun u hu'=>hu u (by simp [hu'])) hB.2 h'⟩) hw
  rw [hu i (by simp)] at hf
  cases hf
def zgu (o:Oper):Bool:=
 match o.op with
 | .load .. | .indexAddr ..=>true
 | _=>zew o
theorem zdm {K:Act→Prop}:∀ (l:List Oper) (a:Act),l.all zgu=true→wpQuiet P ops S K l a→wpIf P ops S K l a
 | [],_,_,h=>h
 | o :: rest,a,hk,h=>by
  simp only [List.all_cons,Bool.and_eq_true] at hk
  unfold wpQuiet at h
  by_cases hw:Region.wanted o (yielded ops a.tmps)=true
  · rw [if_pos hw] at h
    obtain ⟨v,h1,h2⟩:=h
    refine ⟨v,.inl ⟨hw,fun w hS=>?_⟩,zdm rest _ hk.2 h2⟩
    have h3:=h1 w hS
    unfold Oper.quietAt at h3
    have hno:(∀ w',(execOp a.eval o).run P w≠.ok .skip w')∧∀ f args w',(execOp a.eval o).run P w≠.ok (.enter f args) w':=by
     have hk1:=hk.1
     unfold zgu at hk1
     obtain ⟨dst,op,type,pos,after,guard⟩:=o
     cases op
     case load=>exact ⟨fun _ h=>zem h,fun _ _ _ h=>zd7 h⟩
     case indexAddr=>exact ⟨fun _ h=>zem h,fun _ _ _ h=>zd7 h⟩
     all_goals exact ⟨fun _ h=>zgv hk1 h,fun _ _ _ h=>zgc hk1 h⟩
    generalize hr:(execOp a.eval o).run P w=r at h3 hno
    cases r with
    | ok n w' =>
     cases n <;> simp only [Oper.quietUpon] at h3
     case value u=>obtain ⟨e1,e2⟩:=h3;rw [e1,e2]
     case skip=>exact (hno.1 w' rfl).elim
     case enter f args=>exact (hno.2 f args w' rfl).elim
    | halt x w'=>simp only [Oper.quietUpon] at h3
  · rw [if_neg hw] at h
    exact ⟨undef,.inr ⟨by simpa using hw,rfl⟩,zdm rest _ hk.2 h⟩
end
end Go.Proofs.YtoodbfkbbchjiaaGreatDoor
namespace Go.Proofs.YtoodbfkbbchjiaaGreatDoor
open Go.RowKit
theorem zbi {w:World} {B e size n k:Nat} {v:Value} {xs:List Value} (h:w.ownsRow B e size v n xs) (hk:v.ownBlock=some k):B≤k∧k<w.heap.size∧∃ cur,w.heap[k]?=some (.cells cur e (0,0)):=by
 rcases h.2 with ⟨rfl,_⟩ | ⟨g,cap,cur,rfl,h1,h2,_⟩
 · simp [Value.ownBlock] at hk
 · simp [Value.ownBlock] at hk
   subst hk
   exact ⟨h1,lt_of_block h2,cur,h2⟩
theorem zh3 {w w':World} {B e size n:Nat} {v:Value} {xs:List Value} (h:w.ownsRow B e size v n xs) (hk:∀ k,v.ownBlock=some k→w'.heap[k]?=w.heap[k]?):w'.ownsRow B e size v n xs:=by
 refine ⟨h.1,h.2.imp id ?_⟩
 rintro ⟨g,cap,cur,rfl,h1,h2,r⟩
 exact ⟨g,cap,cur,rfl,h1,by rw [hk g rfl];exact h2,r⟩
theorem zcn {w:World} {B e size n:Nat} {v:Value} {xs:List Value} (h:w.ownsRow B e size v n xs):∃ A cap,v=.slice A n cap:=by
 rcases h.2 with ⟨rfl,rfl⟩ | ⟨g,cap,cur,rfl,_⟩
 · exact ⟨none,0,rfl⟩
 · exact ⟨some ⟨g,0,none⟩,cap,rfl⟩
def Stp (p:Prop):Prop:=p
theorem stp {p:Prop} (h:Stp p):p:=h
end Go.Proofs.YtoodbfkbbchjiaaGreatDoor
namespace Go.Proofs.YtoodbfkbbchjiaaGreatDoor
open Go.RowKit
theorem stp_copy {P:Program} {ops:Array Oper} {Q:Exit→Act→World→Prop} {rest:List Oper} {a:Act} {w:World} {d:Option Tmp} {x:Array Operand} {y:Array TypeId} {ty:TypeId} {pos:String} {af:Array Edge}
 (h:Stp (wpList P ops Q (⟨d,.call { callee:=.builtin .copy,args:=x,argTypes:=y },ty,pos,af,none⟩ :: rest) a w)) :
 wpList P ops Q (⟨d,.call { callee:=.builtin .copy,args:=x,argTypes:=y },ty,pos,af,none⟩ :: rest) a w:=h
end Go.Proofs.YtoodbfkbbchjiaaGreatDoor
namespace Go.Proofs.YtoodbfkbbchjiaaGreatDoor
open Go.RowKit
end Go.Proofs.YtoodbfkbbchjiaaGreatDoor
namespace Go.Proofs.YtoodbfkbbchjiaaGreatDoor
open Go.RowKit
theorem least_ex {p:Nat→Prop} (h:∃ n,p n):∃ n,p n∧∀ m,p m→n≤m:=by
 obtain ⟨n,hn⟩:=h
 induction n using Nat.strongRecOn with
 | _ n ih =>
  by_cases hm:∃ m,m<n∧p m
  · obtain ⟨m,hm,hp⟩:=hm
    exact ih m hm hp
  · exact ⟨n,hn,fun m hp=>by
     rcases Nat.lt_or_ge m n with h | h
     · exact absurd ⟨m,h,hp⟩ hm
     · exact h⟩
noncomputable def least (p:Nat→Prop):Nat:=@dite Nat (∃ n,p n) (Classical.propDecidable _) (fun h=>Classical.choose (least_ex h)) (fun _=>0)
end Go.Proofs.YtoodbfkbbchjiaaGreatDoor
namespace Go.Proofs.YtoodbfkbbchjiaaGreatDoor
open Go.RowKit
end Go.Proofs.YtoodbfkbbchjiaaGreatDoor
namespace Go.Proofs.YtoodbfkbbchjiaaGreatDoor
open Go.RowKit
theorem zbq {w:World} {g:Nat} {cs:Array Value} {t:TypeId} {fr:Nat × Nat} (h:w.heap[g]?=some (.cells cs t fr)):Rd w w.heap.size (some ⟨g,0,none⟩) cs.toList:=fun k u hk=>by
 refine ⟨g,0,rfl,lt_of_block h,?_⟩
 rw [cell_of_row w g (0+k) _ _ _ h,Nat.zero_add]
 simpa using hk
end Go.Proofs.YtoodbfkbbchjiaaGreatDoor
namespace Go.Proofs.YtoodbfkbbchjiaaGreatDoor
open Go
section
variable {P:Program} {ops:Array Oper} {md:Region.Mode} {S:World→Prop} {ts:List Nat} {Q:Exit→Act→World→Prop}
def wpE (P:Program) (md:Region.Mode) (ops:Array Oper) (Q:Exit→Act→World→Prop) (S:World→Prop) (ts:List Nat) (n:Nat) (listed:Array Bool) (a:Act) (w:World):Prop:=
 zdb md ops listed→S w→zhv P md ops (zav Q) S ts n listed a w
theorem zak {id:Nat} {a:Act} {w:World} {l:List Oper} (ts:List Nat) (S:World→Prop) (hm:P.follows .mixedOrders=true) (hS:S { w with drawn:=w.drawn+1 })
 (h:wpE P .any l.toArray Q S ts l.toArray.size (Array.replicate l.toArray.size false) a { w with drawn:=w.drawn+1 }):(Code.region id l.toArray true).wp P Q a w:=
 wp_region_any hm (zhg _ _ _ _ (zhh _ _ _ _ (h (zdk _ rfl) hS)))
theorem zdx {m:Nat} {listed:Array Bool} {a:Act} {w:World} (is:List Nat) (g:Nat) (hn:m=is.length+g)
 (hB:(Region.noSelect ops && zeq md ops is listed && (ts.all fun t=>zen md ops t is) && (zb5 ops is).all zgu)=true)
 (h:wpQuiet P ops S (fun a'=>wpE P md ops Q S ts g (zbw is listed) a' w) (zb5 ops is) a):wpE P md ops Q S ts m listed a w:=by
 intro inv hS
 simp only [Bool.and_eq_true] at hB
 obtain ⟨⟨⟨hsel,h1⟩,h2⟩,h4⟩:=hB
 rw [hn]
 refine zfd hsel hS is _ a inv h1 (fun t ht i hi=>?_) (fun a' ha'=>ha' (zdf is _ inv h1) hS) (zdm _ _ h4 h)
 have h6:=List.all_eq_true.1 h2 t (by simpa using ht)
 simp only [zen,List.all_eq_true] at h6 ⊢
 intro j hj
 have:j=i:=by simpa using hj
 subst this
 exact h6 j hi
theorem zke {i:Nat} {K K':Act→World→Prop} {a:Act} {w:World} (hK:∀ a w,K a w→K' a w) (h:zar P ops K i a w):zar P ops K' i a w:=by
 have hm:∀ (l:List Oper) (a:Act) (w:World),wpList P ops (zav fun _ a' w'=>K a' w') l a w→wpList P ops (zav fun _ a' w'=>K' a' w') l a w:=by
  intro l
  induction l with
  | nil=>intro a w h;exact hK _ _ h
  | cons o l ih =>
   intro a w h
   unfold wpList at h ⊢
   split
   · rename_i hw
     rw [if_pos hw] at h
     rcases h with h | ⟨_,_,_,h⟩
     · exact .inl (zie (Oper.wp_mono (fun a w h=>ih a w h) h))
     · exact absurd h (by simp [zav])
   · rename_i hw
     rw [if_neg hw] at h
     exact ih _ _ h
 exact hm _ a w h
theorem zk8 {n:Nat} {listed:Array Bool} {a:Act} {w:World} (hB:(!(Region.ready md ops listed).isEmpty && (Region.ready md ops listed).all fun i=>!ts.contains i)=true)
 (h:∀ i∈Region.ready md ops listed,zar P ops (fun a' w'=>S w'∧wpE P md ops Q S ts n (listed.setIfInBounds i true) a' w') i a w):wpE P md ops Q S ts (n+1) listed a w:=by
 intro inv hS
 simp only [Bool.and_eq_true,Bool.not_eq_true',List.all_eq_true] at hB
 refine ⟨fun h0=>?_,fun i hi=>?_⟩
 · rw [h0] at hB
   simp at hB
 · obtain ⟨_,oi,hoi,_⟩:=mem_ready.1 hi
   exact wpOp_of_mid hoi (zke (fun a' w' h2=>⟨fun _=>h2.1,h2.2 (inv.set hi) h2.1⟩) (h i hi))
theorem zan {m n i:Nat} {listed:Array Bool} {a:Act} {w:World} (hn:m=n+1) (hr:Region.ready md ops listed=[i]) (ht:ts.contains i=false)
 (h:zar P ops (fun a' w'=>S w'∧wpE P md ops Q S ts n (listed.setIfInBounds i true) a' w') i a w):wpE P md ops Q S ts m listed a w:=by
 subst hn
 refine zk8 (by rw [hr];simp only [List.isEmpty_cons,List.all_cons,List.all_nil,ht];rfl) (fun j hj=>?_)
 rw [hr] at hj
 have:j=i:=by simpa using hj
 subst this
 exact h
theorem zk7 {m n i k:Nat} {listed:Array Bool} {a:Act} {w:World} (hn:m=n+1) (hr:Region.ready md ops listed=[i,k]) (ht:ts.contains i=false) (ht':ts.contains k=false)
 (h:zar P ops (fun a' w'=>S w'∧wpE P md ops Q S ts n (listed.setIfInBounds i true) a' w') i a w)
 (h':zar P ops (fun a' w'=>S w'∧wpE P md ops Q S ts n (listed.setIfInBounds k true) a' w') k a w):wpE P md ops Q S ts m listed a w:=by
 subst hn
 refine zk8 (by rw [hr];simp only [List.isEmpty_cons,List.all_cons,List.all_nil,ht,ht'];rfl) (fun j hj=>?_)
 rw [hr] at hj
 have:j=i∨j=k:=by simpa using hj
 rcases this with rfl | rfl
 · exact h
 · exact h'
theorem zau {m:Nat} {listed:Array Bool} {a:Act} {w:World} (hn:m=ts.length) (hB:seqL md ops ts listed=true) (h:wpList P ops (zav Q) (zb5 ops ts) a w):wpE P md ops Q S ts m listed a w:=by
 intro _ _
 rw [hn]
 exact wpList_L ts listed a w (fun u hu=>by simpa using hu) hB h
end
end Go.Proofs.YtoodbfkbbchjiaaGreatDoor
namespace Go.Proofs.YtoodbfkbbchjiaaGreatDoor
open Go
section
variable {P:Program} {ops:Array Oper} {md:Region.Mode} {S:World→Prop} {ts:List Nat} {Q:Exit→Act→World→Prop}
def zgt (o:Oper):Bool:=
 match o.op with
 | .pick ..=>true
 | _=>zgu o
theorem zcy {K:Act→Prop}:∀ (l:List Oper) (a:Act),l.all zgt=true→wpQuiet P ops S K l a→wpIf P ops S K l a
 | [],_,_,h=>h
 | o :: rest,a,hk,h=>by
  simp only [List.all_cons,Bool.and_eq_true] at hk
  by_cases hr:zgu o=true
  · have h1:wpQuiet P ops S (fun a'=>wpIf P ops S K rest a') [o] a:=by
     unfold wpQuiet at h ⊢
     split
     · rename_i hw
       rw [if_pos hw] at h
       obtain ⟨v,h1,h2⟩:=h
       exact ⟨v,h1,by unfold wpQuiet;exact zcy rest _ hk.2 h2⟩
     · rename_i hw
       rw [if_neg hw] at h
       unfold wpQuiet
       exact zcy rest _ hk.2 h
    exact zdm [o] a (by simp [hr]) h1
  · have hp:∃ c x y,o.op=.pick c x y:=by
     have hk1:=hk.1
     unfold zgt at hk1
     split at hk1
     · rename_i c x y hop
       exact ⟨c,x,y,hop⟩
     · exact absurd hk1 hr
    obtain ⟨c,x,y,hop⟩:=hp
    unfold wpQuiet at h
    by_cases hw:Region.wanted o (yielded ops a.tmps)=true
    · rw [if_pos hw] at h
      obtain ⟨v,h1,h2⟩:=h
      refine ⟨v,.inl ⟨hw,fun w hS=>?_⟩,zcy rest _ hk.2 h2⟩
      have h3:=h1 w hS
      unfold Oper.quietAt at h3
      have hno:(∀ w',(execOp a.eval o).run P w≠.ok .skip w')∧∀ f args w',(execOp a.eval o).run P w≠.ok (.enter f args) w':=by
       obtain ⟨dst,op,type,pos,after,guard⟩:=o
       obtain rfl:op=.pick c x y:=hop
       have key:∀ n w',(execOp a.eval ⟨dst,.pick c x y,type,pos,after,guard⟩).run P w=.ok n w'→∃ v,n=.value v:=by
        intro n w' h
        simp only [execOp] at h
        rw [Sem.run_bind] at h
        cases hb:(asBool (a.eval c)).run P w with
        | halt z w1=>rw [hb] at h;simp [Result.andThen] at h
        | ok b w1 =>
         rw [hb] at h
         simp [Result.andThen] at h
         exact ⟨_,h.1.symm⟩
       exact ⟨fun w' h=>(by obtain ⟨v,hv⟩:=key _ _ h;cases hv),fun f args w' h=>(by obtain ⟨v,hv⟩:=key _ _ h;cases hv)⟩
      generalize hr:(execOp a.eval o).run P w=r at h3 hno
      cases r with
      | ok n w' =>
       cases n <;> simp only [Oper.quietUpon] at h3
       case value u=>obtain ⟨e1,e2⟩:=h3;rw [e1,e2]
       case skip=>exact (hno.1 w' rfl).elim
       case enter f args=>exact (hno.2 f args w' rfl).elim
      | halt x w'=>simp only [Oper.quietUpon] at h3
    · rw [if_neg hw] at h
      exact ⟨undef,.inr ⟨by simpa using hw,rfl⟩,zcy rest _ hk.2 h⟩
end
end Go.Proofs.YtoodbfkbbchjiaaGreatDoor
namespace Go.Proofs.YtoodbfkbbchjiaaGreatDoor
open Go
section
variable {P:Program} {ops:Array Oper} {md:Region.Mode} {S:World→Prop} {ts:List Nat} {Q:Exit→Act→World→Prop}
def zi2 (o:Oper):Bool:=
 match o.op with
 | .call ⟨.builtin .len,_,_⟩=>true
 | _=>zgt o
theorem zcx {K:Act→Prop}:∀ (l:List Oper) (a:Act),l.all zi2=true→wpQuiet P ops S K l a→wpIf P ops S K l a
 | [],_,_,h=>h
 | o :: rest,a,hk,h=>by
  simp only [List.all_cons,Bool.and_eq_true] at hk
  by_cases hr:zgt o=true
  · have h1:wpQuiet P ops S (fun a'=>wpIf P ops S K rest a') [o] a:=by
     unfold wpQuiet at h ⊢
     split
     · rename_i hw
       rw [if_pos hw] at h
       obtain ⟨v,h1,h2⟩:=h
       exact ⟨v,h1,by unfold wpQuiet;exact zcx rest _ hk.2 h2⟩
     · rename_i hw
       rw [if_neg hw] at h
       unfold wpQuiet
       exact zcx rest _ hk.2 h
    exact zcy [o] a (by simp [hr]) h1
  · have hp:∃ x y,o.op=.call ⟨.builtin .len,x,y⟩:=by
     have hk1:=hk.1
     unfold zi2 at hk1
     split at hk1
     · rename_i x y hop
       exact ⟨x,y,hop⟩
     · exact absurd hk1 hr
    obtain ⟨x,y,hop⟩:=hp
    unfold wpQuiet at h
    by_cases hw:Region.wanted o (yielded ops a.tmps)=true
    · rw [if_pos hw] at h
      obtain ⟨v,h1,h2⟩:=h
      refine ⟨v,.inl ⟨hw,fun w hS=>?_⟩,zcx rest _ hk.2 h2⟩
      have h3:=h1 w hS
      unfold Oper.quietAt at h3
      have hno:(∀ w',(execOp a.eval o).run P w≠.ok .skip w')∧∀ f args w',(execOp a.eval o).run P w≠.ok (.enter f args) w':=by
       obtain ⟨dst,op,type,pos,after,guard⟩:=o
       obtain rfl:op=.call ⟨.builtin .len,x,y⟩:=hop
       have key:∀ n w',(execOp a.eval ⟨dst,.call ⟨.builtin .len,x,y⟩,type,pos,after,guard⟩).run P w=.ok n w'→∃ v,n=.value v:=by
        intro n w' h
        simp only [execOp,resolve,invoke,builtin] at h
        simp only [Sem.run_bind,Sem.run_pure,Result.andThen] at h
        split at h
        · simp at h
          exact ⟨_,h.1.symm⟩
        · simp at h
       exact ⟨fun w' h=>(by obtain ⟨v,hv⟩:=key _ _ h;cases hv),fun f args w' h=>(by obtain ⟨v,hv⟩:=key _ _ h;cases hv)⟩
      generalize hr:(execOp a.eval o).run P w=r at h3 hno
      cases r with
      | ok n w' =>
       cases n <;> simp only [Oper.quietUpon] at h3
       case value u=>obtain ⟨e1,e2⟩:=h3;rw [e1,e2]
       case skip=>exact (hno.1 w' rfl).elim
       case enter f args=>exact (hno.2 f args w' rfl).elim
      | halt x w'=>simp only [Oper.quietUpon] at h3
    · rw [if_neg hw] at h
      exact ⟨undef,.inr ⟨by simpa using hw,rfl⟩,zcx rest _ hk.2 h⟩
theorem zao {m:Nat} {listed:Array Bool} {a:Act} {w:World} (is:List Nat) (g:Nat) (hn:m=is.length+g)
 (hB:(Region.noSelect ops && zeq md ops is listed && (ts.all fun t=>zen md ops t is) && (zb5 ops is).all zi2)=true)
 (h:wpQuiet P ops S (fun a'=>wpE P md ops Q S ts g (zbw is listed) a' w) (zb5 ops is) a):wpE P md ops Q S ts m listed a w:=by
 intro inv hS
 simp only [Bool.and_eq_true] at hB
 obtain ⟨⟨⟨hsel,h1⟩,h2⟩,h4⟩:=hB
 rw [hn]
 refine zfd hsel hS is _ a inv h1 (fun t ht i hi=>?_) (fun a' ha'=>ha' (zdf is _ inv h1) hS) (zcx _ _ h4 h)
 have h6:=List.all_eq_true.1 h2 t (by simpa using ht)
 simp only [zen,List.all_eq_true] at h6 ⊢
 intro j hj
 have:j=i:=by simpa using hj
 subst this
 exact h6 j hi
end
end Go.Proofs.YtoodbfkbbchjiaaGreatDoor
namespace Go.Proofs.YtoodbfkbbchjiaaGreatDoor
open Go
section
variable {P:Program} {ops:Array Oper} {md:Region.Mode} {S:World→Prop} {ts:List Nat} {Q:Exit→Act→World→Prop}
end
end Go.Proofs.YtoodbfkbbchjiaaGreatDoor
namespace Go.Proofs.YtoodbfkbbchjiaaGreatDoor
open Go.RowKit
theorem za6 (w:World) {ops:Array Oper} {rest:List Oper} {o:Oper} {a:Act} {Q:Exit→Act→World→Prop} (hgd:o.guard=none) (s x:Operand) (t:TypeId)
 (ho:o.op=.call { callee:=.builtin .append,args:=#[s,x],argTypes:=#[t,t] })
 (base:Nat) (e:TypeId) (i:TypeInfo) (z:Value) (size bytes:Nat) (ht:Tryz.prog.underlying t=some (.slice e)) (hi:Tryz.prog.info? e=some i) (hz:i.zero=some z)
 (hsize:i.size=size) (hby:i.bytes=bytes) (hzs:z.cells.size=size) (hsz:0<size)
 (g0:Nat) (hs:a.eval s=.slice (some ⟨g0,0,none⟩) 0 0) (hg0:w.heap[g0]?=some (.cells #[] e (0,0))) (hb0:base≤g0)
 (B:Nat) (A:Option Addr) (m c:Nat) (news:List Value) (hx:a.eval x=.slice A m c) (hl:news.length=m * size) (hrd:Rd w B A news) (h1:∀ u∈news,u.oneCell'=true)
 (h63:m≤maxLen) (hbytes:m * bytes≤140737488355328) (hbase:base≤w.heap.size)
 (h:∀ g cap w',w'.ownsRow base e size (.slice (some ⟨g,0,none⟩) m cap) m news→w.grownBy w' (some g0)→(g0=g∨g=w.heap.size)→wpList Tryz.prog ops Q rest (a.put o.dst (.slice (some ⟨g,0,none⟩) m cap)) w'):wpList Tryz.prog ops Q (o :: rest) a w:=by
 have hown:w.ownsRow base e size (.slice (some ⟨g0,0,none⟩) 0 0) 0 []:=⟨by simp,.inr ⟨g0,0,#[],rfl,hb0,hg0,Nat.le_refl _,by simp [maxLen],by simp,by simp⟩⟩
 rcases Nat.eq_zero_or_pos m with rfl | hm
 · have hn:news=[]:=by simpa using hl
   subst hn
   refine wpList_plain hgd fun K hK'=>?_
   have hr:=run_append_nothing (P:=Tryz.prog) w t t o.type e i ht hi (some ⟨g0,0,none⟩) 0 0 (Nat.le_refl _) (.slice A 0 c) ?_
   · unfold Oper.wp
     simp [execOp,ho,resolve,invoke,builtin,hs,hx,hr,Result.andThen]
     exact hK' _ _ (h g0 0 w hown ⟨rfl,rfl,rfl,Nat.le_refl _,fun _ _ _=>rfl⟩ (.inl rfl))
   · rw [hsize]
     cases A with
     | none=>exact Src.ofNil w ht c
     | some ad=>exact Src.ofSlice w ht ad 0 c [] (by simp) (fun j u hu=>by simp at hu) (fun u hu=>by simp at hu)
 · have hlen:0<news.length:=by rw [hl];exact Nat.mul_pos hm hsz
   obtain ⟨b,off,rfl,_,_⟩:=hrd 0 _ (List.getElem?_eq_getElem hlen)
   refine wpList_append_lies w hgd s x t ho base e i z size bytes ht hi hz hsize hby hzs hsz (.slice (some ⟨g0,0,none⟩) 0 0) 0 [] hs hown ⟨b,off,none⟩ m c news hx hl ?_ h1 hm (by omega) (by simpa using hbytes) hbase _ rfl ?_
   · intro j u hu
     obtain ⟨b',off',he,_,hc⟩:=hrd j u hu
     simp only [Option.some.injEq,Addr.mk.injEq,and_true] at he
     obtain ⟨rfl,rfl⟩:=he
     simp only [Addr.add]
     split
     · rename_i hj
       subst hj
       simpa using hc
     · exact hc
   · intro g cap w' hown' hgrow hat _
     simp only [Nat.zero_add,List.nil_append] at hown' ⊢
     refine h g cap w' hown' hgrow ?_
     rcases hat with h2 | h2
     · left
       simpa [Value.ownBlock] using h2
     · exact .inr h2
theorem Rd_of_own {w:World} {B e size n g cap:Nat} {xs:List Value} (h:w.ownsRow B e size (.slice (some ⟨g,0,none⟩) n cap) n xs):Rd w w.heap.size (some ⟨g,0,none⟩) xs:=fun k u hk=>by
 refine ⟨g,0,rfl,(zbi h rfl).2.1,?_⟩
 rw [Nat.zero_add,h.cellAt k (by rw [← h.1];exact (List.getElem?_eq_some_iff.1 hk).1)]
 exact hk
end Go.Proofs.YtoodbfkbbchjiaaGreatDoor
namespace Go.Proofs.YtoodbfkbbchjiaaGreatDoor
open Go.RowKit
end Go.Proofs.YtoodbfkbbchjiaaGreatDoor
namespace Go.Proofs.YtoodbfkbbchjiaaGreatDoor
open Go.RowKit
end Go.Proofs.YtoodbfkbbchjiaaGreatDoor
namespace Go.Proofs.YtoodbfkbbchjiaaGreatDoor
open Go.RowKit
theorem zbn {w:World} {B e size n c:Nat} {A:Option Addr} {xs:List Value} (h:w.ownsRow B e size (.slice A n c) n xs):n≤c:=by
 rcases h.2 with ⟨h1,h2⟩ | ⟨g,cap,cur,h1,_,_,h3,_⟩
 · omega
 · simp only [Value.slice.injEq] at h1
   omega
theorem zfa (w:World) {ops:Array Oper} {rest:List Oper} {o:Oper} {a:Act} {Q:Exit→Act→World→Prop} (hgd:o.guard=none) (s x:Operand) (t:TypeId)
 (ho:o.op=.call { callee:=.builtin .append,args:=#[s,x],argTypes:=#[t,t] })
 (base:Nat) (e:TypeId) (i:TypeInfo) (z:Value) (size bytes:Nat) (ht:Tryz.prog.underlying t=some (.slice e)) (hi:Tryz.prog.info? e=some i) (hz:i.zero=some z)
 (hsize:i.size=size) (hby:i.bytes=bytes) (hzs:z.cells.size=size) (hsz:0<size)
 (g0 n0 cap0:Nat) (olds:List Value) (hs:a.eval s=.slice (some ⟨g0,0,none⟩) n0 cap0) (hown:w.ownsRow base e size (.slice (some ⟨g0,0,none⟩) n0 cap0) n0 olds)
 (B:Nat) (A:Option Addr) (m c:Nat) (news:List Value) (hx:a.eval x=.slice A m c) (hl:news.length=m * size) (hrd:Rd w B A news) (h1:∀ u∈news,u.oneCell'=true)
 (h63:n0+m≤maxLen) (hbytes:(n0+m) * bytes≤140737488355328) (hbase:base≤w.heap.size)
 (h:∀ g cap w',w'.ownsRow base e size (.slice (some ⟨g,0,none⟩) (n0+m) cap) (n0+m) (olds++news)→w.grownBy w' (some g0)→(g0=g∨g=w.heap.size)→wpList Tryz.prog ops Q rest (a.put o.dst (.slice (some ⟨g,0,none⟩) (n0+m) cap)) w'):wpList Tryz.prog ops Q (o :: rest) a w:=by
 rcases Nat.eq_zero_or_pos m with rfl | hm
 · have hn:news=[]:=by simpa using hl
   subst hn
   refine wpList_plain hgd fun K hK'=>?_
   have hr:=run_append_nothing (P:=Tryz.prog) w t t o.type e i ht hi (some ⟨g0,0,none⟩) n0 cap0 (zbn hown) (.slice A 0 c) ?_
   · unfold Oper.wp
     simp [execOp,ho,resolve,invoke,builtin,hs,hx,hr,Result.andThen]
     exact hK' _ _ (h g0 cap0 w (by simpa using hown) ⟨rfl,rfl,rfl,Nat.le_refl _,fun _ _ _=>rfl⟩ (.inl rfl))
   · rw [hsize]
     cases A with
     | none=>exact Src.ofNil w ht c
     | some ad=>exact Src.ofSlice w ht ad 0 c [] (by simp) (fun j u hu=>by simp at hu) (fun u hu=>by simp at hu)
 · have hlen:0<news.length:=by rw [hl];exact Nat.mul_pos hm hsz
   obtain ⟨b,off,rfl,_,_⟩:=hrd 0 _ (List.getElem?_eq_getElem hlen)
   refine wpList_append_lies w hgd s x t ho base e i z size bytes ht hi hz hsize hby hzs hsz (.slice (some ⟨g0,0,none⟩) n0 cap0) n0 olds hs hown ⟨b,off,none⟩ m c news hx hl ?_ h1 hm h63 hbytes hbase _ rfl ?_
   · intro j u hu
     obtain ⟨b',off',he,_,hc⟩:=hrd j u hu
     simp only [Option.some.injEq,Addr.mk.injEq,and_true] at he
     obtain ⟨rfl,rfl⟩:=he
     simp only [Addr.add]
     split
     · rename_i hj
       subst hj
       simpa using hc
     · exact hc
   · intro g cap w' hown' hgrow hat _
     refine h g cap w' hown' hgrow ?_
     rcases hat with h2 | h2
     · left
       simpa [Value.ownBlock] using h2
     · exact .inr h2
theorem zbc {w w':World} {B e size:Nat} {v:Value} {n:Nat} {xs:List Value} (h:w.ownsRow B e size v n xs) (hk:∀ (k:Nat) (cur:Array Value),w.heap[k]?=some (Obj.cells cur e (0,0))→w'.heap[k]?=w.heap[k]?):w'.ownsRow B e size v n xs:=by
 refine ⟨h.1,?_⟩
 rcases h.2 with h2 | ⟨g,cap,cur,h1,h2,h3,h4⟩
 · exact .inl h2
 · exact .inr ⟨g,cap,cur,h1,h2,(hk g cur h3).trans h3,h4⟩
theorem Rd.tail {w:World} {B b off:Nat} {l:List Int} (i:Nat) (h:Rd w B (some ⟨b,off,none⟩) (zai l)):Rd w B (some ⟨b,off+i,none⟩) (zai (l.drop i)):=by
 intro k u hk
 have hk2:(zai l)[i+k]?=some u:=by
  have:zai (l.drop i)=(zai l).drop i:=by simp [zai]
  rw [this,List.getElem?_drop] at hk
  exact hk
 obtain ⟨b',o',he,hb,hc⟩:=h (i+k) u hk2
 simp only [Option.some.injEq,Addr.mk.injEq,and_true] at he
 obtain ⟨rfl,rfl⟩:=he
 exact ⟨b,off+i,rfl,hb,by rw [Nat.add_assoc];exact hc⟩
end Go.Proofs.YtoodbfkbbchjiaaGreatDoor
namespace Go.Proofs.YtoodbfkbbchjiaaGreatDoor
open Go.RowKit
end Go.Proofs.YtoodbfkbbchjiaaGreatDoor
namespace Go.Proofs.YtoodbfkbbchjiaaGreatDoor
open Go.RowKit
def okN (i c:Nat):Bool:=(decide (97≤c) && decide (c≤122) || decide (65≤c) && decide (c≤90)) || !decide (i=0) && (decide (c=45) || decide (48≤c) && decide (c≤57))
def zbm:Nat→List UInt8→Bool
 | _,[]=>true
 | i,b :: l=>okN i b.toNat && zbm (i+1) l
def za3 (s:ByteArray):Bool:=decide (1≤s.size) && decide (s.size≤12) && zbm 0 s.data.toList
theorem dropB {l:List UInt8} {k:Nat} (h:k<l.length):l.drop k=l.getD k 0 :: l.drop (k+1):=by
 rw [List.drop_eq_getElem_cons h]
 simp [h]
end Go.Proofs.YtoodbfkbbchjiaaGreatDoor
namespace Go.Proofs.YtoodbfkbbchjiaaGreatDoor
open Go.RowKit
theorem za7 {w:World} {B e size n c:Nat} {A:Option Addr} {xs:List Value} (h:w.ownsRow B e size (.slice A n c) n xs):Rd w w.heap.size A xs:=by
 rcases h.2 with ⟨h1,h2⟩ | ⟨g,cap,cur,h1,_⟩
 · intro k u hk
   have:=h.1
   rw [h2,Nat.zero_mul] at this
   rw [List.eq_nil_of_length_eq_zero this] at hk
   simp at hk
 · simp only [Value.slice.injEq] at h1
   obtain ⟨rfl,_,rfl⟩:=h1
   exact Rd_of_own h
end Go.Proofs.YtoodbfkbbchjiaaGreatDoor
namespace Go.Proofs.YtoodbfkbbchjiaaGreatDoor
open Go.RowKit
end Go.Proofs.YtoodbfkbbchjiaaGreatDoor
namespace Go.Proofs.YtoodbfkbbchjiaaGreatDoor
open Go.RowKit
end Go.Proofs.YtoodbfkbbchjiaaGreatDoor
namespace Go.Proofs.YtoodbfkbbchjiaaGreatDoor
open Go.RowKit
end Go.Proofs.YtoodbfkbbchjiaaGreatDoor
namespace Go.Proofs.YtoodbfkbbchjiaaGreatDoor
open Go.RowKit
theorem zba {W:World} {r t:Nat} {a0 a1 a2:Value} (h:W.heap[r]?=some (.cells #[a0,a1,a2] t (0,0))) :
 W.cell? ⟨r,0,none⟩=some a0∧W.cell? ⟨r,1,none⟩=some a1∧W.cell? ⟨r,2,none⟩=some a2:=by
 refine ⟨?_,?_,?_⟩ <;> rw [cell_of_row _ _ _ _ _ _ h] <;> rfl
end Go.Proofs.YtoodbfkbbchjiaaGreatDoor
namespace Go.Proofs.YtoodbfkbbchjiaaGreatDoor
open Go.RowKit
theorem za9 {α:Type} {l:List α} {k:Nat} {a:α} (h:l[k]?=some a):l.drop k=a :: l.drop (k+1):=by
 obtain ⟨hk,rfl⟩:=List.getElem?_eq_some_iff.1 h
 exact List.drop_eq_getElem_cons hk
end Go.Proofs.YtoodbfkbbchjiaaGreatDoor
namespace Go.Proofs.YtoodbfkbbchjiaaGreatDoor
open Go.RowKit Go.Shelf
attribute [local go_sem] Oper.semAt_some
end Go.Proofs.YtoodbfkbbchjiaaGreatDoor
namespace Go.Proofs.YtoodbfkbbchjiaaGreatDoor
open Go.RowKit
theorem zbo {W:World} {r t:Nat} {a0 a1 a2 a3:Value} (h:W.heap[r]?=some (.cells #[a0,a1,a2,a3] t (0,0))) :
 W.cell? ⟨r,0,none⟩=some a0∧W.cell? ⟨r,1,none⟩=some a1∧W.cell? ⟨r,2,none⟩=some a2∧W.cell? ⟨r,3,none⟩=some a3:=by
 refine ⟨?_,?_,?_,?_⟩ <;> rw [cell_of_row _ _ _ _ _ _ h] <;> rfl
theorem hA1 (w:World) (o:Obj):(w.alloc o).heap[w.heap.size]?=some o:=by rw [zae,if_pos rfl]
theorem hB1 (w:World) (o:Obj):Below w.heap.size w (w.alloc o):=(Below.refl _ _).alloc (Nat.le_refl _) _
theorem hS1 (w:World) (o:Obj):w.heap.size+1≤(w.alloc o).heap.size:=by simp
theorem hA2a (w:World) (o p:Obj):((w.alloc o).alloc p).heap[w.heap.size]?=some o:=by rw [zae,if_neg (by simp),zae,if_pos rfl]
theorem hA2b (w:World) (o p:Obj):((w.alloc o).alloc p).heap[w.heap.size+1]?=some p:=by rw [zae,if_pos (by simp)]
theorem hB2 (w:World) (o p:Obj):Below w.heap.size w ((w.alloc o).alloc p):=((Below.refl _ _).alloc (Nat.le_refl _) _).alloc (by simp) _
theorem hS2 (w:World) (o p:Obj):w.heap.size+2≤((w.alloc o).alloc p).heap.size:=by simp
end Go.Proofs.YtoodbfkbbchjiaaGreatDoor
