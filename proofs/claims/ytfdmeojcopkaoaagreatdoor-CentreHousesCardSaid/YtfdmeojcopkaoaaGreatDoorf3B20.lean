import Derived.Test.YtfdmeojcopkaoaaGreatDoorf3B12
import Derived.Test.YtfdmeojcopkaoaaGreatDoorf3B13
set_option maxRecDepth 100000
set_option maxHeartbeats 16000000
namespace Go.Proofs.YtfdmeojcopkaoaaGreatDoor
open Go.RowKit
def logK:List EnV:=[(⟨#[97,110,110]⟩,⟨#[100,97,121,32,51]⟩),(⟨#[98,111,98]⟩,⟨#[114,101,97,100,32,116,32,48,63,49,32,49]⟩),(⟨#[97,110,110]⟩,⟨#[108,111,99,107,32,112,108,97,99,101,32,48,32,48]⟩),(⟨#[97,110,110]⟩,⟨#[119,111,114,107,115,32,98]⟩)]
theorem Log_ok (w:World):Calls Tryz.prog 11 #[] w fun e w'=>e=.returned (.slice (some ⟨w.heap.size,0,none⟩) 4 4)∧Rd w' w'.heap.size (some ⟨w.heap.size,0,none⟩) (zb7 logK)∧Below w.heap.size w w':=by
 have hb0:=hB1 w (.cells #[.string ⟨#[97,110,110]⟩,.string ⟨#[100,97,121,32,51]⟩,.string ⟨#[98,111,98]⟩,.string ⟨#[114,101,97,100,32,116,32,48,63,49,32,49]⟩,.string ⟨#[97,110,110]⟩,.string ⟨#[108,111,99,107,32,112,108,97,99,101,32,48,32,48]⟩,.string ⟨#[97,110,110]⟩,.string ⟨#[119,111,114,107,115,32,98]⟩] 64)
 have k0:=hA1 w (.cells #[.string ⟨#[97,110,110]⟩,.string ⟨#[100,97,121,32,51]⟩,.string ⟨#[98,111,98]⟩,.string ⟨#[114,101,97,100,32,116,32,48,63,49,32,49]⟩,.string ⟨#[97,110,110]⟩,.string ⟨#[108,111,99,107,32,112,108,97,99,101,32,48,32,48]⟩,.string ⟨#[97,110,110]⟩,.string ⟨#[119,111,114,107,115,32,98]⟩] 64)
 have HR:=Lib.hid (zby k0)
 have HB:=Lib.hid hb0
 clear hb0 k0
 go_enter Tryz.func11,Tryz.ntmps11
 go_wp2
 go_ret
 exact ⟨rfl,HR.out,HB.out⟩
def StQ (k:Nat) (q:LsV):Prop:=q.sws=[0]∧q.ctr=0∧q.trs.map LtV.key=(if k<3 then [([],0),([],0)] else [([0],1),([],0)])
structure Stage (n k:Nat) (V:BookV):Prop where
 h:V.h=hK n
 log:V.log=logK.take k
 day:V.day=if 1≤k then 3 else 0
 pl:V.pl=if 2≤k then some ⟨0,3,1100,1199⟩ else none
 q:StQ k V.q
 works:V.works=if 4≤k then [1] else []
 wk:k<4→V.wk=⟨none,0,0⟩
theorem vanK (n:Nat):VanOk (hK n).vanes:=by
 constructor <;> (simp only [hK];decide)
theorem zke {q:LsV} {a b:List Int × Int} (h:q.trs.map LtV.key=[a,b]):∃ t0 t1,q.trs=[t0,t1]∧LtV.key t0=a∧LtV.key t1=b:=by
 obtain ⟨sw,sws,tr,trs,ctr⟩:=q
 match trs,h with
 | [t0,t1],h =>
  simp only [List.map_cons,List.map_nil,List.cons.injEq,and_true] at h
  exact ⟨t0,t1,rfl,h.1,h.2⟩
theorem lsS_K {k:Nat} {q:LsV} (h:StQ k q):LsS q:=by
 obtain ⟨h1,_,h3⟩:=h
 have hl:∀ t∈q.trs,t.chain.length≤1000:=fun t ht=>by
  have hk:LtV.key t∈q.trs.map LtV.key:=List.mem_map_of_mem ht
  have e:t.chain=(LtV.key t).1:=rfl
  rw [h3] at hk
  split at hk <;> simp only [List.mem_cons,List.not_mem_nil,or_false] at hk <;> rcases hk with hk | hk <;> rw [e,hk] <;> decide
 have hn:=congrArg List.length h3
 rw [List.length_map] at hn
 have hn2:q.trs.length=2:=by rw [hn];split <;> rfl
 exact ⟨by omega,by rw [h1];decide,hl⟩
end Go.Proofs.YtfdmeojcopkaoaaGreatDoor
namespace Go.Proofs.YtfdmeojcopkaoaaGreatDoor
open Go.RowKit
theorem enterK0 (w:World) (x b n:Nat) (V:BookV) (hV:Stage n 0 V) (h:BkAt w x b V) (hT:∀ W,Below x w W→CtAt W) (hxw:x≤w.heap.size):Calls Tryz.prog 113 #[.pointer (some ⟨b,0,none⟩),.agg #[.string ⟨#[97,110,110]⟩,.string ⟨#[100,97,121,32,51]⟩]] w fun e w'=>∃ V',Stage n 1 V'∧e=.returned (.int .i64 0)∧BkAt w' x b V'∧Below x w w':=by
 refine (enterDay w x b V (fun V'=>V'={ V with day:=3 }) _ _ ⟨#[100,97,121]⟩ [⟨#[51]⟩] 1 h (by rw [hV.h];exact zbg n) hT hxw (by rw [hV.log];decide) ?hP (by decide +kernel) (by decide) (by decide +kernel:zkk ⟨#[100,97,121,32,51]⟩=⟨#[100,97,121]⟩ :: [⟨#[51]⟩]) rfl (by decide) (by decide) 0 (⟨#[97,110,110]⟩,3) (by rw [hV.h];rfl) (by rw [hV.h];kernel_rfl) (by decide) actDay rfl (by decide +kernel) ?DO).mono ?fin
 case hP=>rintro V' rfl;exact ⟨rfl,rfl⟩
 case DO =>
  intro W A c hB hC hx hr
  refine (setDay_ok W x b V hB hC.txt A c W.heap.size ⟨#[51]⟩ hr (by decide) 3 (by decide +kernel) (by decide) (by decide) (by rw [hV.day];decide)).mono ?_
  rintro e w' ⟨he,hB',hb',hk'⟩
  exact ⟨_,rfl,he,hB',hb',hk'⟩
 case fin =>
  rintro e w' ⟨V',A,c,rfl,he,hB,hb⟩
  refine Exists.intro _ (And.intro ?S (And.intro he (And.intro hB hb)))
  refine ⟨hV.h,?_,rfl,hV.pl,hV.q,hV.works,fun _=>hV.wk (by decide)⟩
  show V.log++_=_
  rw [hV.log]
  rfl
theorem enterK1 (w:World) (x b n:Nat) (V:BookV) (hV:Stage n 1 V) (h:BkAt w x b V) (hT:∀ W,Below x w W→CtAt W) (hxw:x≤w.heap.size):Calls Tryz.prog 113 #[.pointer (some ⟨b,0,none⟩),.agg #[.string ⟨#[98,111,98]⟩,.string ⟨#[114,101,97,100,32,116,32,48,63,49,32,49]⟩]] w fun e w'=>∃ V',Stage n 2 V'∧e=.returned (.int .i64 0)∧BkAt w' x b V'∧Below x w w':=by
 refine (enterRead w x b V (fun V'=>V'={ V with pl:=some ⟨0,V.day,1100,1199⟩ }) _ _ ⟨#[114,101,97,100]⟩ [⟨#[116]⟩,⟨#[48,63,49]⟩,⟨#[49]⟩] 3 h (by rw [hV.h];exact zbg n) hT hxw (by rw [hV.log];decide) ?hP (by decide +kernel) (by decide) (by decide +kernel:zkk ⟨#[114,101,97,100,32,116,32,48,63,49,32,49]⟩=⟨#[114,101,97,100]⟩ :: [⟨#[116]⟩,⟨#[48,63,49]⟩,⟨#[49]⟩]) rfl (by decide) (by decide) 1 (⟨#[98,111,98]⟩,0) (by rw [hV.h];rfl) (by rw [hV.h];kernel_rfl) (by decide) actRead (by decide) (by decide +kernel) ?DO).mono ?fin
 case hP=>rintro V' rfl;exact ⟨rfl,rfl⟩
 case DO =>
  intro W A c hB hC hx hr
  have hS:HouseS V.h:=by rw [hV.h];exact zbg n
  have e9:([⟨#[116]⟩,⟨#[48,63,49]⟩,⟨#[49]⟩]:List ByteArray).take 1++[ba (Lib.join ((([⟨#[116]⟩,⟨#[48,63,49]⟩,⟨#[49]⟩]:List ByteArray).drop 1).map (·.data.toList)) [32])]=[⟨#[116]⟩,⟨#[48,63,49,32,49]⟩]:=by decide +kernel
  rw [e9] at hr
  refine (read_ok W x b V hB hS hC.txt hx hV.pl A c W.heap.size ⟨#[116]⟩ ⟨#[48,63,49,32,49]⟩ hr 0 (by rw [hV.h];kernel_rfl) (by decide) (by decide) ⟨#[48,63,49]⟩ ⟨#[49]⟩ true 1 (by decide +kernel) (by decide) (by decide) (by decide +kernel) (by decide) (by decide +kernel) (by decide) (by rw [hV.h];exact vanK n) (by rw [hV.h];kernel_rfl) (by rw [hV.h];kernel_rfl) (1100,1199) (by rw [hV.h];kernel_rfl)).mono ?_
  rintro e w' ⟨he,hB',hb',hk'⟩
  exact ⟨_,rfl,he,hB',hb',hk'⟩
 case fin =>
  rintro e w' ⟨V',A,c,rfl,he,hB,hb⟩
  refine Exists.intro _ (And.intro ?S (And.intro he (And.intro hB hb)))
  refine ⟨hV.h,?_,hV.day,?_,hV.q,hV.works,fun _=>hV.wk (by decide)⟩
  · show V.log++_=_
    rw [hV.log]
    rfl
  · show some _=_
    rw [hV.day]
    rfl
end Go.Proofs.YtfdmeojcopkaoaaGreatDoor
namespace Go.Proofs.YtfdmeojcopkaoaaGreatDoor
open Go.RowKit
theorem stOk_K (w:World) (n k:Nat) (q:LsV) (hq:StQ k q) (hQ:LsAt w w.heap.size q):StOk (hK n).plant q:=by
 have h1:=hQ.sws.1
 have h2:=hQ.trs.1
 rw [hq.1] at h1
 have hn:=congrArg List.length hq.2.2
 rw [List.length_map] at hn
 have hn2:q.trs.length=2:=by rw [hn];split <;> rfl
 refine ⟨h1.symm,by rw [← h2,hn2];rfl,by rw [hq.1];decide,by rw [hq.2.1];decide,fun i t ht=>?_,lsS_K hq⟩
 have hk:(q.trs.map LtV.key)[i]?=some (LtV.key t):=by rw [List.getElem?_map,ht];rfl
 rw [hq.2.2] at hk
 have e1:t.chain=(LtV.key t).1:=rfl
 have e2:t.under=(LtV.key t).2:=rfl
 split at hk
 · match i,hk with
   | 0,hk=>exact .inl ⟨by rw [e1,← Option.some.inj hk],by rw [e2,← Option.some.inj hk]⟩
   | 1,hk=>exact .inl ⟨by rw [e1,← Option.some.inj hk],by rw [e2,← Option.some.inj hk]⟩
 · match i,hk with
   | 0,hk=>exact .inr ⟨rfl,0,by rw [e1,← Option.some.inj hk],by rw [e2,← Option.some.inj hk],rfl⟩
   | 1,hk=>exact .inl ⟨by rw [e1,← Option.some.inj hk],by rw [e2,← Option.some.inj hk]⟩
theorem taken_key {q:LsV} {L:List (List Int × Int)} (h:q.trs.map LtV.key=L) (l:List Int):zf9 q l=l.any fun s=>decide (0≤zk2 L s):=by
 unfold zf9
 congr 1
 funext s
 rw [zef,h]
theorem lies_K (n:Nat) (q:LsV) (hq:q.sws=[0]) (r:RtV) (hr:r.needs=[0]) (secs:List Int):LiesOk (hK n).plant q r secs:=by
 intro i x hx _
 match i,hx with
 | 0,_=>exact ⟨0,by rw [hr];rfl,by rw [hq];rfl⟩
theorem enterK2 (w:World) (x b n:Nat) (V:BookV) (hV:Stage n 2 V) (h:BkAt w x b V) (hT:∀ W,Below x w W→CtAt W) (hxw:x≤w.heap.size):Calls Tryz.prog 113 #[.pointer (some ⟨b,0,none⟩),.agg #[.string ⟨#[97,110,110]⟩,.string ⟨#[108,111,99,107,32,112,108,97,99,101,32,48,32,48]⟩]] w fun e w'=>∃ V',Stage n 3 V'∧e=.returned (.int .i64 0)∧BkAt w' x b V'∧Below x w w':=by
 have hS:HouseS V.h:=by rw [hV.h];exact zbg n
 obtain ⟨t0,t1,htr,hk0,hk1⟩:=zke (a:=([],0)) (b:=([],0)) hV.q.2.2
 have hkeys:V.q.trs.map LtV.key=[([],0),([],0)]:=hV.q.2.2
 refine (enterLock w x b V (fun V'=>∃ q',q'.sws=V.q.sws∧q'.trs.map LtV.key=([0],1) :: V.q.trs.tail.map LtV.key∧q'.ctr=V.q.ctr∧V'={ V with q:=q' }) _ _ ⟨#[108,111,99,107]⟩ [⟨#[112,108,97,99,101]⟩,⟨#[48]⟩,⟨#[48]⟩] 3 h (by rw [hV.h];exact zbg n) hT hxw (by rw [hV.log];decide) ?hP (by decide +kernel) (by decide) (by decide +kernel:zkk ⟨#[108,111,99,107,32,112,108,97,99,101,32,48,32,48]⟩=⟨#[108,111,99,107]⟩ :: [⟨#[112,108,97,99,101]⟩,⟨#[48]⟩,⟨#[48]⟩]) rfl (by decide) (by decide) 0 (⟨#[97,110,110]⟩,3) (by rw [hV.h];rfl) (by rw [hV.h];kernel_rfl) (by decide) actLock (by decide) (by decide +kernel) ?DO).mono ?fin
 case hP=>rintro V' ⟨q',_,_,_,rfl⟩;exact ⟨rfl,rfl⟩
 case DO =>
  intro W A c hB hC hx hr
  have e9:([⟨#[112,108,97,99,101]⟩,⟨#[48]⟩,⟨#[48]⟩]:List ByteArray).take 0++[ba (Lib.join ((([⟨#[112,108,97,99,101]⟩,⟨#[48]⟩,⟨#[48]⟩]:List ByteArray).drop 0).map (·.data.toList)) [32])]=[⟨#[112,108,97,99,101,32,48,32,48]⟩]:=by decide +kernel
  rw [e9] at hr
  refine (setLock_ok W x b V hB hS (lsS_K hV.q) hC A c W.heap.size ⟨#[112,108,97,99,101,32,48,32,48]⟩ hr ((0:Nat):Int) 0 0 (fun W hW=>zgx ⟨#[112,108,97,99,101,32,48,32,48]⟩ ⟨#[112,108,97,99,101]⟩ ⟨#[48]⟩ ⟨#[48]⟩ 0 0 0 (by decide) (by decide +kernel) (by decide +kernel) (by decide) (by decide +kernel) (by decide) (by decide +kernel) (by decide) W hW) t0 (by rw [htr];rfl) [0] 1 (by decide) hx (by rw [hV.works];decide) ?AP (by rw [hV.works];rfl)).mono ?_
  case AP =>
   intro W2 hP2 hQ2 hx2
   have hO:=stOk_K W2 n 2 V.q hV.q hQ2
   rw [hV.h] at hP2 ⊢
   exact Apply0_ok W2 W2.heap.size (hK n).plant V.q t0 0 (hP2.mono hx2) hQ2 (zbg n).plant (ze6 n) (Nat.le_refl _) hO (by rw [htr];rfl) (congrArg Prod.fst hk0) (by rw [taken_key hkeys];decide) rfl rfl (by show 3≤1000;omega) (by show 2≤1000;omega)
  rintro e w' ⟨q',h1,h2,h3,he,hB',hb',hk'⟩
  exact ⟨_,⟨q',h1,h2,h3,rfl⟩,he,hB',hb',hk'⟩
 case fin =>
  rintro e w' ⟨V',A,c,⟨q',h1,h2,h3,rfl⟩,he,hB,hb⟩
  refine Exists.intro _ (And.intro ?S (And.intro he (And.intro hB hb)))
  refine ⟨hV.h,?_,hV.day,hV.pl,⟨h1.trans hV.q.1,h3.trans hV.q.2.1,?_⟩,hV.works,fun _=>hV.wk (by decide)⟩
  · show V.log++_=_
    rw [hV.log]
    rfl
  · show q'.trs.map LtV.key=_
    rw [h2,htr]
    show ([0],1) :: [LtV.key t1]=_
    rw [hk1]
    rfl
theorem enterK3 (w:World) (x b n:Nat) (V:BookV) (hV:Stage n 3 V) (h:BkAt w x b V) (hT:∀ W,Below x w W→CtAt W) (hxw:x≤w.heap.size):Calls Tryz.prog 113 #[.pointer (some ⟨b,0,none⟩),.agg #[.string ⟨#[97,110,110]⟩,.string ⟨#[119,111,114,107,115,32,98]⟩]] w fun e w'=>∃ V',Stage n 4 V'∧e=.returned (.int .i64 0)∧BkAt w' x b V'∧Below x w w':=by
 have hS:HouseS V.h:=by rw [hV.h];exact zbg n
 have hkeys:V.q.trs.map LtV.key=[([0],1),([],0)]:=hV.q.2.2
 refine (enterWorks w x b V (fun V'=>∃ A c,V'={ V with wk:=⟨A,1,c⟩,works:=[1] }) _ _ ⟨#[119,111,114,107,115]⟩ [⟨#[98]⟩] 1 h (by rw [hV.h];exact zbg n) hT hxw (by rw [hV.log];decide) ?hP (by decide +kernel) (by decide) (by decide +kernel:zkk ⟨#[119,111,114,107,115,32,98]⟩=⟨#[119,111,114,107,115]⟩ :: [⟨#[98]⟩]) rfl (by decide) (by decide) 0 (⟨#[97,110,110]⟩,3) (by rw [hV.h];rfl) (by rw [hV.h];kernel_rfl) (by decide) actWorks rfl (by decide +kernel) ?DO).mono ?fin
 case hP=>rintro V' ⟨A,c,rfl⟩;exact ⟨rfl,rfl⟩
 case DO =>
  intro W A c hB hC hx hr
  refine (setWorks_ok W x b V hB hS (lsS_K hV.q) A c W.heap.size ⟨#[98]⟩ hr 1 (by rw [hV.h];kernel_rfl) (by decide) (by rw [zef,hkeys];decide) (hV.wk (by decide)) hx).mono ?_
  rintro e w' ⟨A',c',he,hB',hb',hk'⟩
  exact ⟨_,⟨A',c',rfl⟩,he,hB',hb',hk'⟩
 case fin =>
  rintro e w' ⟨V',A,c,⟨A',c',rfl⟩,he,hB,hb⟩
  refine Exists.intro _ (And.intro ?S (And.intro he (And.intro hB hb)))
  refine ⟨hV.h,?_,hV.day,hV.pl,hV.q,rfl,fun h=>absurd h (by decide)⟩
  show V.log++_=_
  rw [hV.log]
  rfl
theorem enterK4 (w:World) (x b n:Nat) (V:BookV) (hV:Stage n 4 V) (h:BkAt w x b V) (hT:∀ W,Below x w W→CtAt W) (hxw:x≤w.heap.size):Calls Tryz.prog 113 #[.pointer (some ⟨b,0,none⟩),.agg #[.string ⟨#[97,110,110]⟩,.string ⟨#[108,111,99,107,32,114,101,113,117,101,115,116,32,48,32,48]⟩]] w fun e w'=>e=.returned (.int .i64 28)∧BkAt w' x b V∧Below x w w':=by
 have hS:HouseS V.h:=by rw [hV.h];exact zbg n
 obtain ⟨t0,t1,htr,hk0,hk1⟩:=zke (a:=([0],1)) (b:=([],0)) hV.q.2.2
 have hkeys:V.q.trs.map LtV.key=[([0],1),([],0)]:=hV.q.2.2
 refine (enterLockNo w x b V (fun _=>False) _ _ ⟨#[108,111,99,107]⟩ [⟨#[114,101,113,117,101,115,116]⟩,⟨#[48]⟩,⟨#[48]⟩] 3 h (by rw [hV.h];exact zbg n) hT hxw (by rw [hV.log];decide) ?hP (by decide +kernel) (by decide) (by decide +kernel:zkk ⟨#[108,111,99,107,32,114,101,113,117,101,115,116,32,48,32,48]⟩=⟨#[108,111,99,107]⟩ :: [⟨#[114,101,113,117,101,115,116]⟩,⟨#[48]⟩,⟨#[48]⟩]) rfl (by decide) (by decide) 0 (⟨#[97,110,110]⟩,3) (by rw [hV.h];rfl) (by rw [hV.h];kernel_rfl) (by decide) actLock (by decide) (by decide +kernel) ?DO)
 case hP=>intro V' h;exact h.elim
 case DO =>
  intro W A c hB hC hx hr
  have e9:([⟨#[114,101,113,117,101,115,116]⟩,⟨#[48]⟩,⟨#[48]⟩]:List ByteArray).take 0++[ba (Lib.join ((([⟨#[114,101,113,117,101,115,116]⟩,⟨#[48]⟩,⟨#[48]⟩]:List ByteArray).drop 0).map (·.data.toList)) [32])]=[⟨#[114,101,113,117,101,115,116,32,48,32,48]⟩]:=by decide +kernel
  rw [e9] at hr
  refine (setLock_no W x b V hB hS (lsS_K hV.q) hC A c W.heap.size ⟨#[114,101,113,117,101,115,116,32,48,32,48]⟩ hr ((1:Nat):Int) 0 0 (fun W hW=>zgx ⟨#[114,101,113,117,101,115,116,32,48,32,48]⟩ ⟨#[114,101,113,117,101,115,116]⟩ ⟨#[48]⟩ ⟨#[48]⟩ 1 0 0 (by decide) (by decide +kernel) (by decide +kernel) (by decide) (by decide +kernel) (by decide) (by decide +kernel) (by decide) W hW) t0 (by rw [htr];rfl) [0,1] 1 (by decide) hx (by rw [hV.works];decide) ?AP (by rw [hV.works,htr];show ([1]:List Int).any (fun s=>decide (0≤zk2 (([0,1],1) :: [LtV.key t1]) s))=true;rw [hk1];decide)).mono ?_
  case AP =>
   intro W2 hP2 hQ2 hx2
   have hO:=stOk_K W2 n 4 V.q hV.q hQ2
   rw [hV.h] at hP2 ⊢
   exact Apply1_ok W2 W2.heap.size (hK n).plant V.q t0 0 ((hK n).plant.rts[0]'(by show 0<3;omega)) [1] (hP2.mono hx2) hQ2 (zbg n).plant (ze6 n) (Nat.le_refl _) hO (by rw [htr];rfl) (congrArg Prod.fst hk0) (congrArg Prod.snd hk0) rfl rfl (by decide) (by decide) (by rw [taken_key hkeys];decide) (lies_K n V.q hV.q.1 _ rfl _) (by show 1≤1000;omega) (by show zai 0 0 ((3:Int) - 1)=true;decide) rfl (by show 3≤1000;omega) (by show 2≤1000;omega)
  rintro e w' ⟨q',h1,h2,h3,he,hB',hb',hk'⟩
  exact ⟨he,hB',hb',hk'⟩
end Go.Proofs.YtfdmeojcopkaoaaGreatDoor
namespace Go.Proofs.YtfdmeojcopkaoaaGreatDoor
open Go.RowKit
theorem enter_step (w:World) (x b n k:Nat) (V:BookV) (hk:k<4) (y:EnV) (hy:logK[k]?=some y) (hV:Stage n k V) (h:BkAt w x b V) (hT:∀ W,Below x w W→CtAt W) (hxw:x≤w.heap.size):Calls Tryz.prog 113 #[.pointer (some ⟨b,0,none⟩),.agg #[.string y.1,.string y.2]] w fun e w'=>∃ V',Stage n (k+1) V'∧e=.returned (.int .i64 0)∧BkAt w' x b V'∧Below x w w':=by
 match k,hk,hy,hV with
 | 0,_,hy,hV=>obtain rfl:=(Option.some.inj hy).symm;exact enterK0 w x b n V hV h hT hxw
 | 1,_,hy,hV=>obtain rfl:=(Option.some.inj hy).symm;exact enterK1 w x b n V hV h hT hxw
 | 2,_,hy,hV=>obtain rfl:=(Option.some.inj hy).symm;exact enterK2 w x b n V hV h hT hxw
 | 3,_,hy,hV=>obtain rfl:=(Option.some.inj hy).symm;exact enterK3 w x b n V hV h hT hxw
def OpnRel (x b n m:Nat) (w3:World) (u:Value) (wr:World):Prop:=∃ (k:Nat) (V:BookV),k≤m∧u=.int .i64 k∧Stage n k V∧BkAt wr x b V∧Below x w3 wr
def OpenPost (w:World) (n m:Nat) (e:Ending) (w':World):Prop:=∃ (x b:Nat) (V:BookV),e=.returned (.tuple #[.pointer (some ⟨b,0,none⟩),.int .i64 0,.int .i64 0])∧w.heap.size≤x∧x≤w'.heap.size∧Stage n m V∧BkAt w' x b V∧Below w.heap.size w w'
theorem open_K (w:World) (n m:Nat) (hm:m≤4) (A:Option Addr) (c:Nat) (hH:HouseAt w w.heap.size (hK n)) (hr:Rd w w.heap.size A (zb7 (logK.take m))) (hT:CtAt w):Calls Tryz.prog 46 #[.agg (zaq (hK n)).toArray,.slice A m c] w (OpenPost w n m):=by
 have hb0:=hB1 w (.cells (zaq (hK n)).toArray 45)
 have k0:=hA1 w (.cells (zaq (hK n)).toArray 45)
 have hs0:=hS1 w (.cells (zaq (hK n)).toArray 45)
 have HB:=Lib.hid hb0
 have HHF:=Lib.hid (show ∀ W,Below w.heap.size w W→HouseAt W w.heap.size (hK n) from fun W h=>hH.keep h)
 have HRF:=Lib.hid (show ∀ W,Below w.heap.size w W→Rd W w.heap.size A (zb7 (logK.take m)) from fun W h=>hr.keep h)
 have HTF:=Lib.hid (show ∀ W,Below w.heap.size w W→CtAt W from fun W h=>hT.below h)
 clear hb0 hH hr hT
 go_enter Tryz.func46,Tryz.ntmps46
 go_upto_region 1 with (fail)
 generalize w.alloc (.cells (zaq (hK n)).toArray 45)=w0 at *
 generalize hbw:w.heap.size=bw at *
 have HBW:=Lib.hid hbw
 clear hbw
 have CH:=zix w0 bw (hK n) (HHF.out w0 HB.out) (zbg n) (by omega)
 rw [houseK_err] at CH
 go_wp2_with (with_reducible refine zaz 45 ?_)
 unfold Stp
 refine wpList_load_row rfl 45 _ rfl bw rfl 45 _ (0,0) _ k0 Tryz.underlying45 rfl (by kernel_rfl) ?_
 go_wp2_with (first | (go_at_call 6;refine CH.mono ?_;rintro e w1 ⟨rfl,hb1⟩) | (with_reducible refine zat 49 ?_))
 have hba:=hB1 w1 (.cells #[.int .i64 0,.int .i64 0] 49)
 have k3:=hA1 w1 (.cells #[.int .i64 0,.int .i64 0] 49)
 unfold Stp
 refine wpList_store_row rfl 49 _ _ rfl w1.heap.size #[.int .i64 0,.int .i64 0] rfl rfl 49 _ k3 (by kernel_rfl) rfl (by kernel_rfl) ?_
 have hb4:Below w0.heap.size w0 ((w1.alloc (.cells #[.int .i64 0,.int .i64 0] 49)).setRow w1.heap.size #[.int .i64 0,.int .i64 0]):=below_setRow (hb1.trans (hba.mono hb1.size)) hb1.size _
 clear k3 hba CH
 go_upto_region 2 with (fail)
 generalize (w1.alloc (.cells #[.int .i64 0,.int .i64 0] 49)).setRow w1.heap.size #[.int .i64 0,.int .i64 0]=w2 at *
 have HB2:=Lib.hid (HB.out.trans (hb4.mono (by omega)))
 have k2:=zcd hb4 k0
 have hs2:=Nat.le_trans hs0 hb4.size
 clear hb1 hb4 k0
 have U0:=fun e W=>zbq true e 0 rfl W
 have hm60:(m:Int)≤60:=by omega
 go_upto_region 3 with (first | (go_at_call 23;refine (U0 _ _).mono ?_;rintro e w' ⟨rfl,rfl⟩) | (go_at_call 22;refine (zdd _ 0 0).mono ?_;rintro e w' ⟨rfl,rfl⟩))
 have hbn:=hB1 w2 (.cells #[.int .i64 0,.int .i64 0] 50)
 have k4:=zcd hbn k2
 have HB3:=Lib.hid (HB2.out.trans (hbn.mono (by omega)))
 have hs3:=Nat.le_trans hs2 hbn.size
 clear hbn U0 k2
 generalize w2.alloc (.cells #[.int .i64 0,.int .i64 0] 50)=w3 at *
 have BG:=begin_any w3 bw (hK n) (HHF.out w3 HB3.out) (zbg n) (ze6 n) (by omega)
 go_wp2_with (with_reducible refine zaz 45 ?_)
 unfold Stp
 refine wpList_load_row rfl 45 _ rfl bw rfl 45 _ (0,0) _ k4 Tryz.underlying45 rfl (by kernel_rfl) ?_
 go_wp2_with (go_at_call 112;refine BG.mono ?_;rintro e w4 ⟨b,V,rfl,hBk,hb5,hVh,hVlg,hVl,hVd,hVs,hVt,hVc,hVp,hVw,hVws⟩)
 have ST:Stage n 0 V:=⟨hVh,hVl,hVd,hVp,⟨hVs,hVc,by rw [hVt];rfl⟩,hVws,fun _=>hVw⟩
 have HB4:=Lib.hid (HB3.out.trans (hb5.mono (by omega)))
 have hx3:w3.heap.size≤w4.heap.size:=hb5.size
 clear hVh hVlg hVl hVd hVs hVt hVc hVp hVw hVws BG hb5 k4
 go_loopw [32] (fun u32 wr=>OpnRel w3.heap.size b n m w4 u32 wr) (fun u32 _=>m - (intOf u32).toNat)
 case atStart=>exact ⟨0,V,Nat.zero_le _,rfl,ST,hBk,Below.refl _ _⟩
 case round =>
  clear ST hBk
  obtain ⟨k,V,hk,rfl,ST,hBk,hb⟩:=hrel
  have HBR:=Lib.hid (HB4.out.trans (hb.mono (by omega)))
  have hxr:w3.heap.size≤wr.heap.size:=Nat.le_trans hx3 hb.size
  have HBX:=Lib.hid hb
  clear hb
  by_cases hlt:k<m
  · obtain ⟨y,hy⟩:∃ y,logK[k]?=some y:=⟨_,List.getElem?_eq_getElem (by show k<4;omega)⟩
    have hyt:(logK.take m)[k]?=some y:=by rw [List.getElem?_take,if_pos hlt,hy]
    obtain ⟨bb,off,rfl,hbb,z0,z1⟩:=Rd.en (HRF.out wr HBR.out) hyt
    have hba:=hB1 wr (.cells #[.string y.1,.string y.2] 64)
    obtain ⟨e0,e1⟩:_∧_:=zay (W:=wr.alloc (.cells #[.string y.1,.string y.2] 64)) (r:=wr.heap.size) (t:=64) (by rw [zae,if_pos rfl])
    have hBa:=hBk.keep hba
    have EN:=enter_step _ w3.heap.size b n k V (by omega) y hy ST hBa (fun W hW=>HTF.out W ((HBR.out.trans (hba.mono (by have:=HBR.out.size;omega))).trans (hW.mono (by omega)))) (Nat.le_trans hxr hba.size)
    have HBA:=Lib.hid (HBX.out.trans (hba.mono hxr))
    clear hy hyt hBa hba
    go_upto_region 9 with (fail)
    clear z0 z1
    generalize wr.alloc (.cells #[.string y.1,.string y.2] 64)=wa at *
    go_wp2_with (go_at_call 113;refine EN.mono ?_;rintro e w9 ⟨V9,S9,rfl,hB9,hb9⟩)
    go_roundw
    case rel=>exact ⟨k+1,V9,hlt,by go_num,S9,hB9,HBA.out.trans hb9⟩
    case measure=>simp [intOf];omega
  · obtain rfl:k=m:=by omega
    go_wp2
    go_ret3
    exact ⟨w3.heap.size,b,V,rfl,by rw [HBW.out];omega,hxr,ST,hBk,by rw [HBW.out];exact HBR.out⟩
end Go.Proofs.YtfdmeojcopkaoaaGreatDoor
namespace Go.Proofs.YtfdmeojcopkaoaaGreatDoor
open Go.RowKit
theorem accept_K (w:World) (x b n:Nat) (V:BookV) (hV:Stage n 4 V) (h:BkAt w x b V) (hT:∀ W,Below x w W→CtAt W) (hxw:x≤w.heap.size):Calls Tryz.prog 48 #[.pointer (some ⟨b,0,none⟩),.agg #[.string ⟨#[97,110,110]⟩,.string ⟨#[108,111,99,107,32,114,101,113,117,101,115,116,32,48,32,48]⟩]] w fun e w'=>e=.returned (.int .i64 28)∧Below x w w':=by
 have hb0:=hB1 w (.cells #[.string ⟨#[97,110,110]⟩,.string ⟨#[108,111,99,107,32,114,101,113,117,101,115,116,32,48,32,48]⟩] 64)
 have k0:=hA1 w (.cells #[.string ⟨#[97,110,110]⟩,.string ⟨#[108,111,99,107,32,114,101,113,117,101,115,116,32,48,32,48]⟩] 64)
 have H0:=h.keep hb0
 have hb0x:=hb0.mono hxw
 have hln:V.lg.n=4:=by rw [← h.log.1,hV.log];rfl
 have d25:=H0.cell (i:=25) (u:=V.lg.v) rfl
 simp only [SlV.v,hln] at d25
 have EK:=enterK4 _ x b n V hV H0 (fun W hW=>hT W (hb0x.trans hW)) (Nat.le_trans hxw hb0.size)
 have HB:=Lib.hid hb0x
 clear h hT hb0 hb0x H0
 go_enter Tryz.func48,Tryz.ntmps48
 go_upto_region 1 with (fail)
 generalize w.alloc (.cells #[.string ⟨#[97,110,110]⟩,.string ⟨#[108,111,99,107,32,114,101,113,117,101,115,116,32,48,32,48]⟩] 64)=w0 at *
 generalize hbw:w.heap.size=bw at *
 have HBW:=Lib.hid hbw
 clear hbw
 obtain ⟨e0,e1⟩:_∧_:=zay k0
 go_wp2_with (go_at_call 113;refine EK.mono ?_;rintro e w1 ⟨rfl,hB1,hb1⟩)
 go_ret
 exact ⟨rfl,HB.out.trans hb1⟩
theorem Accept_K (w:World) (n:Nat) (A:Option Addr) (c:Nat) (hH:HouseAt w w.heap.size (hK n)) (hr:Rd w w.heap.size A (zb7 logK)) (hT:CtAt w):Calls Tryz.prog 13 #[.agg (zaq (hK n)).toArray,.slice A 4 c,.agg #[.string ⟨#[97,110,110]⟩,.string ⟨#[108,111,99,107,32,114,101,113,117,101,115,116,32,48,32,48]⟩]] w fun e w'=>e=.returned (.tuple #[.slice none 0 0,.int .i64 28])∧Below w.heap.size w w':=by
 have hb0:=hB2 w (.cells (zaq (hK n)).toArray 45) (.cells #[.string ⟨#[97,110,110]⟩,.string ⟨#[108,111,99,107,32,114,101,113,117,101,115,116,32,48,32,48]⟩] 64)
 have k0:=hA2a w (.cells (zaq (hK n)).toArray 45) (.cells #[.string ⟨#[97,110,110]⟩,.string ⟨#[108,111,99,107,32,114,101,113,117,101,115,116,32,48,32,48]⟩] 64)
 have k1:=hA2b w (.cells (zaq (hK n)).toArray 45) (.cells #[.string ⟨#[97,110,110]⟩,.string ⟨#[108,111,99,107,32,114,101,113,117,101,115,116,32,48,32,48]⟩] 64)
 have OP:=open_K _ n 4 (Nat.le_refl _) A c ((hH.keep hb0).mono hb0.size) ((hr.keep hb0).mono hb0.size) (hT.below hb0)
 have HB:=Lib.hid hb0
 have HTF:=Lib.hid (show ∀ W,Below w.heap.size w W→CtAt W from fun W h=>hT.below h)
 have hs0:=hS2 w (.cells (zaq (hK n)).toArray 45) (.cells #[.string ⟨#[97,110,110]⟩,.string ⟨#[108,111,99,107,32,114,101,113,117,101,115,116,32,48,32,48]⟩] 64)
 clear hb0 hH hr hT
 go_enter Tryz.func13,Tryz.ntmps13
 go_upto_region 1 with (fail)
 generalize (w.alloc (.cells (zaq (hK n)).toArray 45)).alloc (.cells #[.string ⟨#[97,110,110]⟩,.string ⟨#[108,111,99,107,32,114,101,113,117,101,115,116,32,48,32,48]⟩] 64)=w0 at *
 generalize hbw:w.heap.size=bw at *
 have HBW:=Lib.hid hbw
 clear hbw
 go_wp2_with (with_reducible refine zaz 45 ?_)
 unfold Stp
 refine wpList_load_row rfl 45 _ rfl bw rfl 45 _ (0,0) _ k0 Tryz.underlying45 rfl (by kernel_rfl) ?_
 go_upto_region 2 with (go_at_call 46;refine OP.mono ?_;rintro e w1 ⟨x,b,V,rfl,hx,hx1,ST,hBk,hb1⟩)
 have hb1x:=HB.out.trans (hb1.mono (by omega))
 obtain ⟨e0,e1⟩:_∧_:=zay (zcd hb1 k1)
 have AK:=accept_K w1 x b n V ST hBk (fun W hW=>HTF.out W (hb1x.trans (hW.mono (by omega)))) hx1
 have HB1:=Lib.hid hb1x
 clear OP hb1 k0 k1 hb1x
 go_wp2_with (go_at_call 48;refine AK.mono ?_;rintro e w2 ⟨rfl,hb2⟩)
 go_ret2
 exact ⟨rfl,by rw [HBW.out];exact HB1.out.trans (hb2.mono (by omega))⟩
end Go.Proofs.YtfdmeojcopkaoaaGreatDoor
namespace Go.Proofs.YtfdmeojcopkaoaaGreatDoor
open Go.RowKit
theorem texts_any (w:World) (A:Option Addr) (n c:Nat) (l:List Int) (E:Int) (hl:l.length=n) (hn:n≤1000) (hi:∀ x∈l,-9223372036854775808≤x∧x≤9223372036854775807) (hr:Rd w w.heap.size A (zah l)) (ht:TxtAt w):Calls Tryz.prog 151 #[.slice A n c,.int .i64 E] w fun e w'=>∃ A' c',e=.returned (.tuple #[.slice A' n c',.int .i64 E])∧w'.ownsRow w.heap.size 9 1 (.slice A' n c') n (strCells (l.map fun x=>ba (Lib.itoa x)))∧Below w.heap.size w w':=by
 have HCN:=Lib.hid hl
 have HTR:=Lib.hid hr
 have HT:=Lib.hid ht
 have HI:=Lib.hid hi
 obtain ⟨i1,hi1,hy0,hy1,hy2⟩:=info_parts info9s
 clear hl hr ht hi
 go_enter Tryz.func151,Tryz.ntmps151
 go_wp2
 go_loopw [6,11] (fun u6 u11 wz=>FcRel w l n u6 u11 wz) (fun _ u11 _=>n - (intOf u11).toNat)
 case atStart=>exact ⟨0,Nat.zero_le _,rfl,⟨rfl,.inl ⟨rfl,rfl⟩⟩,Below.refl _ _⟩
 case round =>
  obtain ⟨j,hj,rfl,hown9,hb9⟩:=hrel
  obtain ⟨A9,c9,rfl⟩:=zco hown9
  have HOWN9:=Lib.hid hown9
  have HB9:=Lib.hid hb9
  have hs9:=hb9.size
  by_cases hlt2:j<n
  · have hjl:j<l.length:=by rw [HCN.out];exact hlt2
    obtain ⟨x,hx⟩:∃ x,l[j]?=some x:=⟨_,List.getElem?_eq_getElem hjl⟩
    obtain ⟨cb,co,rfl,hcb,y0⟩:=((HTR.out).keep hb9).at_ (k:=j) (u:=.int .i64 x) (by simp only [zah,List.getElem?_map,hx,Option.map_some])
    have ITX:=zb9 x (HI.out x (List.mem_of_getElem? hx)).1 (HI.out x (List.mem_of_getElem? hx)).2 wr (HT.out.below hb9)
    have HTK:Hid (strCells ((l.take (j+1)).map fun x=>ba (Lib.itoa x))=strCells ((l.take j).map fun x=>ba (Lib.itoa x))++[.string (ba (Lib.itoa x))]):=by
     rw [Hid,List.take_add_one,hx,List.map_append]
     simp [strCells]
    clear hown9 hb9 hx hjl
    go_wp2_with (first | (go_at_call 103;refine ITX.mono ?_;rintro e w1 ⟨rfl,hb1⟩) | (at_builtin;refine stp ?_))
    unfold Stp
    have hown1:=zag HOWN9.out hb1
    have hb91:=HB9.out.trans (hb1.mono hs9)
    have hs91:=Nat.le_trans hs9 hb1.size
    refine wpList_append_lies _ rfl _ _ 22 rfl w.heap.size 9 i1 _ 1 16 Tryz.underlying22 hi1 hy0 hy1 hy2 rfl (by omega) (.slice A9 (j) c9) (j) _ rfl ((hown1).alloc _) ⟨w1.heap.size,0,none⟩ 1 1 [.string (ba (Lib.itoa x))] rfl rfl (zey (by simp)) (by simp [Value.oneCell']) (by omega) (by simp only [maxLen];omega) (by omega) (by simp;omega) _ rfl ?_
    intro gg cap w6 hown6 hgrow6 _ _
    have hb6:=((hb91).alloc (hs91) _).grown hgrow6 (by simp;omega) (fun j hj=>(zbf (hown1) hj).1)
    have HB7:=Lib.hid hb6
    have HO7:Hid (w6.ownsRow w.heap.size 9 1 (.slice (some ⟨gg,0,none⟩) (j+1) cap) (j+1) (strCells ((l.take (j+1)).map fun x=>ba (Lib.itoa x)))):=by
     rw [Hid,HTK.out]
     exact hown6
    clear hown6 hgrow6 hb6 hown1 hb91 hb1 ITX y0
    go_wp2
    go_roundw
    case rel=>exact ⟨j+1,hlt2,by go_num,HO7.out,HB7.out⟩
    case measure=>simp [intOf];omega
  · obtain rfl:j=n:=by omega
    have e:l.take j=l:=List.take_of_length_le (by rw [HCN.out];exact Nat.le_refl _)
    rw [e] at hown9
    have HO9:=Lib.hid hown9
    clear hown9 hb9 e
    go_wp2
    go_ret2
    exact ⟨A9,c9,rfl,HO9.out,HB9.out⟩
end Go.Proofs.YtfdmeojcopkaoaaGreatDoor
namespace Go.Proofs.YtfdmeojcopkaoaaGreatDoor
open Go.RowKit
theorem zero190 (w:World):(zeroValue 190).run Tryz.prog w=.ok (.agg #[.int .i64 0,.int .i64 0,.int .i64 0,.int .i64 0]) w:=by kernel_rfl
theorem placeOf_K (w:World) (x b n:Nat) (V:BookV) (hV:Stage n 4 V) (h:BkAt w x b V):Calls Tryz.prog 154 #[.pointer (some ⟨b,0,none⟩),.string ⟨#[116]⟩] w fun e w'=>e=.returned (.tuple #[.agg #[.int .i64 0,.int .i64 3,.int .i64 1100,.int .i64 1199],.int .i64 0])∧Below w.heap.size w w':=by
 have hS:HouseS V.h:=by rw [hV.h];exact zbg n
 have hb0:=hB1 w (.cells #[.int .i64 0,.int .i64 0,.int .i64 0,.int .i64 0] 190)
 have k0:=hA1 w (.cells #[.int .i64 0,.int .i64 0,.int .i64 0,.int .i64 0] 190)
 have H0:=h.keep hb0
 have TR:=zh3 _ x b V H0 hS ⟨#[116]⟩
 have hi:idxT V.h.plant.trains ⟨#[116]⟩=0:=by rw [hV.h];kernel_rfl
 rw [hi] at TR
 have d31:=H0.cell (i:=31) (u:=.map (some V.mp)) rfl
 have hm:=H0.r.pl
 rw [hV.pl] at hm
 have hlk:=run_look1 Tryz.underlying135 hm 0 (j:=0) (v:=.agg #[.int .i64 0,.int .i64 3,.int .i64 1100,.int .i64 1199]) rfl
 have HB:=Lib.hid hb0
 have hs0:=hS1 w (.cells #[.int .i64 0,.int .i64 0,.int .i64 0,.int .i64 0] 190)
 clear h hb0 H0 hi hm
 go_enter Tryz.func154,Tryz.ntmps154
 go_upto_region 1 with (fail)
 generalize w.alloc (.cells #[.int .i64 0,.int .i64 0,.int .i64 0,.int .i64 0] 190)=w0 at *
 generalize hbw:w.heap.size=bw at *
 have HBW:=Lib.hid hbw
 clear hbw
 go_upto_region 2 with (go_at_call 141;refine TR.mono ?_;rintro e w' ⟨rfl,rfl⟩)
 go_wp2_with (with_reducible refine zat 190 ?_)
 have hba:=hB1 w0 (.cells #[.int .i64 0,.int .i64 0,.int .i64 0,.int .i64 0] 190)
 have k3:=hA1 w0 (.cells #[.int .i64 0,.int .i64 0,.int .i64 0,.int .i64 0] 190)
 unfold Stp
 refine wpList_store_row rfl 190 _ _ rfl w0.heap.size #[.int .i64 0,.int .i64 3,.int .i64 1100,.int .i64 1199] rfl rfl 190 _ k3 (by kernel_rfl) rfl (by kernel_rfl) ?_
 have k4:=setRow_heap _ w0.heap.size _ #[.int .i64 0,.int .i64 3,.int .i64 1100,.int .i64 1199] 190 (0,0) k3
 have hb4:Below w0.heap.size w0 ((w0.alloc (.cells #[.int .i64 0,.int .i64 0,.int .i64 0,.int .i64 0] 190)).setRow w0.heap.size #[.int .i64 0,.int .i64 3,.int .i64 1100,.int .i64 1199]):=below_setRow hba (Nat.le_refl _) _
 clear k3 hba TR hlk d31
 go_upto_region 3 with (fail)
 generalize (w0.alloc (.cells #[.int .i64 0,.int .i64 0,.int .i64 0,.int .i64 0] 190)).setRow w0.heap.size #[.int .i64 0,.int .i64 3,.int .i64 1100,.int .i64 1199]=w2 at *
 generalize hyy:w0.heap.size=y at *
 have k2:=(hb4.block bw (by omega)).trans k0
 obtain ⟨c0,c1,c2,c3⟩:_∧_∧_∧_:=za9 k4
 have U0:=fun e W=>zbq true e 0 rfl W
 have HB2:=Lib.hid (HB.out.trans (hb4.mono (by omega)))
 have x0:=fun y:Xt w2=>y.cell c0
 have x1:=fun y:Xt w2=>y.cell c1
 have x2:=fun y:Xt w2=>y.cell c2
 have x3:=fun y:Xt w2=>y.cell c3
 refine zaj [8,9] (fun w'=>∃ y:Xt w2,w'=y.1) (by kernel_rfl) ⟨⟨w2.drew,(Below.refl _ _).drew⟩,rfl⟩ ?_
 refine zao [0,1,2,4] 6 rfl (by kernel_rfl) ?_
 simp only [zad,zac,zaa,zX1,zX2,zX3]
 repeat (go_big_quiet_step (fail))
 refine wpQuiet_nil ?_
 have hbd:Below w2.heap.size w2 w2.drew:=(Below.refl _ _).drew
 show wpE _ _ _ _ _ _ _ _ _ w2.drew
 generalize w2.drew=wd at *
 clear x0 x1 x2 x3 c0 c1 c2 c3
 refine zak (i:=3) rfl (by kernel_rfl) rfl ?_
 unfold zap
 simp only [zad,zac,zaa,zX1,zX2,zX3]
 go_wp2_with (go_at_call 23;refine (U0 _ _).mono ?_;rintro e w' ⟨rfl,rfl⟩)
 refine zab ⟨⟨⟨_,hbd⟩,rfl⟩,?_⟩
 refine zak (i:=5) rfl (by kernel_rfl) rfl ?_
 unfold zap
 simp only [zad,zac,zaa,zX1,zX2,zX3]
 go_wp2_with (go_at_call 23;refine (U0 _ _).mono ?_;rintro e w' ⟨rfl,rfl⟩)
 refine zab ⟨⟨⟨_,hbd⟩,rfl⟩,?_⟩
 refine zak (i:=6) rfl (by kernel_rfl) rfl ?_
 unfold zap
 simp only [zad,zac,zaa,zX1,zX2,zX3]
 go_wp2
 have hbn:=hB1 wd (.cells #[.int .i64 0,.int .i64 0] 50)
 have kq:=hA1 wd (.cells #[.int .i64 0,.int .i64 0] 50)
 have hbe:=hbd.trans (hbn.mono hbd.size)
 refine zab ⟨⟨⟨_,hbe⟩,rfl⟩,?_⟩
 refine zak (i:=7) rfl (by kernel_rfl) rfl ?_
 unfold zap
 simp only [zad,zac,zaa,zX1,zX2,zX3]
 go_wp2_with (go_at_call 22;refine (zdd _ 0 0).mono ?_;rintro e w' ⟨rfl,rfl⟩)
 refine zab ⟨⟨⟨_,hbe⟩,rfl⟩,?_⟩
 refine zau rfl (by kernel_rfl) ?_
 simp only [zad,zac,zaa,zX1,zX2,zX3]
 have k5:=zcd hbe k2
 refine wpList_store_row rfl 190 _ _ rfl bw #[.int .i64 0,.int .i64 3,.int .i64 1100,.int .i64 1199] rfl rfl 190 _ k5 (by kernel_rfl) rfl (by kernel_rfl) ?_
 have hsw2:bw≤w2.heap.size:=by have:=hb4.size;omega
 have kr:=setRow_heap (wd.alloc (.cells #[.int .i64 0,.int .i64 0] 50)) bw _ #[.int .i64 0,.int .i64 3,.int .i64 1100,.int .i64 1199] 190 (0,0) k5
 have hbr:Below bw w ((wd.alloc (.cells #[.int .i64 0,.int .i64 0] 50)).setRow bw #[.int .i64 0,.int .i64 3,.int .i64 1100,.int .i64 1199]):=below_setRow (HB2.out.trans (hbe.mono hsw2)) (Nat.le_refl _) _
 generalize (wd.alloc (.cells #[.int .i64 0,.int .i64 0] 50)).setRow bw #[.int .i64 0,.int .i64 3,.int .i64 1100,.int .i64 1199]=w7 at *
 go_wp2
 refine zab ?_
 go_wp2
 obtain ⟨c0,c1,c2,c3⟩:_∧_∧_∧_:=za9 kr
 refine bodyPost_ret (v:=.tuple #[.agg #[.int .i64 0,.int .i64 3,.int .i64 1100,.int .i64 1199],.int .i64 0]) (by simp [results,Tryz.results154,go_sem,c0,c1,c2,c3,zam]) rfl ⟨rfl,by rw [HBW.out];exact hbr⟩
theorem answer_K (w:World) (x b n:Nat) (V:BookV) (hV:Stage n 4 V) (h:BkAt w x b V) (ht:TxtAt w) (A:Option Addr) (c B:Nat) (hr:Rd w B A (strCells [⟨#[119,104,101,114,101]⟩,⟨#[116]⟩])):Calls Tryz.prog 116 #[.pointer (some ⟨b,0,none⟩),.slice A 2 c] w fun e w'=>∃ A' c',e=.returned (.tuple #[.slice A' 2 c',.int .i64 0])∧w'.ownsRow w.heap.size 9 1 (.slice A' 2 c') 2 (strCells [⟨#[49,49,48,48]⟩,⟨#[49,49,57,57]⟩])∧Below w.heap.size w w':=by
 obtain ⟨bb,off,rfl,hbb,z0⟩:=hr.at_ (k:=0) (u:=.string ⟨#[119,104,101,114,101]⟩) rfl
 have z1:=zbz hr (k:=1) (u:=.string ⟨#[116]⟩) rfl
 rw [Nat.add_zero] at z0
 have PO:=placeOf_K w x b n V hV h
 have HT:=Lib.hid ht
 clear hr h ht
 go_enter Tryz.func116,Tryz.ntmps116
 go_wp2_with (first | (go_at_call 154;refine PO.mono ?_;rintro e w1 ⟨rfl,hb1⟩) | (with_reducible refine zat 190 ?_))
 have hba:=hB1 w1 (.cells #[.int .i64 0,.int .i64 0,.int .i64 0,.int .i64 0] 190)
 have k3:=hA1 w1 (.cells #[.int .i64 0,.int .i64 0,.int .i64 0,.int .i64 0] 190)
 unfold Stp
 refine wpList_store_row rfl 190 _ _ rfl w1.heap.size #[.int .i64 0,.int .i64 3,.int .i64 1100,.int .i64 1199] rfl rfl 190 _ k3 (by kernel_rfl) rfl (by kernel_rfl) ?_
 have k4:=setRow_heap _ w1.heap.size _ #[.int .i64 0,.int .i64 3,.int .i64 1100,.int .i64 1199] 190 (0,0) k3
 have hb4:Below w.heap.size w ((w1.alloc (.cells #[.int .i64 0,.int .i64 0,.int .i64 0,.int .i64 0] 190)).setRow w1.heap.size #[.int .i64 0,.int .i64 3,.int .i64 1100,.int .i64 1199]):=below_setRow (hb1.trans (hba.mono hb1.size)) hb1.size _
 clear k3 hba PO
 go_upto_region 24 with (fail)
 generalize (w1.alloc (.cells #[.int .i64 0,.int .i64 0,.int .i64 0,.int .i64 0] 190)).setRow w1.heap.size #[.int .i64 0,.int .i64 3,.int .i64 1100,.int .i64 1199]=w2 at *
 generalize w1.heap.size=y at *
 obtain ⟨c0,c1,c2,c3⟩:_∧_∧_∧_:=za9 k4
 have hbk:=hB1 w2 (.cells #[.int .i64 1100,.int .i64 1199] 3)
 have kk:=hA1 w2 (.cells #[.int .i64 1100,.int .i64 1199] 3)
 have TX:=texts_any (w2.alloc (.cells #[.int .i64 1100,.int .i64 1199] 3)) (some ⟨w2.heap.size,0,none⟩) 2 2 [1100,1199] 0 rfl (by decide) (by decide) (zby (cs:=#[.int .i64 1100,.int .i64 1199]) kk) ((HT.out.below hb4).below hbk)
 have e9:([1100,1199]:List Int).map (fun x=>ba (Lib.itoa x))=[⟨#[49,49,48,48]⟩,⟨#[49,49,57,57]⟩]:=by decide +kernel
 rw [e9] at TX
 have HBK:=Lib.hid (hb4.trans (hbk.mono hb4.size))
 clear hbk kk hb4 k4 e9
 go_wp2_with (go_at_call 151;refine TX.mono ?_;rintro e w3 ⟨A',c',rfl,ho,hb3⟩)
 go_ret2
 exact ⟨A',c',rfl,za1 ho HBK.out.size,HBK.out.trans (hb3.mono HBK.out.size)⟩
end Go.Proofs.YtfdmeojcopkaoaaGreatDoor
