import Derived.Test.YtoodbfkbbchjiaaGreatDoorf3B11
import Derived.Test.YtoodbfkbbchjiaaGreatDoorf3Q7
set_option maxRecDepth 100000
set_option maxHeartbeats 16000000
namespace Go.Proofs.YtoodbfkbbchjiaaGreatDoor
open Go.RowKit
def logK:List EnV:=[(⟨#[97,110,110]⟩,⟨#[100,97,121,32,51]⟩),(⟨#[98,111,98]⟩,⟨#[114,101,97,100,32,116,32,48,63,49,32,49]⟩),(⟨#[97,110,110]⟩,⟨#[108,111,99,107,32,112,108,97,99,101,32,48,32,48]⟩),(⟨#[97,110,110]⟩,⟨#[119,111,114,107,115,32,98]⟩)]
theorem Log_ok (w:World):Calls Tryz.prog 17 #[] w fun e w'=>e=.returned (.slice (some ⟨w.heap.size,0,none⟩) 4 4)∧Rd w' w'.heap.size (some ⟨w.heap.size,0,none⟩) (zbe logK)∧Below w.heap.size w w':=by
 have hb0:=hB1 w (.cells #[.string ⟨#[97,110,110]⟩,.string ⟨#[100,97,121,32,51]⟩,.string ⟨#[98,111,98]⟩,.string ⟨#[114,101,97,100,32,116,32,48,63,49,32,49]⟩,.string ⟨#[97,110,110]⟩,.string ⟨#[108,111,99,107,32,112,108,97,99,101,32,48,32,48]⟩,.string ⟨#[97,110,110]⟩,.string ⟨#[119,111,114,107,115,32,98]⟩] 58)
 have k0:=hA1 w (.cells #[.string ⟨#[97,110,110]⟩,.string ⟨#[100,97,121,32,51]⟩,.string ⟨#[98,111,98]⟩,.string ⟨#[114,101,97,100,32,116,32,48,63,49,32,49]⟩,.string ⟨#[97,110,110]⟩,.string ⟨#[108,111,99,107,32,112,108,97,99,101,32,48,32,48]⟩,.string ⟨#[97,110,110]⟩,.string ⟨#[119,111,114,107,115,32,98]⟩] 58)
 have HR:=Lib.hid (zbq k0)
 have HB:=Lib.hid hb0
 clear hb0 k0
 go_enter Tryz.func17,Tryz.ntmps17
 go_wp2
 go_ret
 exact ⟨rfl,HR.out,HB.out⟩
def StQ (k:Nat) (q:LsV):Prop:=q.sws=[0]∧q.ctr=0∧q.trs.map LtV.key=(if k<3 then [([],0),([],0)] else [([0],1),([],0)])
structure Stage (n k:Nat) (V:BookV):Prop where
 h:V.h=hK n
 log:V.log=logK.take k
 day:V.day=if 1≤k then 3 else 0
 pl:V.pl=if 2≤k then some ⟨0,3,1100,1199⟩ else none
 q:StQ k V.q
 works:V.works=if 4≤k then [1] else []
 wk:k<4→V.wk=⟨none,0,0⟩
 se:V.se.es=#[]
theorem vanK (n:Nat):VanOk (hK n).vanes:=by
 constructor <;> (simp only [hK];decide)
theorem zlc {q:LsV} {a b:List Int × Int} (h:q.trs.map LtV.key=[a,b]):∃ t0 t1,q.trs=[t0,t1]∧LtV.key t0=a∧LtV.key t1=b:=by
 obtain ⟨sw,sws,tr,trs,ctr⟩:=q
 match trs,h with
 | [t0,t1],h =>
  simp only [List.map_cons,List.map_nil,List.cons.injEq,and_true] at h
  exact ⟨t0,t1,rfl,h.1,h.2⟩
theorem lsS_K {k:Nat} {q:LsV} (h:StQ k q):LsS q:=by
 obtain ⟨h1,_,h3⟩:=h
 have hl:∀ t∈q.trs,t.chain.length≤1000:=fun t ht=>by
  have hk:LtV.key t∈q.trs.map LtV.key:=List.mem_map_of_mem ht
  have e:t.chain=(LtV.key t).1:=rfl
  rw [h3] at hk
  split at hk <;> simp only [List.mem_cons,List.not_mem_nil,or_false] at hk <;> rcases hk with hk | hk <;> rw [e,hk] <;> decide
 have hn:=congrArg List.length h3
 rw [List.length_map] at hn
 have hn2:q.trs.length=2:=by rw [hn];split <;> rfl
 exact ⟨by omega,by rw [h1];decide,hl⟩
theorem enterK0 (w:World) (x b n:Nat) (V:BookV) (hV:Stage n 0 V) (h:BkAt w x b V) (hT:∀ W,Below x w W→CtAt W) (hxw:x≤w.heap.size):Calls Tryz.prog 53 #[.pointer (some ⟨b,0,none⟩),.agg #[.string ⟨#[97,110,110]⟩,.string ⟨#[100,97,121,32,51]⟩]] w fun e w'=>∃ V',Stage n 1 V'∧e=.returned (.int .i64 0)∧BkAt w' x b V'∧Below x w w':=by
 refine (zeg (show EnH 0 1 false 156 w x b V _ _ ⟨#[100,97,121]⟩ [⟨#[51]⟩] 1 0 (⟨#[97,110,110]⟩,3) from ⟨h,(by rw [hV.h];exact zbg n),hT,hxw,(by rw [hV.log];decide),(by decide +kernel),(by decide),(by decide +kernel:zli ⟨#[100,97,121,32,51]⟩=⟨#[100,97,121]⟩ :: [⟨#[51]⟩]),rfl,by decide,by decide,(by rw [hV.h];rfl),(by rw [hV.h];kernel_rfl),(by decide),actDay,fun _ _=>by kernel_rfl⟩) (fun V'=>V'={ V with day:=3 }) ?hP (zd2 0 156 1 _ rfl (by decide) (by decide +kernel)) ?DO).mono ?fin
 case hP=>rintro V' rfl;exact ⟨rfl,rfl⟩
 case DO =>
  intro W A c hB hC hx hr
  refine (setDay_ok W x b V hB hC.txt A c W.heap.size ⟨#[51]⟩ hr (by decide) 3 (by decide +kernel) (by decide) (by decide) (by rw [hV.day];decide)).mono ?_
  rintro e w' ⟨he,hB',hb',hk'⟩
  exact ⟨_,rfl,he,hB',hb',hk'⟩
 case fin =>
  rintro e w' ⟨V',A,c,rfl,he,hB,hb⟩
  refine Exists.intro _ (And.intro ?S (And.intro he (And.intro hB hb)))
  refine ⟨hV.h,?_,rfl,hV.pl,hV.q,hV.works,fun _=>hV.wk (by decide),hV.se⟩
  show V.log++_=_
  rw [hV.log]
  rfl
theorem enterK1 (w:World) (x b n:Nat) (V:BookV) (hV:Stage n 1 V) (h:BkAt w x b V) (hT:∀ W,Below x w W→CtAt W) (hxw:x≤w.heap.size):Calls Tryz.prog 53 #[.pointer (some ⟨b,0,none⟩),.agg #[.string ⟨#[98,111,98]⟩,.string ⟨#[114,101,97,100,32,116,32,48,63,49,32,49]⟩]] w fun e w'=>∃ V',Stage n 2 V'∧e=.returned (.int .i64 0)∧BkAt w' x b V'∧Below x w w':=by
 refine (zeg (show EnH 0 1 true 157 w x b V _ _ ⟨#[114,101,97,100]⟩ [⟨#[116]⟩,⟨#[48,63,49]⟩,⟨#[49]⟩] 3 1 (⟨#[98,111,98]⟩,0) from ⟨h,(by rw [hV.h];exact zbg n),hT,hxw,(by rw [hV.log];decide),(by decide +kernel),(by decide),(by decide +kernel:zli ⟨#[114,101,97,100,32,116,32,48,63,49,32,49]⟩=⟨#[114,101,97,100]⟩ :: [⟨#[116]⟩,⟨#[48,63,49]⟩,⟨#[49]⟩]),rfl,by decide,by decide,(by rw [hV.h];rfl),(by rw [hV.h];kernel_rfl),(by decide),actRead,fun _ _=>by kernel_rfl⟩) (fun V'=>V'={ V with pl:=some ⟨0,V.day,1100,1199⟩ }) ?hP (zlt 0 1 157 3 _ rfl (by decide) (by decide) (by decide +kernel) (by decide)) ?DO).mono ?fin
 case hP=>rintro V' rfl;exact ⟨rfl,rfl⟩
 case DO =>
  intro W A c hB hC hx hr
  have hS:HouseS V.h:=by rw [hV.h];exact zbg n
  have e9:([⟨#[116]⟩,⟨#[48,63,49]⟩,⟨#[49]⟩]:List ByteArray).take 1++[ba (Lib.join ((([⟨#[116]⟩,⟨#[48,63,49]⟩,⟨#[49]⟩]:List ByteArray).drop 1).map (·.data.toList)) [32])]=[⟨#[116]⟩,⟨#[48,63,49,32,49]⟩]:=by decide +kernel
  rw [e9] at hr
  refine (read_ok W x b V hB hS hC.txt hx hV.pl A c W.heap.size ⟨#[116]⟩ ⟨#[48,63,49,32,49]⟩ hr 0 (by rw [hV.h];kernel_rfl) (by decide) (by decide) ⟨#[48,63,49]⟩ ⟨#[49]⟩ true 1 (by decide +kernel) (by decide) (by decide) (by decide +kernel) (by decide) (by decide +kernel) (by decide) (by rw [hV.h];exact vanK n) (by rw [hV.h];kernel_rfl) (by rw [hV.h];kernel_rfl) (1100,1199) (by rw [hV.h];kernel_rfl)).mono ?_
  rintro e w' ⟨he,hB',hb',hk'⟩
  exact ⟨_,rfl,he,hB',hb',hk'⟩
 case fin =>
  rintro e w' ⟨V',A,c,rfl,he,hB,hb⟩
  refine Exists.intro _ (And.intro ?S (And.intro he (And.intro hB hb)))
  refine ⟨hV.h,?_,hV.day,?_,hV.q,hV.works,fun _=>hV.wk (by decide),hV.se⟩
  · show V.log++_=_
    rw [hV.log]
    rfl
  · show some _=_
    rw [hV.day]
    rfl
theorem stOk_K (w:World) (n k:Nat) (q:LsV) (hq:StQ k q) (hQ:LsAt w w.heap.size q):StOk (hK n).plant q:=by
 have h1:=hQ.sws.1
 have h2:=hQ.trs.1
 rw [hq.1] at h1
 have hn:=congrArg List.length hq.2.2
 rw [List.length_map] at hn
 have hn2:q.trs.length=2:=by rw [hn];split <;> rfl
 refine ⟨h1.symm,by rw [← h2,hn2];rfl,by rw [hq.1];decide,by rw [hq.2.1];decide,fun i t ht=>?_,lsS_K hq⟩
 have hk:(q.trs.map LtV.key)[i]?=some (LtV.key t):=by rw [List.getElem?_map,ht];rfl
 rw [hq.2.2] at hk
 have e1:t.chain=(LtV.key t).1:=rfl
 have e2:t.under=(LtV.key t).2:=rfl
 split at hk
 · match i,hk with
   | 0,hk=>exact .inl ⟨by rw [e1,← Option.some.inj hk],by rw [e2,← Option.some.inj hk]⟩
   | 1,hk=>exact .inl ⟨by rw [e1,← Option.some.inj hk],by rw [e2,← Option.some.inj hk]⟩
 · match i,hk with
   | 0,hk=>exact .inr ⟨rfl,0,by rw [e1,← Option.some.inj hk],by rw [e2,← Option.some.inj hk],rfl⟩
   | 1,hk=>exact .inl ⟨by rw [e1,← Option.some.inj hk],by rw [e2,← Option.some.inj hk]⟩
theorem taken_key {q:LsV} {L:List (List Int × Int)} (h:q.trs.map LtV.key=L) (l:List Int):zgp q l=l.any fun s=>decide (0≤holdK L s):=by
 unfold zgp
 congr 1
 funext s
 rw [zg5,h]
theorem lies_K (n:Nat) (q:LsV) (hq:q.sws=[0]) (r:RtV) (hr:r.needs=[0]) (secs:List Int):LiesOk (hK n).plant q r secs:=by
 intro i x hx _
 match i,hx with
 | 0,_=>exact ⟨0,by rw [hr];rfl,by rw [hq];rfl⟩
theorem enterK2 (w:World) (x b n:Nat) (V:BookV) (hV:Stage n 2 V) (h:BkAt w x b V) (hT:∀ W,Below x w W→CtAt W) (hxw:x≤w.heap.size):Calls Tryz.prog 53 #[.pointer (some ⟨b,0,none⟩),.agg #[.string ⟨#[97,110,110]⟩,.string ⟨#[108,111,99,107,32,112,108,97,99,101,32,48,32,48]⟩]] w fun e w'=>∃ V',Stage n 3 V'∧e=.returned (.int .i64 0)∧BkAt w' x b V'∧Below x w w':=by
 have hS:HouseS V.h:=by rw [hV.h];exact zbg n
 obtain ⟨t0,t1,htr,hk0,hk1⟩:=zlc (a:=([],0)) (b:=([],0)) hV.q.2.2
 have hkeys:V.q.trs.map LtV.key=[([],0),([],0)]:=hV.q.2.2
 refine (zeg (show EnH 1 0 true 160 w x b V _ _ ⟨#[108,111,99,107]⟩ [⟨#[112,108,97,99,101]⟩,⟨#[48]⟩,⟨#[48]⟩] 3 0 (⟨#[97,110,110]⟩,3) from ⟨h,(by rw [hV.h];exact zbg n),hT,hxw,(by rw [hV.log];decide),(by decide +kernel),(by decide),(by decide +kernel:zli ⟨#[108,111,99,107,32,112,108,97,99,101,32,48,32,48]⟩=⟨#[108,111,99,107]⟩ :: [⟨#[112,108,97,99,101]⟩,⟨#[48]⟩,⟨#[48]⟩]),rfl,by decide,by decide,(by rw [hV.h];rfl),(by rw [hV.h];kernel_rfl),(by decide),actLock,fun _ _=>by kernel_rfl⟩) (fun V'=>∃ q',q'.sws=V.q.sws∧q'.trs.map LtV.key=([0],1) :: V.q.trs.tail.map LtV.key∧q'.ctr=V.q.ctr∧V'={ V with q:=q' }) ?hP (zlt 1 0 160 3 _ rfl (by decide) (by decide) (by decide +kernel) (by decide)) ?DO).mono ?fin
 case hP=>rintro V' ⟨q',_,_,_,rfl⟩;exact ⟨rfl,rfl⟩
 case DO =>
  intro W A c hB hC hx hr
  have e9:([⟨#[112,108,97,99,101]⟩,⟨#[48]⟩,⟨#[48]⟩]:List ByteArray).take 0++[ba (Lib.join ((([⟨#[112,108,97,99,101]⟩,⟨#[48]⟩,⟨#[48]⟩]:List ByteArray).drop 0).map (·.data.toList)) [32])]=[⟨#[112,108,97,99,101,32,48,32,48]⟩]:=by decide +kernel
  rw [e9] at hr
  refine (ziv false W x b V hB hS (lsS_K hV.q) hC A c W.heap.size ⟨#[112,108,97,99,101,32,48,32,48]⟩ hr ((0:Nat):Int) 0 0 (fun W hW=>zhc ⟨#[112,108,97,99,101,32,48,32,48]⟩ ⟨#[112,108,97,99,101]⟩ ⟨#[48]⟩ ⟨#[48]⟩ 0 0 0 (by decide) (by decide +kernel) (by decide +kernel) (by decide) (by decide +kernel) (by decide) (by decide +kernel) (by decide) W hW) t0 (by rw [htr];rfl) [0] 1 (by decide) hx (by rw [hV.works];decide) ?AP (by rw [hV.works];rfl)).mono ?_
  case AP =>
   intro W2 hP2 hQ2 hx2
   have hO:=stOk_K W2 n 2 V.q hV.q hQ2
   rw [hV.h] at hP2 ⊢
   exact Apply0_ok W2 W2.heap.size (hK n).plant V.q t0 0 (hP2.mono hx2) hQ2 (zbg n).plant (zfm n) (Nat.le_refl _) hO (by rw [htr];rfl) (congrArg Prod.fst hk0) (by rw [taken_key hkeys];decide) rfl rfl (by show 3≤1000;omega) (by show 2≤1000;omega)
  rintro e w' ⟨q',h1,h2,h3,_,h5⟩
  exact ⟨_,⟨q',h1,h2,h3,rfl⟩,h5 rfl⟩
 case fin =>
  rintro e w' ⟨V',A,c,⟨q',h1,h2,h3,rfl⟩,he,hB,hb⟩
  refine Exists.intro _ (And.intro ?S (And.intro he (And.intro hB hb)))
  refine ⟨hV.h,?_,hV.day,hV.pl,⟨h1.trans hV.q.1,h3.trans hV.q.2.1,?_⟩,hV.works,fun _=>hV.wk (by decide),hV.se⟩
  · show V.log++_=_
    rw [hV.log]
    rfl
  · show q'.trs.map LtV.key=_
    rw [h2,htr]
    show ([0],1) :: [LtV.key t1]=_
    rw [hk1]
    rfl
theorem enterK3 (w:World) (x b n:Nat) (V:BookV) (hV:Stage n 3 V) (h:BkAt w x b V) (hT:∀ W,Below x w W→CtAt W) (hxw:x≤w.heap.size):Calls Tryz.prog 53 #[.pointer (some ⟨b,0,none⟩),.agg #[.string ⟨#[97,110,110]⟩,.string ⟨#[119,111,114,107,115,32,98]⟩]] w fun e w'=>∃ V',Stage n 4 V'∧e=.returned (.int .i64 0)∧BkAt w' x b V'∧Below x w w':=by
 have hS:HouseS V.h:=by rw [hV.h];exact zbg n
 have hkeys:V.q.trs.map LtV.key=[([0],1),([],0)]:=hV.q.2.2
 refine (zeg (show EnH 2 1 false 167 w x b V _ _ ⟨#[119,111,114,107,115]⟩ [⟨#[98]⟩] 1 0 (⟨#[97,110,110]⟩,3) from ⟨h,(by rw [hV.h];exact zbg n),hT,hxw,(by rw [hV.log];decide),(by decide +kernel),(by decide),(by decide +kernel:zli ⟨#[119,111,114,107,115,32,98]⟩=⟨#[119,111,114,107,115]⟩ :: [⟨#[98]⟩]),rfl,by decide,by decide,(by rw [hV.h];rfl),(by rw [hV.h];kernel_rfl),(by decide),actWorks,fun _ _=>by kernel_rfl⟩) (fun V'=>∃ A c,V'={ V with wk:=⟨A,1,c⟩,works:=[1] }) ?hP (zd2 2 167 1 _ rfl (by decide) (by decide +kernel)) ?DO).mono ?fin
 case hP=>rintro V' ⟨A,c,rfl⟩;exact ⟨rfl,rfl⟩
 case DO =>
  intro W A c hB hC hx hr
  refine (setWorks_ok W x b V hB hS (lsS_K hV.q) A c W.heap.size ⟨#[98]⟩ hr 1 (by rw [hV.h];kernel_rfl) (by decide) (by rw [zg5,hkeys];decide) (hV.wk (by decide)) hx).mono ?_
  rintro e w' ⟨A',c',he,hB',hb',hk'⟩
  exact ⟨_,⟨A',c',rfl⟩,he,hB',hb',hk'⟩
 case fin =>
  rintro e w' ⟨V',A,c,⟨A',c',rfl⟩,he,hB,hb⟩
  refine Exists.intro _ (And.intro ?S (And.intro he (And.intro hB hb)))
  refine ⟨hV.h,?_,hV.day,hV.pl,hV.q,rfl,fun h=>absurd h (by decide),hV.se⟩
  show V.log++_=_
  rw [hV.log]
  rfl
theorem enterK4 (w:World) (x b n:Nat) (V:BookV) (hV:Stage n 4 V) (h:BkAt w x b V) (hT:∀ W,Below x w W→CtAt W) (hxw:x≤w.heap.size):Calls Tryz.prog 53 #[.pointer (some ⟨b,0,none⟩),.agg #[.string ⟨#[97,110,110]⟩,.string ⟨#[108,111,99,107,32,114,101,113,117,101,115,116,32,48,32,48]⟩]] w fun e w'=>e=.returned (.int .i64 28)∧BkAt w' x b V∧Below x w w':=by
 have hS:HouseS V.h:=by rw [hV.h];exact zbg n
 obtain ⟨t0,t1,htr,hk0,hk1⟩:=zlc (a:=([0],1)) (b:=([],0)) hV.q.2.2
 have hkeys:V.q.trs.map LtV.key=[([0],1),([],0)]:=hV.q.2.2
 refine (enter_no (show EnH 1 0 true 160 w x b V _ _ ⟨#[108,111,99,107]⟩ [⟨#[114,101,113,117,101,115,116]⟩,⟨#[48]⟩,⟨#[48]⟩] 3 0 (⟨#[97,110,110]⟩,3) from ⟨h,(by rw [hV.h];exact zbg n),hT,hxw,(by rw [hV.log];decide),(by decide +kernel),(by decide),(by decide +kernel:zli ⟨#[108,111,99,107,32,114,101,113,117,101,115,116,32,48,32,48]⟩=⟨#[108,111,99,107]⟩ :: [⟨#[114,101,113,117,101,115,116]⟩,⟨#[48]⟩,⟨#[48]⟩]),rfl,by decide,by decide,(by rw [hV.h];rfl),(by rw [hV.h];kernel_rfl),(by decide),actLock,fun _ _=>by kernel_rfl⟩) 28 (by decide) (zlt 1 0 160 3 _ rfl (by decide) (by decide) (by decide +kernel) (by decide)) ?DO)
 case DO =>
  intro W A c hB hC hx hr
  have e9:([⟨#[114,101,113,117,101,115,116]⟩,⟨#[48]⟩,⟨#[48]⟩]:List ByteArray).take 0++[ba (Lib.join ((([⟨#[114,101,113,117,101,115,116]⟩,⟨#[48]⟩,⟨#[48]⟩]:List ByteArray).drop 0).map (·.data.toList)) [32])]=[⟨#[114,101,113,117,101,115,116,32,48,32,48]⟩]:=by decide +kernel
  rw [e9] at hr
  refine (ziv true W x b V hB hS (lsS_K hV.q) hC A c W.heap.size ⟨#[114,101,113,117,101,115,116,32,48,32,48]⟩ hr ((1:Nat):Int) 0 0 (fun W hW=>zhc ⟨#[114,101,113,117,101,115,116,32,48,32,48]⟩ ⟨#[114,101,113,117,101,115,116]⟩ ⟨#[48]⟩ ⟨#[48]⟩ 1 0 0 (by decide) (by decide +kernel) (by decide +kernel) (by decide) (by decide +kernel) (by decide) (by decide +kernel) (by decide) W hW) t0 (by rw [htr];rfl) [0,1] 1 (by decide) hx (by rw [hV.works];decide) ?AP (by rw [hV.works,htr];show ([1]:List Int).any (fun s=>decide (0≤holdK (([0,1],1) :: [LtV.key t1]) s))=true;rw [hk1];decide)).mono ?_
  case AP =>
   intro W2 hP2 hQ2 hx2
   have hO:=stOk_K W2 n 4 V.q hV.q hQ2
   rw [hV.h] at hP2 ⊢
   exact Apply1_ok W2 W2.heap.size (hK n).plant V.q t0 0 ((hK n).plant.rts[0]'(by show 0<3;omega)) [1] (hP2.mono hx2) hQ2 (zbg n).plant (zfm n) (Nat.le_refl _) hO (by rw [htr];rfl) (congrArg Prod.fst hk0) (congrArg Prod.snd hk0) rfl rfl (by decide) (by decide) (by rw [taken_key hkeys];decide) (lies_K n V.q hV.q.1 _ rfl _) (by show 1≤1000;omega) (by show zaj 0 0 ((3:Int) - 1)=true;decide) rfl (by show 3≤1000;omega) (by show 2≤1000;omega)
  rintro e w' ⟨q',h1,h2,h3,h4,_⟩
  exact h4 rfl
def OpnRel (x b m:Nat) (St:Nat→BookV→Prop) (w3:World) (u:Value) (wr:World):Prop:=∃ (k:Nat) (V:BookV),k≤m∧u=.int .i64 k∧St k V∧BkAt wr x b V∧Below x w3 wr
def zf5 (w:World) (Q:BookV→Prop) (e:Ending) (w':World):Prop:=∃ (x b:Nat) (V:BookV),e=.returned (.tuple #[.pointer (some ⟨b,0,none⟩),.int .i64 0,.int .i64 0])∧w.heap.size≤x∧x≤w'.heap.size∧Q V∧BkAt w' x b V∧Below w.heap.size w w'
def StepH (l:List EnV) (m:Nat) (St:Nat→BookV→Prop) (T:World→Prop):Prop:=∀ (w:World) (x b k:Nat) (V:BookV) (y:EnV),k<m→l[k]?=some y→St k V→BkAt w x b V→(∀ W,Below x w W→T W)→x≤w.heap.size→Calls Tryz.prog 53 #[.pointer (some ⟨b,0,none⟩),.agg #[.string y.1,.string y.2]] w fun e w'=>∃ V',St (k+1) V'∧e=.returned (.int .i64 0)∧BkAt w' x b V'∧Below x w w'
theorem enter_step (n m:Nat) (hm:m≤4):StepH (logK.take m) m (Stage n) CtAt:=by
 intro w x b k V y hkm hyt hV h hT hxw
 have hk:k<4:=by omega
 have hy:logK[k]?=some y:=by rw [List.getElem?_take,if_pos hkm] at hyt;exact hyt
 clear hkm hyt
 match k,hk,hy,hV with
 | 0,_,hy,hV=>obtain rfl:=(Option.some.inj hy).symm;exact enterK0 w x b n V hV h hT hxw
 | 1,_,hy,hV=>obtain rfl:=(Option.some.inj hy).symm;exact enterK1 w x b n V hV h hT hxw
 | 2,_,hy,hV=>obtain rfl:=(Option.some.inj hy).symm;exact enterK2 w x b n V hV h hT hxw
 | 3,_,hy,hV=>obtain rfl:=(Option.some.inj hy).symm;exact enterK3 w x b n V hV h hT hxw
theorem open_any (w:World) (h:HouseV) (l:List EnV) (m:Nat) (hm:m=l.length) (hm60:m≤60) (St:Nat→BookV→Prop) (hE:zcg h=(0,0,0)) (hS:HouseS h) (hP:zb7 h.plant=0) (A:Option Addr) (c:Nat) (hH:HouseAt w w.heap.size h) (hr:Rd w w.heap.size A (zbe l)) (hT:CtAt w) (S0:∀ V,Begun h V→St 0 V) (ST:StepH l m St CtAt):Calls Tryz.prog 31 #[.agg (zah h).toArray,.slice A m c] w (zf5 w (St m)):=by
 have HM:=Lib.hid hm
 clear hm
 have hb0:=hB1 w (.cells (zah h).toArray 45)
 have k0:=hA1 w (.cells (zah h).toArray 45)
 have hs0:=hS1 w (.cells (zah h).toArray 45)
 have HB:=Lib.hid hb0
 have HHF:=Lib.hid (show ∀ W,Below w.heap.size w W→HouseAt W w.heap.size h from fun W h=>hH.keep h)
 have HRF:=Lib.hid (show ∀ W,Below w.heap.size w W→Rd W w.heap.size A (zbe l) from fun W h=>hr.keep h)
 have HTF:=Lib.hid (show ∀ W,Below w.heap.size w W→CtAt W from fun W h=>hT.below h)
 clear hb0 hH hr hT
 go_enter Tryz.func31,Tryz.ntmps31
 go_upto_region 1 with (fail)
 generalize w.alloc (.cells (zah h).toArray 45)=w0 at *
 generalize hbw:w.heap.size=bw at *
 have HBW:=Lib.hid hbw
 clear hbw
 have CH:=cnHouse_any w0 bw h (HHF.out w0 HB.out) hS (by omega)
 rw [hE] at CH
 go_wp2_with (with_reducible refine zaw 45 ?_)
 unfold Stp
 refine wpList_load_row rfl 45 _ rfl bw rfl 45 _ (0,0) _ k0 Tryz.underlying45 rfl (by kernel_rfl) ?_
 go_wp2_with (first | (go_at_call 51;refine CH.mono ?_;rintro e w1 ⟨rfl,hb1⟩) | (with_reducible refine zas 85 ?_))
 have hba:=hB1 w1 (.cells #[.int .i64 0,.int .i64 0] 85)
 have k3:=hA1 w1 (.cells #[.int .i64 0,.int .i64 0] 85)
 unfold Stp
 refine wpList_store_row rfl 85 _ _ rfl w1.heap.size #[.int .i64 0,.int .i64 0] rfl rfl 85 _ k3 (by kernel_rfl) rfl (by kernel_rfl) ?_
 have hb4:Below w0.heap.size w0 ((w1.alloc (.cells #[.int .i64 0,.int .i64 0] 85)).setRow w1.heap.size #[.int .i64 0,.int .i64 0]):=below_setRow (hb1.trans (hba.mono hb1.size)) hb1.size _
 clear k3 hba CH
 go_upto_region 2 with (fail)
 generalize (w1.alloc (.cells #[.int .i64 0,.int .i64 0] 85)).setRow w1.heap.size #[.int .i64 0,.int .i64 0]=w2 at *
 have HB2:=Lib.hid (HB.out.trans (hb4.mono (by omega)))
 have k2:=zes hb4 k0
 have hs2:=Nat.le_trans hs0 hb4.size
 clear hb1 hb4 k0
 have U0:=fun e W=>zbk true e 0 rfl W
 have hm61:(m:Int)≤60:=by omega
 go_upto_region 3 with (first | (go_at_call 48;refine (U0 _ _).mono ?_;rintro e w' ⟨rfl,rfl⟩) | (go_at_call 47;refine (zde _ 0 0).mono ?_;rintro e w' ⟨rfl,rfl⟩))
 have hbn:=hB1 w2 (.cells #[.int .i64 0,.int .i64 0] 60)
 have k4:=zes hbn k2
 have HB3:=Lib.hid (HB2.out.trans (hbn.mono (by omega)))
 have hs3:=Nat.le_trans hs2 hbn.size
 clear hbn U0 k2
 generalize w2.alloc (.cells #[.int .i64 0,.int .i64 0] 60)=w3 at *
 have BG:=begin_any w3 bw h (HHF.out w3 HB3.out) hS hP (by omega)
 go_wp2_with (with_reducible refine zaw 45 ?_)
 unfold Stp
 refine wpList_load_row rfl 45 _ rfl bw rfl 45 _ (0,0) _ k4 Tryz.underlying45 rfl (by kernel_rfl) ?_
 go_wp2_with (go_at_call 52;refine BG.mono ?_;rintro e w4 ⟨b,V,rfl,hBk,hb5,hBn⟩)
 have S1:=S0 V hBn
 have HB4:=Lib.hid (HB3.out.trans (hb5.mono (by omega)))
 have hx3:w3.heap.size≤w4.heap.size:=hb5.size
 clear hBn BG hb5 k4 S0
 go_loopw [32] (fun u32 wr=>OpnRel w3.heap.size b m St w4 u32 wr) (fun u32 _=>m - (intOf u32).toNat)
 case atStart=>exact ⟨0,V,Nat.zero_le _,rfl,S1,hBk,Below.refl _ _⟩
 case round =>
  clear S1 hBk
  obtain ⟨k,V,hk,rfl,S2,hBk,hb⟩:=hrel
  have HBR:=Lib.hid (HB4.out.trans (hb.mono (by omega)))
  have hxr:w3.heap.size≤wr.heap.size:=Nat.le_trans hx3 hb.size
  have HBX:=Lib.hid hb
  clear hb
  by_cases hlt:k<m
  · obtain ⟨y,hyt⟩:∃ y,l[k]?=some y:=⟨_,List.getElem?_eq_getElem (by rw [← HM.out];exact hlt)⟩
    obtain ⟨bb,off,rfl,hbb,z0,z1⟩:=Rd.en (HRF.out wr HBR.out) hyt
    have hba:=hB1 wr (.cells #[.string y.1,.string y.2] 58)
    obtain ⟨e0,e1⟩:_∧_:=zaz (W:=wr.alloc (.cells #[.string y.1,.string y.2] 58)) (r:=wr.heap.size) (t:=58) (by rw [zae,if_pos rfl])
    have hBa:=hBk.keep hba
    have EN:=ST _ w3.heap.size b k V y hlt hyt S2 hBa (fun W hW=>HTF.out W ((HBR.out.trans (hba.mono (by have:=HBR.out.size;omega))).trans (hW.mono (by omega)))) (Nat.le_trans hxr hba.size)
    have HBA:=Lib.hid (HBX.out.trans (hba.mono hxr))
    clear hyt hBa hba
    go_upto_region 9 with (fail)
    clear z0 z1
    generalize wr.alloc (.cells #[.string y.1,.string y.2] 58)=wa at *
    go_wp2_with (go_at_call 53;refine EN.mono ?_;rintro e w9 ⟨V9,S9,rfl,hB9,hb9⟩)
    go_roundw
    case rel=>exact ⟨k+1,V9,hlt,by go_num,S9,hB9,HBA.out.trans hb9⟩
    case measure=>simp [intOf];omega
  · obtain rfl:k=m:=by omega
    go_wp2
    go_ret3
    exact ⟨w3.heap.size,b,V,rfl,by rw [HBW.out];omega,hxr,S2,hBk,by rw [HBW.out];exact HBR.out⟩
theorem open_K (w:World) (n m:Nat) (hm:m≤4) (A:Option Addr) (c:Nat) (hH:HouseAt w w.heap.size (hK n)) (hr:Rd w w.heap.size A (zbe (logK.take m))) (hT:CtAt w):Calls Tryz.prog 31 #[.agg (zah (hK n)).toArray,.slice A m c] w (zf5 w (Stage n m)):=
 open_any w (hK n) (logK.take m) m (by rw [List.length_take];exact (Nat.min_eq_left hm).symm) (by omega) (Stage n) (houseK_err n) (zbg n) (zfm n) A c hH hr hT (fun V b=>⟨b.h,b.log,b.day,b.pl,⟨b.sws,b.ctr,by rw [b.trs];rfl⟩,b.works,fun _=>b.wk,b.se.1⟩) (enter_step n m hm)
def NoH (x b:Nat) (V:BookV) (y:EnV) (E:Int) (W:World):Prop:=Calls Tryz.prog 53 #[.pointer (some ⟨b,0,none⟩),.agg #[.string y.1,.string y.2]] W fun e w'=>e=.returned (.int .i64 E)∧BkAt w' x b V∧Below x W w'
theorem accept_no (w:World) (x b:Nat) (V:BookV) (y:EnV) (E:Int) (h:BkAt w x b V) (hn:V.log.length<60) (hxw:x≤w.heap.size) (EN:∀ W,BkAt W x b V→Below x w W→NoH x b V y E W):Calls Tryz.prog 32 #[.pointer (some ⟨b,0,none⟩),.agg #[.string y.1,.string y.2]] w fun e w'=>e=.returned (.int .i64 E)∧Below x w w':=by
 obtain ⟨a,t⟩:=y
 have hb0:=hB1 w (.cells #[.string a,.string t] 58)
 have k0:=hA1 w (.cells #[.string a,.string t] 58)
 have H0:=h.keep hb0
 have hb0x:=hb0.mono hxw
 have hln:=h.log.1
 have d25:=H0.cell (i:=25) (u:=V.lg.v) rfl
 simp only [SlV.v] at d25
 have EK:=EN _ H0 hb0x
 unfold NoH at EK
 have HB:=Lib.hid hb0x
 have hne:((V.lg.n:Int) == 60)=false:=by
  have:¬ (V.lg.n:Int)=60:=by omega
  simpa using this
 have hne2:¬ (V.lg.n:Int)=60:=by omega
 clear h hb0 hb0x H0 hln EN
 go_enter Tryz.func32,Tryz.ntmps32
 go_upto_region 1 with (fail)
 generalize w.alloc (.cells #[.string a,.string t] 58)=w0 at *
 generalize hbw:w.heap.size=bw at *
 have HBW:=Lib.hid hbw
 clear hbw
 obtain ⟨e0,e1⟩:_∧_:=zaz k0
 go_wp2_with (go_at_call 53;refine EK.mono ?_;rintro e w1 ⟨rfl,hB1,hb1⟩)
 go_ret
 exact ⟨rfl,HB.out.trans hb1⟩
theorem Accept_no (w:World) (h:HouseV) (A:Option Addr) (m c:Nat) (y:EnV) (E:Int) (hE:E≠0) (Q:BookV→Prop) (hT:CtAt w) (OP:∀ W,Below w.heap.size w W→Calls Tryz.prog 31 #[.agg (zah h).toArray,.slice A m c] W (zf5 W Q)) (hQ:∀ V,Q V→V.log.length<60)
 (EN:∀ (W:World) (x b:Nat) (V:BookV),Q V→BkAt W x b V→(∀ W',Below x W W'→CtAt W')→x≤W.heap.size→NoH x b V y E W):Calls Tryz.prog 14 #[.agg (zah h).toArray,.slice A m c,.agg #[.string y.1,.string y.2]] w fun e w'=>e=.returned (.tuple #[.slice none 0 0,.int .i64 E])∧Below w.heap.size w w':=by
 obtain ⟨a,t⟩:=y
 have hb0:=hB2 w (.cells (zah h).toArray 45) (.cells #[.string a,.string t] 58)
 have k0:=hA2a w (.cells (zah h).toArray 45) (.cells #[.string a,.string t] 58)
 have k1:=hA2b w (.cells (zah h).toArray 45) (.cells #[.string a,.string t] 58)
 have OP1:=OP _ hb0
 have HB:=Lib.hid hb0
 have HTF:=Lib.hid (show ∀ W,Below w.heap.size w W→CtAt W from fun W h=>hT.below h)
 have hs0:=hS2 w (.cells (zah h).toArray 45) (.cells #[.string a,.string t] 58)
 have hE1:(E == 0)=false:=by simpa using hE
 have hE2:(E != 0)=true:=by simpa using hE
 clear hb0 hT OP
 go_enter Tryz.func14,Tryz.ntmps14
 go_upto_region 1 with (fail)
 generalize (w.alloc (.cells (zah h).toArray 45)).alloc (.cells #[.string a,.string t] 58)=w0 at *
 generalize hbw:w.heap.size=bw at *
 have HBW:=Lib.hid hbw
 clear hbw
 go_wp2_with (with_reducible refine zaw 45 ?_)
 unfold Stp
 refine wpList_load_row rfl 45 _ rfl bw rfl 45 _ (0,0) _ k0 Tryz.underlying45 rfl (by kernel_rfl) ?_
 go_upto_region 2 with (go_at_call 31;refine OP1.mono ?_;rintro e w1 ⟨x,b,V,rfl,hx,hx1,hQV,hBk,hb1⟩)
 have hb1x:=HB.out.trans (hb1.mono (by omega))
 obtain ⟨e0,e1⟩:_∧_:=zaz (zes hb1 k1)
 have AK:=accept_no w1 x b V (a,t) E hBk (hQ V hQV) hx1 fun W hW hbW=>EN W x b V hQV hW (fun W' hW'=>HTF.out W' (hb1x.trans ((hbW.trans hW').mono (by omega)))) (Nat.le_trans hx1 hbW.size)
 have HB1:=Lib.hid hb1x
 clear OP1 hb1 k0 k1 hb1x EN hQ hQV
 go_wp2_with (go_at_call 32;refine AK.mono ?_;rintro e w2 ⟨rfl,hb2⟩)
 go_ret2
 exact ⟨rfl,by rw [HBW.out];exact HB1.out.trans (hb2.mono (by omega))⟩
theorem Accept_K (w:World) (n:Nat) (A:Option Addr) (c:Nat) (hH:HouseAt w w.heap.size (hK n)) (hr:Rd w w.heap.size A (zbe logK)) (hT:CtAt w):Calls Tryz.prog 14 #[.agg (zah (hK n)).toArray,.slice A 4 c,.agg #[.string ⟨#[97,110,110]⟩,.string ⟨#[108,111,99,107,32,114,101,113,117,101,115,116,32,48,32,48]⟩]] w fun e w'=>e=.returned (.tuple #[.slice none 0 0,.int .i64 28])∧Below w.heap.size w w':=
 Accept_no w (hK n) A 4 c (⟨#[97,110,110]⟩,⟨#[108,111,99,107,32,114,101,113,117,101,115,116,32,48,32,48]⟩) 28 (by decide) (Stage n 4) hT (fun W hW=>open_K W n 4 (Nat.le_refl _) A c ((hH.keep hW).mono hW.size) ((hr.keep hW).mono hW.size) (hT.below hW)) (fun V hV=>by rw [hV.log];decide) fun W x b V hV hB hTT hx=>enterK4 W x b n V hV hB hTT hx
theorem texts_any (w:World) (A:Option Addr) (n c:Nat) (l:List Int) (E:Int) (hl:l.length=n) (hn:n≤1000) (hi:∀ x∈l,-9223372036854775808≤x∧x≤9223372036854775807) (hr:Rd w w.heap.size A (zai l)) (ht:TxtAt w):Calls Tryz.prog 100 #[.slice A n c,.int .i64 E] w fun e w'=>∃ A' c',e=.returned (.tuple #[.slice A' n c',.int .i64 E])∧w'.ownsRow w.heap.size 9 1 (.slice A' n c') n (strCells (l.map fun x=>ba (Lib.itoa x)))∧Below w.heap.size w w':=by
 have HCN:=Lib.hid hl
 have HTR:=Lib.hid hr
 have HT:=Lib.hid ht
 have HI:=Lib.hid hi
 obtain ⟨i1,hi1,hy0,hy1,hy2⟩:=info_parts info9s
 clear hl hr ht hi
 go_enter Tryz.func100,Tryz.ntmps100
 go_wp2
 go_loopw [6,11] (fun u6 u11 wz=>FcRel w l n u6 u11 wz) (fun _ u11 _=>n - (intOf u11).toNat)
 case atStart=>exact ⟨0,Nat.zero_le _,rfl,⟨rfl,.inl ⟨rfl,rfl⟩⟩,Below.refl _ _⟩
 case round =>
  obtain ⟨j,hj,rfl,hown9,hb9⟩:=hrel
  obtain ⟨A9,c9,rfl⟩:=zcn hown9
  have HOWN9:=Lib.hid hown9
  have HB9:=Lib.hid hb9
  have hs9:=hb9.size
  by_cases hlt2:j<n
  · have hjl:j<l.length:=by rw [HCN.out];exact hlt2
    obtain ⟨x,hx⟩:∃ x,l[j]?=some x:=⟨_,List.getElem?_eq_getElem hjl⟩
    obtain ⟨cb,co,rfl,hcb,y0⟩:=((HTR.out).keep hb9).at_ (k:=j) (u:=.int .i64 x) (by simp only [zai,List.getElem?_map,hx,Option.map_some])
    have ITX:=zb8 x (HI.out x (List.mem_of_getElem? hx)).1 (HI.out x (List.mem_of_getElem? hx)).2 wr (HT.out.below hb9)
    have HTK:Hid (strCells ((l.take (j+1)).map fun x=>ba (Lib.itoa x))=strCells ((l.take j).map fun x=>ba (Lib.itoa x))++[.string (ba (Lib.itoa x))]):=by
     rw [Hid,List.take_add_one,hx,List.map_append]
     simp [strCells]
    clear hown9 hb9 hx hjl
    go_wp2_with (first | (go_at_call 57;refine ITX.mono ?_;rintro e w1 ⟨rfl,hb1⟩) | (at_builtin;refine stp ?_))
    unfold Stp
    have hown1:=zaf HOWN9.out hb1
    have hb91:=HB9.out.trans (hb1.mono hs9)
    have hs91:=Nat.le_trans hs9 hb1.size
    refine wpList_append_lies _ rfl _ _ 22 rfl w.heap.size 9 i1 _ 1 16 Tryz.underlying22 hi1 hy0 hy1 hy2 rfl (by omega) (.slice A9 (j) c9) (j) _ rfl ((hown1).alloc _) ⟨w1.heap.size,0,none⟩ 1 1 [.string (ba (Lib.itoa x))] rfl rfl (zez (by simp)) (by simp [Value.oneCell']) (by omega) (by simp only [maxLen];omega) (by omega) (by simp;omega) _ rfl ?_
    intro gg cap w6 hown6 hgrow6 _ _
    have hb6:=((hb91).alloc (hs91) _).grown hgrow6 (by simp;omega) (fun j hj=>(zbi (hown1) hj).1)
    have HB7:=Lib.hid hb6
    have HO7:Hid (w6.ownsRow w.heap.size 9 1 (.slice (some ⟨gg,0,none⟩) (j+1) cap) (j+1) (strCells ((l.take (j+1)).map fun x=>ba (Lib.itoa x)))):=by
     rw [Hid,HTK.out]
     exact hown6
    clear hown6 hgrow6 hb6 hown1 hb91 hb1 ITX y0
    go_wp2
    go_roundw
    case rel=>exact ⟨j+1,hlt2,by go_num,HO7.out,HB7.out⟩
    case measure=>simp [intOf];omega
  · obtain rfl:j=n:=by omega
    have e:l.take j=l:=List.take_of_length_le (by rw [HCN.out];exact Nat.le_refl _)
    rw [e] at hown9
    have HO9:=Lib.hid hown9
    clear hown9 hb9 e
    go_wp2
    go_ret2
    exact ⟨A9,c9,rfl,HO9.out,HB9.out⟩
theorem zero167 (w:World):(zeroValue 167).run Tryz.prog w=.ok (.agg #[.int .i64 0,.int .i64 0,.int .i64 0,.int .i64 0]) w:=by kernel_rfl
theorem placeOf_K (w:World) (x b n:Nat) (V:BookV) (hV:Stage n 4 V) (h:BkAt w x b V):Calls Tryz.prog 103 #[.pointer (some ⟨b,0,none⟩),.string ⟨#[116]⟩] w fun e w'=>e=.returned (.tuple #[.agg #[.int .i64 0,.int .i64 3,.int .i64 1100,.int .i64 1199],.int .i64 0])∧Below w.heap.size w w':=by
 have hS:HouseS V.h:=by rw [hV.h];exact zbg n
 have hb0:=hB1 w (.cells #[.int .i64 0,.int .i64 0,.int .i64 0,.int .i64 0] 167)
 have k0:=hA1 w (.cells #[.int .i64 0,.int .i64 0,.int .i64 0,.int .i64 0] 167)
 have H0:=h.keep hb0
 have TR:=zc3 _ x b V H0 hS ⟨#[116]⟩
 have hi:zh9 V.h.plant.trains ⟨#[116]⟩=0:=by rw [hV.h];kernel_rfl
 rw [hi] at TR
 have d31:=H0.cell (i:=31) (u:=.map (some V.mp)) rfl
 have hm:=H0.r.pl
 rw [hV.pl] at hm
 have hlk:=zd0 Tryz.underlying105 hm 0 (j:=0) (v:=.agg #[.int .i64 0,.int .i64 3,.int .i64 1100,.int .i64 1199]) rfl
 have HB:=Lib.hid hb0
 have hs0:=hS1 w (.cells #[.int .i64 0,.int .i64 0,.int .i64 0,.int .i64 0] 167)
 clear h hb0 H0 hi hm
 go_enter Tryz.func103,Tryz.ntmps103
 go_upto_region 1 with (fail)
 generalize w.alloc (.cells #[.int .i64 0,.int .i64 0,.int .i64 0,.int .i64 0] 167)=w0 at *
 generalize hbw:w.heap.size=bw at *
 have HBW:=Lib.hid hbw
 clear hbw
 go_upto_region 2 with (go_at_call 46;refine TR.mono ?_;rintro e w' ⟨rfl,rfl⟩)
 go_wp2_with (with_reducible refine zas 167 ?_)
 have hba:=hB1 w0 (.cells #[.int .i64 0,.int .i64 0,.int .i64 0,.int .i64 0] 167)
 have k3:=hA1 w0 (.cells #[.int .i64 0,.int .i64 0,.int .i64 0,.int .i64 0] 167)
 unfold Stp
 refine wpList_store_row rfl 167 _ _ rfl w0.heap.size #[.int .i64 0,.int .i64 3,.int .i64 1100,.int .i64 1199] rfl rfl 167 _ k3 (by kernel_rfl) rfl (by kernel_rfl) ?_
 have k4:=setRow_heap _ w0.heap.size _ #[.int .i64 0,.int .i64 3,.int .i64 1100,.int .i64 1199] 167 (0,0) k3
 have hb4:Below w0.heap.size w0 ((w0.alloc (.cells #[.int .i64 0,.int .i64 0,.int .i64 0,.int .i64 0] 167)).setRow w0.heap.size #[.int .i64 0,.int .i64 3,.int .i64 1100,.int .i64 1199]):=below_setRow hba (Nat.le_refl _) _
 clear k3 hba TR hlk d31
 go_upto_region 3 with (fail)
 generalize (w0.alloc (.cells #[.int .i64 0,.int .i64 0,.int .i64 0,.int .i64 0] 167)).setRow w0.heap.size #[.int .i64 0,.int .i64 3,.int .i64 1100,.int .i64 1199]=w2 at *
 generalize hyy:w0.heap.size=y at *
 have k2:=(hb4.block bw (by omega)).trans k0
 obtain ⟨c0,c1,c2,c3⟩:_∧_∧_∧_:=zbo k4
 have U0:=fun e W=>zbk true e 0 rfl W
 have HB2:=Lib.hid (HB.out.trans (hb4.mono (by omega)))
 have x0:=fun y:Xt w2=>y.cell c0
 have x1:=fun y:Xt w2=>y.cell c1
 have x2:=fun y:Xt w2=>y.cell c2
 have x3:=fun y:Xt w2=>y.cell c3
 refine zak [8,9] (fun w'=>∃ y:Xt w2,w'=y.1) (by kernel_rfl) ⟨⟨w2.drew,(Below.refl _ _).drew⟩,rfl⟩ ?_
 refine zao [0,1,2,4] 6 rfl (by kernel_rfl) ?_
 simp only [zad,zac,zaa,zX1,zX2,zX3]
 repeat (go_big_quiet_step (fail))
 refine wpQuiet_nil ?_
 have hbd:Below w2.heap.size w2 w2.drew:=(Below.refl _ _).drew
 show wpE _ _ _ _ _ _ _ _ _ w2.drew
 generalize w2.drew=wd at *
 clear x0 x1 x2 x3 c0 c1 c2 c3
 refine zan (i:=3) rfl (by kernel_rfl) rfl ?_
 unfold zar
 simp only [zad,zac,zaa,zX1,zX2,zX3]
 go_wp2_with (go_at_call 48;refine (U0 _ _).mono ?_;rintro e w' ⟨rfl,rfl⟩)
 refine zab ⟨⟨⟨_,hbd⟩,rfl⟩,?_⟩
 refine zan (i:=5) rfl (by kernel_rfl) rfl ?_
 unfold zar
 simp only [zad,zac,zaa,zX1,zX2,zX3]
 go_wp2_with (go_at_call 48;refine (U0 _ _).mono ?_;rintro e w' ⟨rfl,rfl⟩)
 refine zab ⟨⟨⟨_,hbd⟩,rfl⟩,?_⟩
 refine zan (i:=6) rfl (by kernel_rfl) rfl ?_
 unfold zar
 simp only [zad,zac,zaa,zX1,zX2,zX3]
 go_wp2
 have hbn:=hB1 wd (.cells #[.int .i64 0,.int .i64 0] 60)
 have kq:=hA1 wd (.cells #[.int .i64 0,.int .i64 0] 60)
 have hbe:=hbd.trans (hbn.mono hbd.size)
 refine zab ⟨⟨⟨_,hbe⟩,rfl⟩,?_⟩
 refine zan (i:=7) rfl (by kernel_rfl) rfl ?_
 unfold zar
 simp only [zad,zac,zaa,zX1,zX2,zX3]
 go_wp2_with (go_at_call 47;refine (zde _ 0 0).mono ?_;rintro e w' ⟨rfl,rfl⟩)
 refine zab ⟨⟨⟨_,hbe⟩,rfl⟩,?_⟩
 refine zau rfl (by kernel_rfl) ?_
 simp only [zad,zac,zaa,zX1,zX2,zX3]
 have k5:=zes hbe k2
 refine wpList_store_row rfl 167 _ _ rfl bw #[.int .i64 0,.int .i64 3,.int .i64 1100,.int .i64 1199] rfl rfl 167 _ k5 (by kernel_rfl) rfl (by kernel_rfl) ?_
 have hsw2:bw≤w2.heap.size:=by have:=hb4.size;omega
 have kr:=setRow_heap (wd.alloc (.cells #[.int .i64 0,.int .i64 0] 60)) bw _ #[.int .i64 0,.int .i64 3,.int .i64 1100,.int .i64 1199] 167 (0,0) k5
 have hbr:Below bw w ((wd.alloc (.cells #[.int .i64 0,.int .i64 0] 60)).setRow bw #[.int .i64 0,.int .i64 3,.int .i64 1100,.int .i64 1199]):=below_setRow (HB2.out.trans (hbe.mono hsw2)) (Nat.le_refl _) _
 generalize (wd.alloc (.cells #[.int .i64 0,.int .i64 0] 60)).setRow bw #[.int .i64 0,.int .i64 3,.int .i64 1100,.int .i64 1199]=w7 at *
 go_wp2
 refine zab ?_
 go_wp2
 obtain ⟨c0,c1,c2,c3⟩:_∧_∧_∧_:=zbo kr
 refine bodyPost_ret (v:=.tuple #[.agg #[.int .i64 0,.int .i64 3,.int .i64 1100,.int .i64 1199],.int .i64 0]) (by simp [results,Tryz.results103,go_sem,c0,c1,c2,c3,zam]) rfl ⟨rfl,by rw [HBW.out];exact hbr⟩
theorem answer_K (w:World) (x b n:Nat) (V:BookV) (hV:Stage n 4 V) (h:BkAt w x b V) (ht:TxtAt w) (A:Option Addr) (c B:Nat) (hr:Rd w B A (strCells [⟨#[119,104,101,114,101]⟩,⟨#[116]⟩])):Calls Tryz.prog 67 #[.pointer (some ⟨b,0,none⟩),.slice A 2 c] w fun e w'=>∃ A' c',e=.returned (.tuple #[.slice A' 2 c',.int .i64 0])∧w'.ownsRow w.heap.size 9 1 (.slice A' 2 c') 2 (strCells [⟨#[49,49,48,48]⟩,⟨#[49,49,57,57]⟩])∧Below w.heap.size w w':=by
 obtain ⟨bb,off,rfl,hbb,z0⟩:=hr.at_ (k:=0) (u:=.string ⟨#[119,104,101,114,101]⟩) rfl
 have z1:=zby hr (k:=1) (u:=.string ⟨#[116]⟩) rfl
 rw [Nat.add_zero] at z0
 have PO:=placeOf_K w x b n V hV h
 have HT:=Lib.hid ht
 clear hr h ht
 go_enter Tryz.func67,Tryz.ntmps67
 go_wp2_with (first | (go_at_call 103;refine PO.mono ?_;rintro e w1 ⟨rfl,hb1⟩) | (with_reducible refine zas 167 ?_))
 have hba:=hB1 w1 (.cells #[.int .i64 0,.int .i64 0,.int .i64 0,.int .i64 0] 167)
 have k3:=hA1 w1 (.cells #[.int .i64 0,.int .i64 0,.int .i64 0,.int .i64 0] 167)
 unfold Stp
 refine wpList_store_row rfl 167 _ _ rfl w1.heap.size #[.int .i64 0,.int .i64 3,.int .i64 1100,.int .i64 1199] rfl rfl 167 _ k3 (by kernel_rfl) rfl (by kernel_rfl) ?_
 have k4:=setRow_heap _ w1.heap.size _ #[.int .i64 0,.int .i64 3,.int .i64 1100,.int .i64 1199] 167 (0,0) k3
 have hb4:Below w.heap.size w ((w1.alloc (.cells #[.int .i64 0,.int .i64 0,.int .i64 0,.int .i64 0] 167)).setRow w1.heap.size #[.int .i64 0,.int .i64 3,.int .i64 1100,.int .i64 1199]):=below_setRow (hb1.trans (hba.mono hb1.size)) hb1.size _
 clear k3 hba PO
 go_upto_region 24 with (fail)
 generalize (w1.alloc (.cells #[.int .i64 0,.int .i64 0,.int .i64 0,.int .i64 0] 167)).setRow w1.heap.size #[.int .i64 0,.int .i64 3,.int .i64 1100,.int .i64 1199]=w2 at *
 generalize w1.heap.size=y at *
 obtain ⟨c0,c1,c2,c3⟩:_∧_∧_∧_:=zbo k4
 have hbk:=hB1 w2 (.cells #[.int .i64 1100,.int .i64 1199] 3)
 have kk:=hA1 w2 (.cells #[.int .i64 1100,.int .i64 1199] 3)
 have TX:=texts_any (w2.alloc (.cells #[.int .i64 1100,.int .i64 1199] 3)) (some ⟨w2.heap.size,0,none⟩) 2 2 [1100,1199] 0 rfl (by decide) (by decide) (zbq (cs:=#[.int .i64 1100,.int .i64 1199]) kk) ((HT.out.below hb4).below hbk)
 have e9:([1100,1199]:List Int).map (fun x=>ba (Lib.itoa x))=[⟨#[49,49,48,48]⟩,⟨#[49,49,57,57]⟩]:=by decide +kernel
 rw [e9] at TX
 have HBK:=Lib.hid (hb4.trans (hbk.mono hb4.size))
 clear hbk kk hb4 k4 e9
 go_wp2_with (go_at_call 100;refine TX.mono ?_;rintro e w3 ⟨A',c',rfl,ho,hb3⟩)
 go_ret2
 exact ⟨A',c',rfl,za0 ho HBK.out.size,HBK.out.trans (hb3.mono HBK.out.size)⟩
theorem ask_K (w:World) (x b n:Nat) (V:BookV) (hV:Stage n 4 V) (h:BkAt w x b V) (ht:TxtAt w):Calls Tryz.prog 37 #[.pointer (some ⟨b,0,none⟩),.string ⟨#[119,104,101,114,101,32,116]⟩] w fun e w'=>e=.returned (.tuple #[.string ⟨#[49,49,48,48,32,49,49,57,57]⟩,.int .i64 0])∧Below w.heap.size w w':=by
 have SP:=zl9 ⟨#[119,104,101,114,101,32,116]⟩ (by decide) w ht
 have hsp:zli ⟨#[119,104,101,114,101,32,116]⟩=[⟨#[119,104,101,114,101]⟩,⟨#[116]⟩]:=by decide +kernel
 rw [hsp] at SP
 have HH:=Lib.hid h
 have HT:=Lib.hid ht
 clear hsp h ht
 go_enter Tryz.func37,Tryz.ntmps37
 go_upto_region 2 with (go_at_call 66;refine SP.mono ?_;rintro e w1 ⟨bb,rfl,hbB,hrd,hb1⟩)
 have AN1:=answer_K w1 x b n V hV (HH.out.keep hb1) (HT.out.below hb1) (some ⟨bb,0,none⟩) 2 w1.heap.size hrd
 have z0:=zby hrd (k:=0) (u:=.string ⟨#[119,104,101,114,101]⟩) rfl
 rw [Nat.zero_add] at z0
 clear SP
 go_upto_region 3 with (go_at_call 67;refine AN1.mono ?_;rintro e w2 ⟨A2,c2,rfl,ho,hb2⟩)
 have z0b:=zat hb2 z0
 have JN:=zf6 [⟨#[49,49,48,48]⟩,⟨#[49,49,57,57]⟩] ⟨#[32]⟩ A2 c2 w2.heap.size w2 (zbn ho) (Nat.le_refl _) (za7 ho) (by decide) (by decide +kernel)
 have ej:ba (Lib.join (([⟨#[49,49,48,48]⟩,⟨#[49,49,57,57]⟩]:List ByteArray).map (·.data.toList)) (⟨#[32]⟩:ByteArray).data.toList)=⟨#[49,49,48,48,32,49,49,57,57]⟩:=by decide +kernel
 rw [ej] at JN
 have hb12:=Lib.hid (hb1.trans (hb2.mono hb1.size))
 clear AN1 z0 hrd ho hb1 hb2 ej
 go_wp2_with (go_at_call 56;refine JN.mono ?_;rintro e w3 ⟨rfl,hb3⟩)
 go_ret2
 exact ⟨rfl,hb12.out.trans (hb3.mono hb12.out.size)⟩
theorem ask1_K (w:World) (x b n:Nat) (V:BookV) (hV:Stage n 4 V) (h:BkAt w x b V) (ht:TxtAt w) (q:Nat) (hq:w.cell? ⟨q,0,none⟩=some (.string ⟨#[119,104,101,114,101,32,116]⟩)):Calls Tryz.prog 36 #[.pointer (some ⟨b,0,none⟩),.pointer (some ⟨q,0,none⟩)] w fun e w'=>e=.returned (.tuple #[.string ⟨#[49,49,48,48,32,49,49,57,57]⟩,.int .i64 0])∧Below w.heap.size w w':=by
 have AK:=ask_K w x b n V hV h ht
 clear h ht
 go_enter Tryz.func36,Tryz.ntmps36
 go_wp2_with (go_at_call 37;refine AK.mono ?_;rintro e w1 ⟨rfl,hb1⟩)
 go_ret2
 exact ⟨rfl,hb1⟩
def AskP (P:Value→Int→World→Prop) (W:World) (e:Ending) (w':World):Prop:=∃ v E,e=.returned (.tuple #[v,.int .i64 E])∧P v E w'∧Below W.heap.size W w'
def StrP (S:ByteArray) (v:Value) (E:Int) (_:World):Prop:=v=.string S∧E=0
theorem asked44 (w:World) (h:HouseV) (A:Option Addr) (m c:Nat) (f:Nat) (lb:Array Value) (hf:∀ av W,(callFunc f av).run Tryz.prog W=.ok (.enter f av) W) (Q:BookV→Prop) (P:Value→Int→World→Prop) (hT:CtAt w) (OP:∀ W,Below w.heap.size w W→Calls Tryz.prog 31 #[.agg (zah h).toArray,.slice A m c] W (zf5 W Q))
 (DO:∀ (W:World) (x b:Nat) (V:BookV),Below w.heap.size w W→Q V→BkAt W x b V→CtAt W→Calls Tryz.prog f (#[.pointer (some ⟨b,0,none⟩)]++lb) W (AskP P W)):Calls Tryz.prog 33 #[.agg (zah h).toArray,.slice A m c,.func (.func f) #[] lb] w (AskP P w):=by
 have hb0:=hB1 w (.cells (zah h).toArray 45)
 have k0:=hA1 w (.cells (zah h).toArray 45)
 have OP1:=OP _ hb0
 have HB:=Lib.hid hb0
 have HDO:=Lib.hid DO
 have HTF:=Lib.hid (show ∀ W,Below w.heap.size w W→CtAt W from fun W h=>hT.below h)
 have hs0:=hS1 w (.cells (zah h).toArray 45)
 clear hb0 hT DO OP
 go_enter Tryz.func33,Tryz.ntmps33
 go_upto_region 1 with (fail)
 generalize w.alloc (.cells (zah h).toArray 45)=w0 at *
 generalize hbw:w.heap.size=bw at *
 have HBW:=Lib.hid hbw
 clear hbw
 go_wp2_with (with_reducible refine zaw 45 ?_)
 unfold Stp
 refine wpList_load_row rfl 45 _ rfl bw rfl 45 _ (0,0) _ k0 Tryz.underlying45 rfl (by kernel_rfl) ?_
 go_upto_region 2 with (go_at_call 31;refine OP1.mono ?_;rintro e w1 ⟨x,b,V,rfl,hx,hx1,ST,hBk,hb1⟩)
 have hb1x:=HB.out.trans (hb1.mono (by omega))
 have DX:=HDO.out w1 x b V hb1x ST hBk (HTF.out w1 hb1x)
 have HB1:=Lib.hid hb1x
 have hs1:=hb1.size
 clear OP1 hb1 k0 hb1x
 go_wp2_with (refine DX.mono ?_;rintro e w2 ⟨v,E,rfl,hP,hb2⟩)
 have HP:=Lib.hid hP
 clear hP
 go_ret2
 exact ⟨v,E,rfl,HP.out,by rw [HBW.out];exact HB1.out.trans (hb2.mono (by omega))⟩
theorem Ask_K (w:World) (n:Nat) (A:Option Addr) (c:Nat) (hH:HouseAt w w.heap.size (hK n)) (hr:Rd w w.heap.size A (zbe logK)) (hT:CtAt w):Calls Tryz.prog 19 #[.agg (zah (hK n)).toArray,.slice A 4 c,.string ⟨#[119,104,101,114,101,32,116]⟩] w fun e w'=>e=.returned (.tuple #[.string ⟨#[49,49,48,48,32,49,49,57,57]⟩,.int .i64 0])∧Below w.heap.size w w':=by
 have hb0:=hB2 w (.cells (zah (hK n)).toArray 45) (.cells #[.string ⟨#[119,104,101,114,101,32,116]⟩] 9)
 have k0:=hA2a w (.cells (zah (hK n)).toArray 45) (.cells #[.string ⟨#[119,104,101,114,101,32,116]⟩] 9)
 have k1:=hA2b w (.cells (zah (hK n)).toArray 45) (.cells #[.string ⟨#[119,104,101,114,101,32,116]⟩] 9)
 have hc:=(cell_of_row _ _ 0 _ _ _ k1).trans (by rfl:_=some (.string ⟨#[119,104,101,114,101,32,116]⟩))
 have AS:=asked44 _ (hK n) A 4 c 36 #[.pointer (some ⟨w.heap.size+1,0,none⟩)] (fun _ _=>by kernel_rfl) (Stage n 4) (StrP ⟨#[49,49,48,48,32,49,49,57,57]⟩) (hT.below hb0) (fun W hW=>open_K W n 4 (Nat.le_refl _) A c (((hH.keep hb0).mono hb0.size).keep hW |>.mono hW.size) (((hr.keep hb0).mono hb0.size).keep hW |>.mono hW.size) ((hT.below hb0).below hW)) (fun W x b V hW hV hB hC=>(ask1_K W x b n V hV hB hC.txt (w.heap.size+1) (zat hW hc)).mono fun e w' h=>⟨_,_,h.1,⟨rfl,rfl⟩,h.2⟩)
 have HB:=Lib.hid hb0
 have hs0:=hS2 w (.cells (zah (hK n)).toArray 45) (.cells #[.string ⟨#[119,104,101,114,101,32,116]⟩] 9)
 clear hb0 hH hr hT hc k1
 go_enter Tryz.func19,Tryz.ntmps19
 go_upto_region 1 with (fail)
 generalize (w.alloc (.cells (zah (hK n)).toArray 45)).alloc (.cells #[.string ⟨#[119,104,101,114,101,32,116]⟩] 9)=w0 at *
 generalize hbw:w.heap.size=bw at *
 have HBW:=Lib.hid hbw
 clear hbw
 go_wp2_with (with_reducible refine zaw 45 ?_)
 unfold Stp
 refine wpList_load_row rfl 45 _ rfl bw rfl 45 _ (0,0) _ k0 Tryz.underlying45 rfl (by kernel_rfl) ?_
 go_wp2_with (go_at_call 33;refine AS.mono ?_;rintro e w1 ⟨v,E,rfl,⟨rfl,rfl⟩,hb1⟩)
 go_ret2
 exact ⟨rfl,by rw [HBW.out];exact HB.out.trans (hb1.mono (by omega))⟩
def sumGo (i acc:Nat):List UInt8→Nat
 | []=>acc
 | c :: l=>sumGo (i+1) ((acc+(i+1) % 9973 * c.toNat) % 9973) l
def sumE (s:ByteArray):Nat:=sumGo 0 0 s.data.toList
theorem sumGo_lt:∀ (l:List UInt8) (i acc:Nat),acc<9973→sumGo i acc l<9973
 | [],_,_,h=>h
 | _ :: l,i,_,_=>sumGo_lt l (i+1) _ (Nat.mod_lt _ (by decide))
theorem SumOf_any (s:ByteArray) (hs9:s.size≤1000000000) (w:World):Calls Tryz.prog 65 #[.string s] w fun e w'=>e=.returned (.int .i64 (sumE s:Nat))∧Below w.heap.size w w':=by
 obtain ⟨tot,htot⟩:∃ t,sumE s=t:=⟨_,rfl⟩
 rw [htot]
 have HTT:=Lib.hid (show sumGo 0 0 s.data.toList=tot from htot)
 clear htot
 have kc:=Lib.run_convert_string_bytes (P:=Tryz.prog) w 9 149 5 s Tryz.underlying9 Tryz.underlying149 Tryz.underlying5
 go_enter Tryz.func65,Tryz.ntmps65
 go_wp2
 clear kc
 go_loop [3,4,5,9] (fun u3 _ _ i=>∃ k a:Nat,k≤s.size∧i=.int .i64 k∧u3=.int .i64 a∧a<9973∧sumGo k a (s.data.toList.drop k)=tot) (fun _ _ _ i=>s.size - (intOf i).toNat)
 case atStart=>exact ⟨0,0,Nat.zero_le _,rfl,rfl,by decide,by rw [List.drop_zero];exact HTT.out⟩
 case round =>
  obtain ⟨k,a,hk,rfl,rfl,ha,he⟩:=hrel
  have HE:=Lib.hid he
  clear he
  by_cases hlt:k<s.size
  · have hkl:k<s.data.toList.length:=by simpa using hlt
    have HD:=Lib.hid (dropB hkl)
    have hcb:(s.data.toList.getD k 0).toNat≤255:=by have:=UInt8.toNat_lt (s.data.toList.getD k 0);omega
    have d0:=Lib.bytesWorld_cell w 5 s k hlt
    have HG:Hid (sumGo (k+1) ((a+(k+1) % 9973 * (s.data.toList.getD k 0).toNat) % 9973) (s.data.toList.drop (k+1))=tot):=by
     have:=HE.out
     rw [HD.out,sumGo] at this
     exact this
    generalize (s.data.toList.getD k 0).toNat=c at *
    have hlti:(k:Int)<(s.size:Int):=by omega
    have hm1:(k+1) % 9973<9973:=Nat.mod_lt _ (by decide)
    have e1:((k:Int)+1).tmod 9973=(((k+1) % 9973:Nat):Int):=rfl
    generalize (k+1) % 9973=m at *
    have hp:m * c≤9973 * 255:=Nat.mul_le_mul (by omega) hcb
    have e2:(m:Int) * (c:Int)=((m * c:Nat):Int):=rfl
    generalize m * c=p at *
    have hr:(a+p) % 9973<9973:=Nat.mod_lt _ (by decide)
    have e3:((a:Int)+(p:Int)).tmod 9973=(((a+p) % 9973:Nat):Int):=rfl
    generalize (a+p) % 9973=r at *
    clear HE hkl
    go_wp2
    go_round
    case rel=>exact ⟨k+1,r,hlt,by go_num,rfl,hr,HG.out⟩
    case measure=>simp [intOf];omega
  · obtain rfl:k=s.size:=by omega
    have ht:a=tot:=by
     have:=HE.out
     rw [List.drop_of_length_le (by simp)] at this
     exact this
    subst ht
    clear HE
    go_wp2
    go_ret
    exact ⟨rfl,Lib.bytesWorld_below _ _ _⟩
end Go.Proofs.YtoodbfkbbchjiaaGreatDoor
