import Derived.Test.YtoodbfkbbchjiaaGreatDoorf3Y4
import Derived.Test.YtoodbfkbbchjiaaGreatDoorf3X9
set_option maxRecDepth 100000
set_option maxHeartbeats 16000000
namespace Go.Proofs.YtoodbfkbbchjiaaGreatDoor
open Go.RowKit
theorem zmb (A:Option Addr) (n c B:Nat) (l:List Int) (w:World) (hn:n≤1000000000) (hl:l.length=n) (h:Rd w B A (zai l)) :
 Calls Tryz.prog 139 #[.slice A n c,.func (.func 360) #[] #[]] w fun e w'=>e=.returned (.int .i64 (za4 (fun x=>!ziw x) l 0))∧w=w':=by
 have HL:=Lib.hid hl;clear hl
 go_enter Tryz.func139,Tryz.ntmps139
 go_wp2
 go_loop [5,8] (fun _ i=>∃ k:Nat,k≤n∧i=.int .i64 k∧za4 (fun x=>!ziw x) (l.drop k) k=za4 (fun x=>!ziw x) l 0) (fun _ i=>n - (intOf i).toNat)
 case atStart=>exact ⟨0,Nat.zero_le _,rfl,rfl⟩
 case round =>
  obtain ⟨k,hk,rfl,he⟩:=hrel
  have HE:=Lib.hid he;clear he
  by_cases hlt:k<n
  · have hkl:k<l.length:=by rw [HL.out];exact hlt
    obtain ⟨b,off,rfl,_,hc⟩:=h.at_ (k:=k) (u:=.int .i64 (l[k]?.getD 0)) (by simp [zai,hkl])
    have HS:=Lib.hid (zfq l 0 k hkl)
    clear hkl
    generalize l[k]?.getD 0=x at *
    cases hx:ziw x with
    | false =>
     have HX:=Lib.hid hx
     have I:=fun W=>zi6 x false hx W
     clear hx
     go_wp2_with (go_at_call 360;refine (I _).mono ?_;rintro e w' ⟨rfl,rfl⟩)
     go_ret
     exact ⟨by rw [← HE.out,HS.out,za4,HX.out];rfl,rfl⟩
    | true =>
     have HX:=Lib.hid hx
     have I:=fun W=>zi6 x true hx W
     clear hx
     go_wp2_with (go_at_call 360;refine (I _).mono ?_;rintro e w' ⟨rfl,rfl⟩)
     go_round
     case rel=>exact ⟨k+1,by omega,by go_num,by rw [← HE.out,HS.out,za4,HX.out];rfl⟩
     case measure=>simp [intOf];omega
  · go_wp2
    go_ret
    have:l.drop k=[]:=by rw [List.drop_eq_nil_iff];rw [HL.out];omega
    exact ⟨by rw [← HE.out,this];rfl,rfl⟩
theorem zik (A:Option Addr) (n c B:Nat) (l:List Int) (b:Bool) (hb:l.all ziw=b) (w:World) (hn:n≤1000000000) (hl:l.length=n) (h:Rd w B A (zai l)) :
 Calls Tryz.prog 210 #[.slice A n c,.func (.func 360) #[] #[]] w fun e w'=>e=.returned (.bool (!b))∧w=w':=by
 have HV:Hid (decide (0≤za4 (fun x=>!ziw x) l 0)=!b):=by rw [Hid,zcc,← hb,List.not_all_eq_any_not]
 have IX:=zmb A n c B l w hn hl h
 clear hb h
 generalize za4 (fun x=>!ziw x) l 0=ix at *
 go_enter Tryz.func210,Tryz.ntmps210
 go_wp2_with (go_at_call 139;refine IX.mono ?_;rintro e w9 ⟨rfl,rfl⟩)
 go_ret
 exact ⟨by rw [← HV.out];rfl,rfl⟩
def zhk (v:VanV) (s:List Int):Int:=zam [zj2 v,zag (decide ((s.length:Int)=v.window)) 10,zag (s.all ziw) 15]
theorem openSeen_any (w:World) (B:Nat) (v:VanV) (A2:Option Addr) (m c2:Nat) (s:List Int) (h:zcs w B v.vs v.vanes.length (zai v.vanes)) (hB:B≤w.heap.size) (hn:v.vanes.length≤1000) (hs:s.length=m) (hm:m≤1000) (hr:Rd w w.heap.size A2 (zai s)) :
 Calls Tryz.prog 312 #[.agg (za8 v).toArray,.slice A2 m c2] w fun e w'=>e=.returned (.tuple #[.agg (za8 v).toArray,.int .i64 (zhk v s)])∧Below w.heap.size w w':=by
 have hb0:∀ a b,Below w.heap.size w ((w.alloc a).alloc b):=fun a b=>((Below.refl _ _).alloc (Nat.le_refl _) _).alloc (by simp) _
 have OT:=fun a b=>loOpen_any ((w.alloc a).alloc b) B v (h.below ((hb0 a b).mono hB)) (Nat.le_trans hB (hb0 a b).size) hn
 obtain ⟨⟨A,n,c⟩,l,wi,tqo,pe,fi,mo,sl,er,ro⟩:=v
 show Calls Tryz.prog 312 #[.agg #[.slice A n c,.int .i64 wi,.int .i64 tqo,.int .i64 pe,.int .i64 fi,.int .i64 mo,.int .i64 sl,.int .i64 er,.bool ro],.slice A2 m c2] w fun e w'=>e=.returned (.tuple #[.agg #[.slice A n c,.int .i64 wi,.int .i64 tqo,.int .i64 pe,.int .i64 fi,.int .i64 mo,.int .i64 sl,.int .i64 er,.bool ro],_])∧_
 obtain ⟨q1,hq1⟩:∃ b,decide ((m:Int)=wi)=b:=⟨_,rfl⟩
 obtain ⟨q2,hq2⟩:∃ b,s.all ziw=b:=⟨_,rfl⟩
 obtain ⟨e1,he1⟩:∃ e,zag q1 10=e:=⟨_,rfl⟩
 obtain ⟨e2,he2⟩:∃ e,zag q2 15=e:=⟨_,rfl⟩
 have U1:=fun W=>zee q1 10 e1 he1 W
 have U2:=fun W=>zee q2 15 e2 he2 W
 have HE:Hid (zhk ⟨⟨A,n,c⟩,l,wi,tqo,pe,fi,mo,sl,er,ro⟩ s=zam [zj2 ⟨⟨A,n,c⟩,l,wi,tqo,pe,fi,mo,sl,er,ro⟩,e1,e2]):=by
  rw [Hid,zhk,← he1,← he2,← hq1,← hq2,← hs]
 generalize zj2 ⟨⟨A,n,c⟩,l,wi,tqo,pe,fi,mo,sl,er,ro⟩=E at *
 rw [HE.out]
 change ∀ a b,Calls Tryz.prog 359 #[.agg #[.slice A n c,.int .i64 wi,.int .i64 tqo,.int .i64 pe,.int .i64 fi,.int .i64 mo,.int .i64 sl,.int .i64 er,.bool ro]] _ (fun e w'=>e=.returned (.tuple #[.agg #[.slice A n c,.int .i64 wi,.int .i64 tqo,.int .i64 pe,.int .i64 fi,.int .i64 mo,.int .i64 sl,.int .i64 er,.bool ro],_])∧_) at OT
 have CS:=fun W (hW:Below w.heap.size w W)=>zik A2 m c2 w.heap.size s q2 hq2 W (by omega) hs (hr.below hW)
 have k0:=hA2a w (.cells #[.slice A n c,.int .i64 wi,.int .i64 tqo,.int .i64 pe,.int .i64 fi,.int .i64 mo,.int .i64 sl,.int .i64 er,.bool ro] 34) (.cells #[.slice none 0 0,.int .i64 0,.int .i64 0,.int .i64 0,.int .i64 0,.int .i64 0,.int .i64 0,.int .i64 0,.bool false] 432)
 have k1:=hA2b w (.cells #[.slice A n c,.int .i64 wi,.int .i64 tqo,.int .i64 pe,.int .i64 fi,.int .i64 mo,.int .i64 sl,.int .i64 er,.bool ro] 34) (.cells #[.slice none 0 0,.int .i64 0,.int .i64 0,.int .i64 0,.int .i64 0,.int .i64 0,.int .i64 0,.int .i64 0,.bool false] 432)
 have HB:=Lib.hid (hb0 (.cells #[.slice A n c,.int .i64 wi,.int .i64 tqo,.int .i64 pe,.int .i64 fi,.int .i64 mo,.int .i64 sl,.int .i64 er,.bool ro] 34) (.cells #[.slice none 0 0,.int .i64 0,.int .i64 0,.int .i64 0,.int .i64 0,.int .i64 0,.int .i64 0,.int .i64 0,.bool false] 432))
 replace OT:=OT (.cells #[.slice A n c,.int .i64 wi,.int .i64 tqo,.int .i64 pe,.int .i64 fi,.int .i64 mo,.int .i64 sl,.int .i64 er,.bool ro] 34) (.cells #[.slice none 0 0,.int .i64 0,.int .i64 0,.int .i64 0,.int .i64 0,.int .i64 0,.int .i64 0,.int .i64 0,.bool false] 432)
 have hs0:=hS2 w (.cells #[.slice A n c,.int .i64 wi,.int .i64 tqo,.int .i64 pe,.int .i64 fi,.int .i64 mo,.int .i64 sl,.int .i64 er,.bool ro] 34) (.cells #[.slice none 0 0,.int .i64 0,.int .i64 0,.int .i64 0,.int .i64 0,.int .i64 0,.int .i64 0,.int .i64 0,.bool false] 432)
 have hq1b:((m:Int) == wi)=q1:=by rw [← hq1];by_cases h9:(m:Int)=wi <;> simp [h9]
 clear hb0 h hB hn hr hs hq1 hq2 he1 he2
 go_enter Tryz.func312,Tryz.ntmps312
 go_upto_region 1 with (fail)
 generalize (w.alloc (.cells #[.slice A n c,.int .i64 wi,.int .i64 tqo,.int .i64 pe,.int .i64 fi,.int .i64 mo,.int .i64 sl,.int .i64 er,.bool ro] 34)).alloc (.cells #[.slice none 0 0,.int .i64 0,.int .i64 0,.int .i64 0,.int .i64 0,.int .i64 0,.int .i64 0,.int .i64 0,.bool false] 432)=w0 at *
 generalize hbw:w.heap.size=bw at *
 have HBW:=Lib.hid hbw
 clear hbw
 go_wp2_with (with_reducible refine zaw 34 ?_)
 unfold Stp
 refine wpList_load_row rfl 34 _ rfl bw rfl 34 _ (0,0) _ k0 Tryz.underlying34 rfl (by kernel_rfl) ?_
 go_wp2_with (first | (go_at_call 359;refine OT.mono ?_;rintro e w1 ⟨rfl,hb1⟩) | (with_reducible refine zas 432 ?_))
 have hba:=hB1 w1 (.cells #[.slice none 0 0,.int .i64 0,.int .i64 0,.int .i64 0,.int .i64 0,.int .i64 0,.int .i64 0,.int .i64 0,.bool false] 432)
 have k3:=hA1 w1 (.cells #[.slice none 0 0,.int .i64 0,.int .i64 0,.int .i64 0,.int .i64 0,.int .i64 0,.int .i64 0,.int .i64 0,.bool false] 432)
 unfold Stp
 refine wpList_store_row rfl 432 _ _ rfl w1.heap.size #[.slice A n c,.int .i64 wi,.int .i64 tqo,.int .i64 pe,.int .i64 fi,.int .i64 mo,.int .i64 sl,.int .i64 er,.bool ro] rfl rfl 432 _ k3 (by kernel_rfl) rfl (by kernel_rfl) ?_
 have k4:=setRow_heap _ w1.heap.size _ #[.slice A n c,.int .i64 wi,.int .i64 tqo,.int .i64 pe,.int .i64 fi,.int .i64 mo,.int .i64 sl,.int .i64 er,.bool ro] 432 (0,0) k3
 have hb4:Below w0.heap.size w0 ((w1.alloc (.cells #[.slice none 0 0,.int .i64 0,.int .i64 0,.int .i64 0,.int .i64 0,.int .i64 0,.int .i64 0,.int .i64 0,.bool false] 432)).setRow w1.heap.size #[.slice A n c,.int .i64 wi,.int .i64 tqo,.int .i64 pe,.int .i64 fi,.int .i64 mo,.int .i64 sl,.int .i64 er,.bool ro]):=below_setRow (hb1.trans (hba.mono hb1.size)) hb1.size _
 clear OT hba k3
 go_upto_region 2 with (fail)
 generalize (w1.alloc (.cells #[.slice none 0 0,.int .i64 0,.int .i64 0,.int .i64 0,.int .i64 0,.int .i64 0,.int .i64 0,.int .i64 0,.bool false] 432)).setRow w1.heap.size #[.slice A n c,.int .i64 wi,.int .i64 tqo,.int .i64 pe,.int .i64 fi,.int .i64 mo,.int .i64 sl,.int .i64 er,.bool ro]=w2 at *
 generalize w1.heap.size=y at *
 have hb5:=HB.out.trans (hb4.mono (by omega))
 have CS2:=CS w2 hb5
 clear CS
 go_upto_region 3 with (go_at_call 210;refine CS2.mono ?_;rintro e w' ⟨rfl,rfl⟩)
 obtain ⟨c0,c1,c2,c3,c4,c5,c6,c7,c8⟩:_∧_∧_∧_∧_∧_∧_∧_∧_:=zdl k4
 obtain ⟨_,d1,_,_,_,_,_,_,_⟩:_∧_∧_∧_∧_∧_∧_∧_∧_:=zdl (blk hb4 k0)
 have x0:=fun y:Xt w2=>y.cell c0
 have x1:=fun y:Xt w2=>y.cell c1
 have x2:=fun y:Xt w2=>y.cell c2
 have x3:=fun y:Xt w2=>y.cell c3
 have x4:=fun y:Xt w2=>y.cell c4
 have x5:=fun y:Xt w2=>y.cell c5
 have x6:=fun y:Xt w2=>y.cell c6
 have x7:=fun y:Xt w2=>y.cell c7
 have x8:=fun y:Xt w2=>y.cell c8
 have x9:=fun y:Xt w2=>y.cell d1
 refine zak [13,14] (fun w'=>∃ y:Xt w2,w'=y.1) (by kernel_rfl) ⟨⟨w2.drew,(Below.refl _ _).drew⟩,rfl⟩ ?_
 refine zao [0,1,2,3,4,5,6,8,9] 6 rfl (by kernel_rfl) ?_
 simp only [zad,zac,zaa,zX1,zX2,zX3]
 repeat (go_big_quiet_step (fail))
 refine wpQuiet_nil ?_
 have hbd:Below w2.heap.size w2 w2.drew:=(Below.refl _ _).drew
 show wpE _ _ _ _ _ _ _ _ _ w2.drew
 generalize w2.drew=wd at *
 clear x0 x1 x2 x3 x4 x5 x6 x7 x8 x9 c0 c1 c2 c3 c4 c5 c6 c7 c8 d1
 refine zan (i:=7) rfl (by kernel_rfl) rfl ?_
 unfold zar
 simp only [zad,zac,zaa,zX1,zX2,zX3]
 go_wp2_with (go_at_call 137;refine (U1 _).mono ?_;rintro e w' ⟨rfl,rfl⟩)
 refine zab ⟨⟨⟨_,hbd⟩,rfl⟩,?_⟩
 refine zan (i:=10) rfl (by kernel_rfl) rfl ?_
 unfold zar
 simp only [zad,zac,zaa,zX1,zX2,zX3]
 go_wp2_with (go_at_call 137;refine (U2 _).mono ?_;rintro e w' ⟨rfl,rfl⟩)
 refine zab ⟨⟨⟨_,hbd⟩,rfl⟩,?_⟩
 refine zan (i:=11) rfl (by kernel_rfl) rfl ?_
 unfold zar
 simp only [zad,zac,zaa,zX1,zX2,zX3]
 go_wp2
 have hbn:=hB1 wd (.cells #[.int .i64 E,.int .i64 e1,.int .i64 e2] 60)
 have kA:=hA1 wd (.cells #[.int .i64 E,.int .i64 e1,.int .i64 e2] 60)
 have hbe:=hbd.trans (hbn.mono hbd.size)
 refine zab ⟨⟨⟨_,hbe⟩,rfl⟩,?_⟩
 refine zan (i:=12) rfl (by kernel_rfl) rfl ?_
 unfold zar
 simp only [zad,zac,zaa,zX1,zX2,zX3]
 go_wp2_with (go_at_call 136;refine (zlz _ _ _ _).mono ?_;rintro e w' ⟨rfl,rfl⟩)
 refine zab ⟨⟨⟨_,hbe⟩,rfl⟩,?_⟩
 refine zau rfl (by kernel_rfl) ?_
 simp only [zad,zac,zaa,zX1,zX2,zX3]
 have k5:=blk hbe (blk hb4 k1)
 refine wpList_store_row rfl 432 _ _ rfl (bw+1) #[.slice A n c,.int .i64 wi,.int .i64 tqo,.int .i64 pe,.int .i64 fi,.int .i64 mo,.int .i64 sl,.int .i64 er,.bool ro] rfl rfl 432 _ k5 (by kernel_rfl) rfl (by kernel_rfl) ?_
 have kr:=setRow_heap (wd.alloc (.cells #[.int .i64 E,.int .i64 e1,.int .i64 e2] 60)) (bw+1) _ #[.slice A n c,.int .i64 wi,.int .i64 tqo,.int .i64 pe,.int .i64 fi,.int .i64 mo,.int .i64 sl,.int .i64 er,.bool ro] 432 (0,0) k5
 have hbr:Below bw w ((wd.alloc (.cells #[.int .i64 E,.int .i64 e1,.int .i64 e2] 60)).setRow (bw+1) #[.slice A n c,.int .i64 wi,.int .i64 tqo,.int .i64 pe,.int .i64 fi,.int .i64 mo,.int .i64 sl,.int .i64 er,.bool ro]):=below_setRow (hb5.trans (hbe.mono (by have:=hb4.size;omega))) (by omega) _
 generalize (wd.alloc (.cells #[.int .i64 E,.int .i64 e1,.int .i64 e2] 60)).setRow (bw+1) #[.slice A n c,.int .i64 wi,.int .i64 tqo,.int .i64 pe,.int .i64 fi,.int .i64 mo,.int .i64 sl,.int .i64 er,.bool ro]=w7 at *
 go_wp2
 refine zab ?_
 go_wp2
 obtain ⟨c0,c1,c2,c3,c4,c5,c6,c7,c8⟩:_∧_∧_∧_∧_∧_∧_∧_∧_:=zdl kr
 refine bodyPost_ret (v:=.tuple #[.agg #[.slice A n c,.int .i64 wi,.int .i64 tqo,.int .i64 pe,.int .i64 fi,.int .i64 mo,.int .i64 sl,.int .i64 er,.bool ro],.int .i64 (zam [E,e1,e2])]) (by simp [results,Tryz.results312,go_sem,c0,c1,c2,c3,c4,c5,c6,c7,c8]) rfl ⟨rfl,by rw [HBW.out];exact hbr⟩
def ze0 (v:VanV) (s:List Int) (k:Nat):List Int:=((List.range k).filter fun i=>decide ((difN (winL v i) (zdz s):Int)≤v.errors)).map fun (i:Nat)=>(i:Int)
def zi7 (v:VanV) (s:List Int):List Int:=ze0 v s (winN v).toNat
theorem nearK_succ (v:VanV) (s:List Int) (k:Nat):ze0 v s (k+1)=ze0 v s k++if (difN (winL v k) (zdz s):Int)≤v.errors then [(k:Int)] else []:=by
 unfold ze0
 rw [List.range_succ,List.filter_append,List.map_append]
 congr 1
 by_cases h:(difN (winL v k) (zdz s):Int)≤v.errors <;> simp [h]
theorem nearK_len (v:VanV) (s:List Int) (k:Nat):(ze0 v s k).length≤k:=by
 unfold ze0
 rw [List.length_map]
 exact Nat.le_trans (List.length_filter_le _ _) (by simp)
theorem winL_len (v:VanV) (i:Nat):(winL v i).length=12:=by simp [winL]
theorem seenL_len (s:List Int):(zdz s).length=12:=by simp [zdz]
def NearRel (w2:World) (v:VanV) (s:List Int) (N:Nat) (u5 u13:Value) (wr:World):Prop:=
 ∃ k:Nat,k≤N∧u13=.int .i64 k∧wr.ownsRow w2.heap.size 3 1 u5 (ze0 v s k).length (zai (ze0 v s k))∧Below w2.heap.size w2 wr
structure VanOk (v:VanV):Prop where
 w0:1≤v.window
 w1:v.window≤12
 len:v.window≤(v.vanes.length:Int)
 most:v.vanes.length≤40
 per:1≤v.per∧v.per≤12
 tooth:1≤v.tooth∧v.tooth≤1000
 first:0≤v.first∧v.first≤999000000
 modu:1≤v.modulus∧v.modulus≤1000
 slack:0≤v.slack∧v.slack≤v.modulus
theorem VanOk.winN {v:VanV} (h:VanOk v):∃ N:Nat,winN v=N∧N≤40∧1≤N:=by
 have h1:=h.w0
 have h2:=h.len
 have h3:=h.most
 refine ⟨(Go.Proofs.YtoodbfkbbchjiaaGreatDoor.winN v).toNat,?_,?_,?_⟩
 all_goals
  unfold Go.Proofs.YtoodbfkbbchjiaaGreatDoor.winN
  split <;> omega
theorem near_any (w:World) (B:Nat) (v:VanV) (A2:Option Addr) (m c2:Nat) (s:List Int) (h:zcs w B v.vs v.vanes.length (zai v.vanes)) (hB:B≤w.heap.size) (hO:VanOk v) (hs:s.length=m) (hm:m≤12) (hr:Rd w w.heap.size A2 (zai s)) :
 Calls Tryz.prog 313 #[.agg (za8 v).toArray,.slice A2 m c2] w (zd8 w 3 1 (zai (zi7 v s)) (zi7 v s).length):=by
 obtain ⟨N,hN,hN40,hN1⟩:=hO.winN
 have hvl:=h.1
 have hb0:∀ o,Below w.heap.size w (w.alloc o):=fun o=>(Below.refl _ _).alloc (Nat.le_refl _) _
 have k0:=hA1 w (.cells (za8 v).toArray 432)
 have hs0:=hS1 w (.cells (za8 v).toArray 432)
 have HB:=Lib.hid (hb0 (.cells (za8 v).toArray 432))
 have HV:=Lib.hid (h.keep HB.out)
 have HR:=Lib.hid (hr.keep HB.out)
 have HO:=Lib.hid hO
 have HN:Hid (zi7 v s=ze0 v s N):=by rw [Hid,zi7,hN];rfl
 rw [HN.out]
 have HS:=Lib.hid hs
 have HNN:=Lib.hid hN
 clear hb0 h hr hs hO hN
 go_enter Tryz.func313,Tryz.ntmps313
 go_upto_region 2 with (fail)
 generalize w.alloc (.cells (za8 v).toArray 432)=w0 at *
 generalize hbw:w.heap.size=bw at *
 have HBW:=Lib.hid hbw
 clear hbw
 have SN:=seen_any v A2 m c2 bw s HS.out hm w0 HR.out (by omega)
 go_wp2_with (with_reducible refine zaw 432 ?_)
 unfold Stp
 refine wpList_load_row rfl 432 _ rfl bw rfl 432 _ (0,0) _ k0 Tryz.underlying432 rfl (by kernel_rfl) ?_
 go_wp2_with (first | (go_at_call 362;refine SN.mono ?_;rintro e w1 ⟨rfl,hb1⟩) | (with_reducible refine zas 468 ?_))
 have hba:=hB1 w1 (.cells #[.int .i64 0,.int .i64 0,.int .i64 0,.int .i64 0,.int .i64 0,.int .i64 0,.int .i64 0,.int .i64 0,.int .i64 0,.int .i64 0,.int .i64 0,.int .i64 0] 468)
 have k3:=hA1 w1 (.cells #[.int .i64 0,.int .i64 0,.int .i64 0,.int .i64 0,.int .i64 0,.int .i64 0,.int .i64 0,.int .i64 0,.int .i64 0,.int .i64 0,.int .i64 0,.int .i64 0] 468)
 unfold Stp
 refine wpList_store_row rfl 468 _ _ rfl w1.heap.size (zai (zdz s)).toArray rfl rfl 468 _ k3 (by rw [zch];kernel_rfl) (by rw [zch];rfl) (zfl _) ?_
 have k4:=setRow_heap _ w1.heap.size _ (zai (zdz s)).toArray 468 (0,0) k3
 have hb4:Below w0.heap.size w0 ((w1.alloc (.cells #[.int .i64 0,.int .i64 0,.int .i64 0,.int .i64 0,.int .i64 0,.int .i64 0,.int .i64 0,.int .i64 0,.int .i64 0,.int .i64 0,.int .i64 0,.int .i64 0] 468)).setRow w1.heap.size (zai (zdz s)).toArray):=below_setRow (hb1.trans (hba.mono hb1.size)) hb1.size _
 have hs4:w1.heap.size+1≤((w1.alloc (.cells #[.int .i64 0,.int .i64 0,.int .i64 0,.int .i64 0,.int .i64 0,.int .i64 0,.int .i64 0,.int .i64 0,.int .i64 0,.int .i64 0,.int .i64 0,.int .i64 0] 468)).setRow w1.heap.size (zai (zdz s)).toArray).heap.size:=by simp [World.setRow]
 clear SN hba k3
 go_upto_region 3 with (fail)
 generalize (w1.alloc (.cells #[.int .i64 0,.int .i64 0,.int .i64 0,.int .i64 0,.int .i64 0,.int .i64 0,.int .i64 0,.int .i64 0,.int .i64 0,.int .i64 0,.int .i64 0,.int .i64 0] 468)).setRow w1.heap.size (zai (zdz s)).toArray=w2 at *
 have hy:w0.heap.size≤w1.heap.size:=hb1.size
 generalize w1.heap.size=y at *
 clear hb1
 have WI:=windows_val v hvl (by have:=HO.out.most;omega) (by have:=HO.out.w0;omega) HO.out.w1 w2
 rw [HNN.out] at WI
 unfold zay at WI
 go_wp2_with (with_reducible refine zaw 432 ?_)
 unfold Stp
 refine wpList_load_row rfl 432 _ rfl bw rfl 432 _ (0,0) _ (blk hb4 k0) Tryz.underlying432 rfl (by kernel_rfl) ?_
 go_wp2_with (go_at_call 363;refine WI.mono ?_;rintro e w3 ⟨rfl,hb3⟩)
 have hb03:=hb4.trans (hb3.mono hb4.size)
 have k5:=blk hb03 k0
 have k6:=blk hb3 k4
 clear k0 k4 WI
 have hs3:=hb3.size
 go_loopw [5,13] (fun u5 u13 wr=>NearRel w3 v s N u5 u13 wr) (fun _ u13 _=>N - (intOf u13).toNat)
 case atStart=>exact ⟨0,Nat.zero_le _,rfl,⟨rfl,.inl ⟨rfl,rfl⟩⟩,Below.refl _ _⟩
 case round =>
  obtain ⟨k,hk,rfl,hown,hb⟩:=hrel
  have HOWN:=Lib.hid hown
  obtain ⟨Au,cu,rfl⟩:=zcn hown
  have HBR:=Lib.hid hb
  have hsr:=hb.size
  by_cases hlt:k<N
  · have g5:=blk hb k5
    have g6:=blk hb k6
    have HK5:=Lib.hid k5
    have HK6:=Lib.hid k6
    clear k5 k6 hown hb
    obtain ⟨b0,b1,b2,b3,b4,b5,b6,b7,b8,b9,b10,b11,hsl⟩:=list12 (seenL_len s)
    have HSL:=Lib.hid hsl
    rw [hsl] at g6
    clear hsl
    obtain ⟨d0,d1,d2,d3,d4,d5,d6,d7,d8⟩:_∧_∧_∧_∧_∧_∧_∧_∧_:=zdl (W:=wr) (r:=bw) (t:=432) (a0:=v.vs.v) (a1:=.int .i64 v.window) (a2:=.int .i64 v.tooth) (a3:=.int .i64 v.per) (a4:=.int .i64 v.first) (a5:=.int .i64 v.modulus) (a6:=.int .i64 v.slack) (a7:=.int .i64 v.errors) (a8:=.bool v.round) g5
    have s0:=(cell_of_row wr y 0 _ _ _ g6).trans (by rfl:_=some (Value.int .i64 b0))
    have s1:=(cell_of_row wr y 1 _ _ _ g6).trans (by rfl:_=some (Value.int .i64 b1))
    have s2:=(cell_of_row wr y 2 _ _ _ g6).trans (by rfl:_=some (Value.int .i64 b2))
    have s3:=(cell_of_row wr y 3 _ _ _ g6).trans (by rfl:_=some (Value.int .i64 b3))
    have s4:=(cell_of_row wr y 4 _ _ _ g6).trans (by rfl:_=some (Value.int .i64 b4))
    have s5:=(cell_of_row wr y 5 _ _ _ g6).trans (by rfl:_=some (Value.int .i64 b5))
    have s6:=(cell_of_row wr y 6 _ _ _ g6).trans (by rfl:_=some (Value.int .i64 b6))
    have s7:=(cell_of_row wr y 7 _ _ _ g6).trans (by rfl:_=some (Value.int .i64 b7))
    have s8:=(cell_of_row wr y 8 _ _ _ g6).trans (by rfl:_=some (Value.int .i64 b8))
    have s9:=(cell_of_row wr y 9 _ _ _ g6).trans (by rfl:_=some (Value.int .i64 b9))
    have s10:=(cell_of_row wr y 10 _ _ _ g6).trans (by rfl:_=some (Value.int .i64 b10))
    have s11:=(cell_of_row wr y 11 _ _ _ g6).trans (by rfl:_=some (Value.int .i64 b11))
    clear g5 g6
    go_upto_region 6 with (fail)
    have x0:=fun q:Xt wr=>q.cell d0
    have x1:=fun q:Xt wr=>q.cell d1
    have x2:=fun q:Xt wr=>q.cell d2
    have x3:=fun q:Xt wr=>q.cell d3
    have x4:=fun q:Xt wr=>q.cell d4
    have x5:=fun q:Xt wr=>q.cell d5
    have x6:=fun q:Xt wr=>q.cell d6
    have x7:=fun q:Xt wr=>q.cell d7
    have x8:=fun q:Xt wr=>q.cell d8
    have z0:=fun q:Xt wr=>q.cell s0
    have z1:=fun q:Xt wr=>q.cell s1
    have z2:=fun q:Xt wr=>q.cell s2
    have z3:=fun q:Xt wr=>q.cell s3
    have z4:=fun q:Xt wr=>q.cell s4
    have z5:=fun q:Xt wr=>q.cell s5
    have z6:=fun q:Xt wr=>q.cell s6
    have z7:=fun q:Xt wr=>q.cell s7
    have z8:=fun q:Xt wr=>q.cell s8
    have z9:=fun q:Xt wr=>q.cell s9
    have z10:=fun q:Xt wr=>q.cell s10
    have z11:=fun q:Xt wr=>q.cell s11
    refine zak [8] (fun w'=>∃ y:Xt wr,w'=y.1) (by kernel_rfl) ⟨⟨wr.drew,(Below.refl _ _).drew⟩,rfl⟩ ?_
    refine zao [0,1,3,5,6,7] 3 rfl (by kernel_rfl) ?_
    simp only [zad,zac,zaa,zX1,zX2,zX3]
    repeat (go_big_quiet_step (fail))
    refine wpQuiet_nil ?_
    have hbd:Below wr.heap.size wr wr.drew:=(Below.refl _ _).drew
    show wpE _ _ _ _ _ _ _ _ _ wr.drew
    generalize wr.drew=we at *
    clear x0 x1 x2 x3 x4 x5 x6 x7 x8 z0 z1 z2 z3 z4 z5 z6 z7 z8 z9 z10 z11 d0 d1 d2 d3 d4 d5 d6 d7 d8 s0 s1 s2 s3 s4 s5 s6 s7 s8 s9 s10 s11
    obtain ⟨mw,hmw⟩:∃ n:Nat,v.window=n:=⟨v.window.toNat,by have:=HO.out.w0;omega⟩
    have AT:=at_any v B k mw hmw (by have:=HO.out.w1;omega) (by omega) (by have:=HO.out.w0;have:=HO.out.len;omega) (by have:=HO.out.most;omega) we (((HV.out.keep hb03).keep HBR.out).keep hbd) (by have:=hbd.size;have:=hb4.size;omega)
    have DF:=fun W=>differ_any (winL v k) (zdz s) (winL_len v k) (seenL_len s) W
    clear hmw
    generalize hD:difN (winL v k) (zdz s)=D at DF
    rw [HSL.out] at DF
    unfold zay at DF
    refine zan (i:=2) rfl (by kernel_rfl) rfl ?_
    unfold zar
    simp only [zad,zac,zaa,zX1,zX2,zX3]
    go_wp2_with (go_at_call 364;refine AT.mono ?_;rintro e wf ⟨rfl,hbf0⟩)
    have hbf:=hbd.trans (hbf0.mono hbd.size)
    refine zab ⟨⟨⟨_,hbf⟩,rfl⟩,?_⟩
    refine zan (i:=4) rfl (by kernel_rfl) rfl ?_
    unfold zar
    simp only [zad,zac,zaa,zX1,zX2,zX3]
    go_wp2_with (go_at_call 365;refine (DF _).mono ?_;rintro e wg ⟨rfl,hbg0⟩)
    have hbg:=hbf.trans (hbg0.mono hbf.size)
    refine zab ⟨⟨⟨_,hbg⟩,rfl⟩,?_⟩
    have HK:=Lib.hid (nearK_succ v s k)
    rw [hD] at HK
    have hD12:D≤12:=by rw [← hD];exact difK_le _ _ 12
    have HBG:=Lib.hid hbg
    have hown1:=zaf HOWN.out hbg
    have hlen:=nearK_len v s k
    have hb2:=HBR.out.trans (hbg.mono hsr)
    have hsg:=Nat.le_trans hsr hbg.size
    clear hbf0 hbg0 hbf hbg hbd AT DF hD
    generalize hL:(ze0 v s k).length=L at *
    have HLL:=Lib.hid hL
    clear hL
    obtain ⟨i1,hi1,hy0,hy1,hy2⟩:=info_parts zh8
    by_cases hle:(D:Int)≤v.errors
    · have HK2:Hid (ze0 v s (k+1)=ze0 v s k++[(k:Int)]):=by rw [Hid,HK.out,if_pos hle]
      have HLE:=Lib.hid hle
      refine zau rfl (by kernel_rfl) ?_
      simp only [zad,zac,zaa,zX1,zX2,zX3]
      go_wp2
      refine zab ?_
      go_wp2_with (at_builtin;refine stp ?_)
      unfold Stp
      refine wpList_append_lies _ rfl _ _ 32 rfl w3.heap.size 3 i1 _ 1 8 Tryz.underlying32 hi1 hy0 hy1 hy2 rfl (by omega) (.slice Au L cu) L _ rfl (hown1.alloc _) ⟨wg.heap.size,0,none⟩ 1 1 [.int .i64 k] rfl rfl (zez (by simp)) (by simp [Value.oneCell']) (by omega) (by simp only [maxLen];omega) (by omega) (by simp;omega) _ rfl ?_
      intro gg cap w6 hown6 hgrow6 hat6 hlt6
      have HB7:=Lib.hid ((hb2.alloc hsg _).grown hgrow6 (by simp;omega) (fun j hj=>(zbi hown1 hj).1))
      have HO6:Hid (w6.ownsRow w3.heap.size 3 1 (.slice (some ⟨gg,0,none⟩) (L+1) cap) (ze0 v s (k+1)).length (zai (ze0 v s (k+1)))):=by
       rw [Hid,HK2.out,List.length_append,HLL.out]
       simpa [zai] using hown6
      clear hown6 hgrow6 hat6 hlt6 hown1 hb2 hy0 hy1 hy2 hi1
      go_wp2
      go_roundw
      case rel=>exact ⟨k+1,hlt,by go_num,HO6.out,HB7.out⟩
      case measure=>simp [intOf];omega
    · have HK2:Hid (ze0 v s (k+1)=ze0 v s k):=by rw [Hid,HK.out,if_neg hle,List.append_nil]
      refine zau rfl (by kernel_rfl) ?_
      simp only [zad,zac,zaa,zX1,zX2,zX3]
      have HO6:Hid (wg.ownsRow w3.heap.size 3 1 (.slice Au L cu) (ze0 v s (k+1)).length (zai (ze0 v s (k+1)))):=by
       rw [Hid,HK2.out,HLL.out]
       exact hown1
      have HB7:=Lib.hid hb2
      clear hown1 hb2 hy0 hy1 hy2 hi1
      go_wp2
      refine zab ?_
      go_wp2
      go_roundw
      case rel=>exact ⟨k+1,hlt,by go_num,HO6.out,HB7.out⟩
      case measure=>simp [intOf];omega
  · obtain rfl:k=N:=by omega
    clear hb hown
    go_wp2
    go_ret
    refine ⟨Au,cu,rfl,zbn HOWN.out,za0 HOWN.out (by rw [HBW.out];have:=hb4.size;omega),?_⟩
    rw [HBW.out]
    exact HB.out.trans ((hb03.mono (by omega)).trans (HBR.out.mono (by have:=hb4.size;omega)))
end Go.Proofs.YtoodbfkbbchjiaaGreatDoor
