import Derived.Test.YtoodbfkbbchjiaaGreatDoorf3J6
import Derived.Test.YtoodbfkbbchjiaaGreatDoorf3S10
set_option maxRecDepth 100000
set_option maxHeartbeats 16000000
namespace Go.Proofs.YtoodbfkbbchjiaaGreatDoor
open Go.RowKit
def modF (n:Int) (b:Nat):Nat:=(n % (b:Int)).toNat
theorem modF_lt (n:Int) {b:Nat} (h:0<b):modF n b<b:=by
 unfold modF
 have h1:=Int.emod_lt_of_pos n (show (0:Int)<b by omega)
 have h2:=Int.emod_nonneg n (show (b:Int)≠0 by omega)
 omega
theorem modF_eq (n:Int) {b:Nat} (h:0<b):((modF n b:Nat):Int)=n % (b:Int):=by
 unfold modF
 have h2:=Int.emod_nonneg n (show (b:Int)≠0 by omega)
 omega
theorem Mod_any (n:Int) (b:Nat) (h:0<b) (hb:b≤1000) (w:World):Calls Tryz.prog 7 #[.int .i64 n,.int .i64 (b:Nat)] w fun e w'=>e=.returned (.int .i64 (modF n b:Nat))∧w=w':=by
 have HV:=Lib.hid (modF_eq n h)
 have hb0:((b:Int) == 0)=false:=by
  have:¬ (b:Int)=0:=by omega
  simpa using this
 have hbz:¬ (b:Int)=0:=by omega
 have hbp:(0:Int)<(b:Int):=by omega
 have hb9:(b:Int)≤1000:=by omega
 have h1:=Int.emod_lt_of_pos n hbp
 have h2:=Int.emod_nonneg n hbz
 have ht:n.tmod (b:Int)=if 0≤n∨(b:Int) ∣ n then n % (b:Int) else n % (b:Int) - (b:Int):=by
  rw [Int.tmod_eq_emod]
  split
  · simp
  · rw [Int.natAbs_of_nonneg (by omega)]
 obtain ⟨r,hr⟩:∃ r,n.tmod (b:Int)=r:=⟨_,rfl⟩
 by_cases hc:0≤n∨(b:Int) ∣ n
 · rw [if_pos hc,hr] at ht
   have q1:¬ r<0:=by omega
   have HR:Hid (r=n % (b:Int)):=ht
   clear ht h1 h2 hc
   go_enter Tryz.func7,Tryz.ntmps7
   go_wp2
   go_ret
   exact ⟨by rw [HV.out,← HR.out];rfl,rfl⟩
 · rw [if_neg hc,hr] at ht
   have q1:r<0:=by omega
   have q2:-1000≤r:=by omega
   have HR:Hid (r+(b:Int)=n % (b:Int)):=by rw [Hid,ht];omega
   clear ht h1 h2 hc
   go_enter Tryz.func7,Tryz.ntmps7
   go_wp2
   go_ret
   exact ⟨by rw [HV.out,← HR.out];rfl,rfl⟩
theorem zk4 (A B:Option Addr) (n c c':Nat) (l:List ByteArray) (w:World) (hn:n≤1000000) (hl:l.length=n) (ha:Rd w w.heap.size A (strCells l)) (hb:Rd w w.heap.size B (strCells l)):Calls Tryz.prog 13 #[.slice A n c,.slice B n c'] w fun e w'=>e=.returned (.bool true)∧Below w.heap.size w w':=by
 have HL:=Lib.hid hl
 have HAB:=Lib.hid (And.intro ha hb)
 clear hl ha hb
 go_enter Tryz.func13,Tryz.ntmps13
 go_wp2
 go_loopw [5] (fun u wr=>∃ k:Nat,k≤n∧u=.int .i64 k∧Below w.heap.size w wr) (fun u _=>n - (intOf u).toNat)
 case atStart=>exact ⟨0,Nat.zero_le _,rfl,Below.refl _ _⟩
 case round =>
  obtain ⟨k,hk,rfl,hbw⟩:=hrel
  by_cases hlt:k<n
  · obtain ⟨s,hs⟩:∃ s,l[k]?=some s:=⟨_,List.getElem?_eq_getElem (by rw [HL.out];exact hlt)⟩
    obtain ⟨ab,ao,rfl,_,z0⟩:=(HAB.out.1.keep hbw).at_ (zej hs)
    obtain ⟨bb,bo,rfl,_,z1⟩:=(HAB.out.2.keep hbw).at_ (zej hs)
    have hlti:(k:Int)<(n:Int):=by omega
    have x0:=fun y:Xt wr=>y.cell z0
    have x1:=fun y:Xt wr=>y.cell z1
    clear hs z0 z1
    go_upto_region 6 with (fail)
    refine za5 (by kernel_rfl) (by kernel_rfl) ?_
    repeat (go_big_quiet_step (fail))
    refine wpQuiet_nil ?_
    intro w1 hx
    have hb1:=hbw.trans ((Xt.below hx).mono hbw.size)
    clear hx hbw x0 x1
    go_wp2
    go_roundw
    case rel=>exact ⟨k+1,hlt,by go_num,hb1⟩
    case measure=>simp [intOf];omega
  · obtain rfl:k=n:=by omega
    go_wp2
    go_ret
    exact ⟨rfl,hbw⟩
theorem enVals_one:∀ x:EnV,∀ u∈zkw x,u.oneCell'=true:=fun x u hu=>by
 simp only [zkw,List.mem_cons,List.not_mem_nil,or_false] at hu
 rcases hu with rfl | rfl <;> rfl
theorem ze7 (w:World) (B:Nat) (A:Option Addr) (n c:Nat) (l:List EnV) (hl:l.length=n) (hn:n≤1000000) (h:Rd w B A (zbe l)) (hB:B≤w.heap.size) :
 Calls Tryz.prog 12 #[.slice A n c] w (zd8 w 58 2 (zbe l) n):=by
 obtain ⟨i1,hi1,hy0,hy1,hy2⟩:=info_parts zjh
 have HL:=Lib.hid hl
 have h':=h.below (((Below.refl _ _).alloc (Nat.le_refl _) (.cells #[] 58):Below w.heap.size w (w.alloc (.cells #[] 58))).mono hB)
 have hb0:=hB1 w (.cells #[] 58)
 clear hl
 go_enter Tryz.func12,Tryz.ntmps12
 go_wp2_with (at_builtin;refine stp ?_)
 unfold Stp
 refine za6 _ rfl _ _ 55 rfl w.heap.size 58 i1 _ 2 32 Tryz.underlying55 hi1 hy0 hy1 hy2 rfl (by omega) w.heap.size rfl (by rw [zae,if_pos rfl]) (Nat.le_refl _) B A n c (zbe l) rfl (by rw [enCells_len,HL.out]) h' (zdr enVals_one _) (by simp only [maxLen];omega) (by omega) (by simp) ?_
 intro g cap w1 hown hgrow _
 have hb1:Below w.heap.size w w1:=hb0.grown hgrow (by simp) (fun k hk=>by rw [← Option.some.inj hk];exact Nat.le_refl _)
 have HR:=Lib.hid hown
 have hcap:=zbn hown
 have HB:=Lib.hid hb1
 clear hown hgrow hb0 hb1 h h'
 go_wp2
 go_ret
 exact ⟨_,_,rfl,hcap,HR.out,HB.out⟩
theorem asked22 (w:World) (h:HouseV) (A:Option Addr) (m c:Nat) (f:Nat) (lb:Array Value) (hf:∀ av W,(callFunc f av).run Tryz.prog W=.ok (.enter f av) W) (Q:BookV→Prop) (P:Value→Int→World→Prop) (hT:CtAt w) (OP:∀ W,Below w.heap.size w W→Calls Tryz.prog 31 #[.agg (zah h).toArray,.slice A m c] W (zf5 W Q))
 (DO:∀ (W:World) (x b:Nat) (V:BookV),Below w.heap.size w W→Q V→BkAt W x b V→CtAt W→Calls Tryz.prog f (#[.pointer (some ⟨b,0,none⟩)]++lb) W (AskP P W)):Calls Tryz.prog 22 #[.agg (zah h).toArray,.slice A m c,.func (.func f) #[] lb] w (AskP P w):=by
 have hb0:=hB1 w (.cells (zah h).toArray 45)
 have k0:=hA1 w (.cells (zah h).toArray 45)
 have OP1:=OP _ hb0
 have HB:=Lib.hid hb0
 have HDO:=Lib.hid DO
 have HTF:=Lib.hid (show ∀ W,Below w.heap.size w W→CtAt W from fun W h=>hT.below h)
 have hs0:=hS1 w (.cells (zah h).toArray 45)
 clear hb0 hT DO OP
 go_enter Tryz.func22,Tryz.ntmps22
 go_upto_region 1 with (fail)
 generalize w.alloc (.cells (zah h).toArray 45)=w0 at *
 generalize hbw:w.heap.size=bw at *
 have HBW:=Lib.hid hbw
 clear hbw
 go_wp2_with (with_reducible refine zaw 45 ?_)
 unfold Stp
 refine wpList_load_row rfl 45 _ rfl bw rfl 45 _ (0,0) _ k0 Tryz.underlying45 rfl (by kernel_rfl) ?_
 go_upto_region 2 with (go_at_call 31;refine OP1.mono ?_;rintro e w1 ⟨x,b,V,rfl,hx,hx1,ST,hBk,hb1⟩)
 have hb1x:=HB.out.trans (hb1.mono (by omega))
 have DX:=HDO.out w1 x b V hb1x ST hBk (HTF.out w1 hb1x)
 have HB1:=Lib.hid hb1x
 have hs1:=hb1.size
 clear OP1 hb1 k0 hb1x
 go_wp2_with (refine DX.mono ?_;rintro e w2 ⟨v,E,rfl,hP,hb2⟩)
 have HP:=Lib.hid hP
 clear hP
 go_ret2
 exact ⟨v,E,rfl,HP.out,by rw [HBW.out];exact HB1.out.trans (hb2.mono (by omega))⟩
theorem mastsC (W:World) (b q:Nat) (tr:ByteArray) (P:Value→Int→World→Prop) (hq:W.cell? ⟨q,0,none⟩=some (.string tr)) (AK:Calls Tryz.prog 24 #[.pointer (some ⟨b,0,none⟩),.string tr] W (AskP P W)):Calls Tryz.prog 23 #[.pointer (some ⟨b,0,none⟩),.pointer (some ⟨q,0,none⟩)] W (AskP P W):=by
 go_enter Tryz.func23,Tryz.ntmps23
 go_wp2_with (go_at_call 24;refine AK.mono ?_;rintro e w1 ⟨v,E,rfl,hP,hb1⟩)
 have HP:=Lib.hid hP
 clear hP
 go_ret2
 exact ⟨v,E,rfl,HP.out,hb1⟩
theorem MastsOf_R (w:World) (h:HouseV) (hE:zcg h=(0,0,0)) (hS:HouseS h) (p:Nat) (y:Sw) (hp:h.people[p]?=some y) (hy:1≤y.2) (t:Nat) (tr:ByteArray) (ht:h.plant.trains[t]?=some tr) (evs:List REv) (sF:SesS) (hv:zii h.masts.length none evs=some sF) (hl:evs.length≤60) (m:Nat) (hm:evs.length=m) (A:Option Addr) (c:Nat) (hH:HouseAt w w.heap.size h) (hr:Rd w w.heap.size A (zbe (zf8 h y.1 tr evs))) (hT:CtAt w) :
 Calls Tryz.prog 10 #[.agg (zah h).toArray,.slice A m c,.string tr] w (AskP (MaP h.masts sF) w):=by
 have hb0:=hB2 w (.cells (zah h).toArray 45) (.cells #[.string tr] 9)
 have k0:=hA2a w (.cells (zah h).toArray 45) (.cells #[.string tr] 9)
 have k1:=hA2b w (.cells (zah h).toArray 45) (.cells #[.string tr] 9)
 have hc:=(cell_of_row _ _ 0 _ _ _ k1).trans (by rfl:_=some (.string tr))
 have AS:=asked22 ((w.alloc (.cells (zah h).toArray 45)).alloc (.cells #[.string tr] 9)) h A m c 23 #[.pointer (some ⟨w.heap.size+1,0,none⟩)] (fun _ _=>by kernel_rfl) (RSt h y.1 tr t evs evs.length) (MaP h.masts sF) (hT.below hb0) (fun W hW=>hm ▸ open_R W h hE hS p y hp hy t tr ht evs sF hv hl A c (((hH.keep hb0).mono hb0.size).keep hW |>.mono hW.size) (((hr.keep hb0).mono hb0.size).keep hW |>.mono hW.size) ((hT.below hb0).below hW)) (fun W x b V hW hV hB hC=>mastsC W b (w.heap.size+1) tr _ (zat hW hc) (mastsR W x b V h hE hS y.1 tr t ht evs sF hv hV hB))
 have HB:=Lib.hid hb0
 have hs0:=hS2 w (.cells (zah h).toArray 45) (.cells #[.string tr] 9)
 clear hb0 hH hr hT hc k1 hm hl hv
 go_enter Tryz.func10,Tryz.ntmps10
 go_upto_region 1 with (fail)
 generalize ((w.alloc (.cells (zah h).toArray 45)).alloc (.cells #[.string tr] 9))=w0 at *
 generalize hbw:w.heap.size=bw at *
 have HBW:=Lib.hid hbw
 clear hbw
 go_wp2_with (with_reducible refine zaw 45 ?_)
 unfold Stp
 refine wpList_load_row rfl 45 _ rfl bw rfl 45 _ (0,0) _ k0 Tryz.underlying45 rfl (by kernel_rfl) ?_
 go_wp2_with (go_at_call 22;refine AS.mono ?_;rintro e w1 ⟨v,E,rfl,hP,hb1⟩)
 have HP:=Lib.hid hP
 clear hP
 go_ret2
 exact ⟨v,E,rfl,HP.out,by rw [HBW.out];exact HB.out.trans (hb1.mono (by omega))⟩
end Go.Proofs.YtoodbfkbbchjiaaGreatDoor
