import Derived.Test.YtoodbfkbbchjiaaGreatDoorf3X18
set_option maxRecDepth 100000
set_option maxHeartbeats 16000000
namespace Go.Proofs.YtoodbfkbbchjiaaGreatDoor
open Go.RowKit
def Xb (B:Nat) (w:World):={ w':World // Below B w w' }
instance xbNonempty (B:Nat) (w:World):Nonempty (Xb B w):=⟨⟨w,Below.refl _ _⟩⟩
theorem Xb.cell {B:Nat} {w:World} (x:Xb B w) {p:Addr} {v:Value} (hp:p.block<B) (h:w.cell? p=some v):x.1.cell? p=some v:=keptB x.2 hp h
theorem zci {B b:Nat} {bs:List Value} {w w':World} (h:Lib.IsBuilder 151 5 B b bs w) (hb:Below w.heap.size w w'):Lib.IsBuilder 151 5 B b bs w':=by
 rcases h with ⟨h1,v,h2,h3,h4⟩ | ⟨h1,v,h2,h3,h4⟩
 · exact .inl ⟨h1,v,blk hb h2,zaf h3 hb,h4⟩
 · exact .inr ⟨h1,v,blk hb h2,zaf h3 hb,h4⟩
theorem zcz (s:ByteArray):Lib.strCells s=Lib.byteCells s.data.toList:=rfl
theorem ze5 (a b:List UInt8):Lib.byteCells a++Lib.byteCells b=Lib.byteCells (a++b):=by simp [Lib.byteCells]
def swCh (x:Int):List UInt8:=if x=0 then [48] else if x=1 then [49] else [63]
def zim (l:List Int):List UInt8:=l.flatMap swCh
def zj3 (t:LtV):ByteArray:=if (t.chain.isEmpty && (t.under == 0))=true then ba [45] else ba (Lib.itoa t.under)++ba [58]++ba (Lib.join (t.chain.map Lib.itoa) [44])
def stTs (q:LsV):List ByteArray:=(if q.sws.isEmpty=true then ba [45] else ba (zim q.sws)) :: ba (Lib.itoa q.ctr) :: q.trs.map zj3
def stTx (q:LsV):ByteArray:=ba (Lib.join ((stTs q).map (·.data.toList)) [32])
theorem itoa_0:Lib.itoa 0=[48]:=by decide +kernel
theorem itoa_1:Lib.itoa 1=[49]:=by decide +kernel
theorem swCh_len (x:Int):(swCh x).length=1:=by
 unfold swCh
 split
 · rfl
 · split <;> rfl
theorem zlh (l:List Int):(zim l).length=l.length:=by
 induction l with
 | nil=>rfl
 | cons x l ih =>
  unfold zim at ih ⊢
  rw [List.flatMap_cons,List.length_append,ih,swCh_len,List.length_cons,Nat.add_comm]
theorem swTx_snoc (l:List Int) (x:Int):zim (l++[x])=zim l++swCh x:=by simp [zim]
def FsRel (w0:World) (b n:Nat) (sws:List Int) (u15:Value) (wr:World):Prop:=∃ k:Nat,k≤n∧u15=.int .i64 k∧Lib.IsBuilder 151 5 b b (Lib.byteCells (zim (sws.take k))) wr∧Below b w0 wr
def FcRel (w3:World) (l:List Int) (n:Nat) (u9 u61:Value) (wr:World):Prop:=∃ k:Nat,k≤n∧u61=.int .i64 k∧wr.ownsRow w3.heap.size 9 1 u9 k (strCells ((l.take k).map fun x=>ba (Lib.itoa x)))∧Below w3.heap.size w3 wr
def FtRel (w5:World) (x n:Nat) (hd:List ByteArray) (trs:List LtV) (u6 u42:Value) (wr:World):Prop:=∃ k:Nat,k≤n∧u42=.int .i64 k∧wr.ownsRow x 9 1 u6 (k+2) (strCells (hd++(trs.take k).map zj3))∧Below x w5 wr
theorem zhn (M:Nat) (sep:List UInt8):∀ l:List (List UInt8),(∀ a∈l,a.length≤M)→(Lib.join l sep).length≤l.length * (M+sep.length)
 | [],_=>Nat.zero_le _
 | [x],h=>by
  rw [Lib.join_one]
  have:=h x (by simp)
  simp
  omega
 | x :: y :: l,h=>by
  have h1:=zhn M sep (y :: l) (fun a ha=>h a (List.mem_cons_of_mem _ ha))
  have h2:=h x (by simp)
  have e:Lib.join (x :: y :: l) sep=x++sep++Lib.join (y :: l) sep:=by simp [Lib.join,List.intercalate,List.intersperse]
  rw [e,List.length_append,List.length_append,List.length_cons,Nat.succ_mul]
  omega
theorem trTx_small {t:LtV} (h1:t.chain.length≤1000) (h:(-9223372036854775808≤t.under∧t.under≤9223372036854775807)∧∀ x∈t.chain,-9223372036854775808≤x∧x≤9223372036854775807):(zj3 t).size≤30000:=by
 unfold zj3
 split
 · rw [zcw];decide
 · rw [ByteArray.size_append,ByteArray.size_append,zcw,zcw,zcw]
   have a1:=Lib.itoa_length_le t.under h.1.1 h.1.2
   have a2:=zhn 21 [44] (t.chain.map Lib.itoa) (fun a ha=>by
    obtain ⟨x,hx,rfl⟩:=List.mem_map.1 ha
    exact Lib.itoa_length_le x (h.2 x hx).1 (h.2 x hx).2)
   rw [List.length_map] at a2
   simp only [List.length_singleton] at a2 ⊢
   omega
theorem stTs_small {q:LsV} (hS:LsS q) (hi:(-9223372036854775808≤q.ctr∧q.ctr≤9223372036854775807)∧∀ t∈q.trs,(-9223372036854775808≤t.under∧t.under≤9223372036854775807)∧∀ x∈t.chain,-9223372036854775808≤x∧x≤9223372036854775807):∀ s∈stTs q,s.size≤30000:=by
 intro s hs
 simp only [stTs,List.mem_cons,List.mem_map] at hs
 rcases hs with rfl | rfl | ⟨t,ht,rfl⟩
 · split
   · rw [zcw];decide
   · rw [zcw,zlh]
     have:=hS.2.1
     omega
 · rw [zcw]
   have:=Lib.itoa_length_le q.ctr hi.1.1 hi.1.2
   omega
 · exact trTx_small (hS.2.2 t ht) (hi.2 t ht)
theorem zjz (w:World) (B:Nat) (q:LsV) (hQ:LsAt w B q) (hB:B≤w.heap.size) (hS:LsS q) (hi:(-9223372036854775808≤q.ctr∧q.ctr≤9223372036854775807)∧∀ t∈q.trs,(-9223372036854775808≤t.under∧t.under≤9223372036854775807)∧∀ x∈t.chain,-9223372036854775808≤x∧x≤9223372036854775807) (hne:q.sws≠[]) (ht:TxtAt w):Calls Tryz.prog 58 #[.agg (zbf q).toArray] w (zfw w (stTx q)):=by
 show Calls Tryz.prog 58 #[.agg #[q.sw.v,q.tr.v,.int .i64 q.ctr]] w _
 have hb0:=hB2 w (.cells #[q.sw.v,q.tr.v,.int .i64 q.ctr] 103) (.cells #[.pointer none,.slice none 0 0] 151)
 have k0:=hA2a w (.cells #[q.sw.v,q.tr.v,.int .i64 q.ctr] 103) (.cells #[.pointer none,.slice none 0 0] 151)
 have k1:=hA2b w (.cells #[q.sw.v,q.tr.v,.int .i64 q.ctr] 103) (.cells #[.pointer none,.slice none 0 0] 151)
 have hs0:=hS2 w (.cells #[q.sw.v,q.tr.v,.int .i64 q.ctr] 103) (.cells #[.pointer none,.slice none 0 0] 151)
 have HB:=Lib.hid hb0
 have HQ:=Lib.hid (show ∀ W,Below w.heap.size w W→LsAt W B q from fun W h=>hQ.keep h)
 have HT:=Lib.hid (show ∀ W,Below w.heap.size w W→TxtAt W from fun W h=>ht.below h)
 have HS:=Lib.hid hS
 have HI:=Lib.hid hi
 clear hb0 hQ ht hS hi
 go_enter Tryz.func58,Tryz.ntmps58
 go_upto_region 2 with (fail)
 generalize (w.alloc (.cells #[q.sw.v,q.tr.v,.int .i64 q.ctr] 103)).alloc (.cells #[.pointer none,.slice none 0 0] 151)=w0 at *
 generalize hbw:w.heap.size=bw at *
 have HBW:=Lib.hid hbw
 clear hbw
 have hib:Lib.IsBuilder 151 5 (bw+1) (bw+1) (Lib.byteCells (zim (q.sws.take 0))) w0:=.inl ⟨Nat.le_refl _,.slice none 0 0,k1,⟨rfl,.inl ⟨rfl,rfl⟩⟩,by simp [Value.ownBlock]⟩
 obtain ⟨d0,d1,d2⟩:_∧_∧_:=zba k0
 obtain ⟨n,hn⟩:∃ n,q.sw.n=n:=⟨_,rfl⟩
 simp only [SlV.v,hn] at d0
 have HSN:Hid (q.sws.length=n):=by rw [Hid,← hn];exact (HQ.out w0 HB.out).sws.1
 have hn9:n≤1000:=by rw [← HSN.out];exact HS.out.2.1
 obtain ⟨Aq,hAq⟩:∃ A,q.sw.A=A:=⟨_,rfl⟩
 rw [hAq] at d0
 have HRD:=Lib.hid (show Rd w0 B Aq (zai q.sws) from by rw [← hAq];exact (HQ.out w0 HB.out).sws.2)
 have HNN:=Lib.hid hn
 clear hn hAq
 go_wp2
 go_loopw [15] (fun u15 wr=>FsRel w0 (bw+1) n q.sws u15 wr) (fun u15 _=>n - (intOf u15).toNat)
 case atStart=>exact ⟨0,Nat.zero_le _,rfl,hib,Below.refl _ _⟩
 case round =>
  clear hib k1 d1 d2
  obtain ⟨k,hk,rfl,hib,hb⟩:=hrel
  have HB1:=Lib.hid hb
  have HIB:=Lib.hid hib
  have hsr:=Nat.le_trans hs0 hb.size
  by_cases hlt:k<n
  · have hkl:k<q.sws.length:=by rw [HSN.out];exact hlt
    obtain ⟨x,hx⟩:∃ x,q.sws[k]?=some x:=⟨_,List.getElem?_eq_getElem hkl⟩
    obtain ⟨bb,off,rfl,hbb,z0⟩:=(HRD.out.below (hb.mono (show B≤bw+1 by omega))).at_ (k:=k) (u:=.int .i64 x) (by simp only [zai,List.getElem?_map,hx,Option.map_some])
    have hl0:(zim (q.sws.take k)).length=k:=by rw [zlh,List.length_take,Nat.min_eq_left (Nat.le_of_lt hkl)]
    have HTK:Hid (Lib.byteCells (zim (q.sws.take (k+1)))=Lib.byteCells (zim (q.sws.take k))++Lib.byteCells (swCh x)):=by rw [Hid,List.take_add_one,hx,ze5,← swTx_snoc];rfl
    have WS:=fun (s:ByteArray) (hs:s.size≤1) (W:World) (h:Lib.IsBuilder 151 5 (bw+1) (bw+1) (Lib.byteCells (zim (q.sws.take k))) W) (hw:bw+1≤W.heap.size)=>zfv (bw+1) (bw+1) _ s W h (by rw [Lib.byteCells_length,hl0];omega) hw
    have HB2:=Lib.hid (HB.out.trans (hb.mono (Nat.le_succ bw)))
    clear hkl hx hl0 hib hb d0
    by_cases e0:x=0
    · subst e0
      have hch:swCh 0=[48]:=rfl
      have HTC:Hid (Lib.byteCells (zim (q.sws.take (k+1)))=Lib.byteCells (zim (q.sws.take k))++Lib.strCells (ba [48])):=by
       rw [Hid,HTK.out,hch,zcz]
       rfl
      clear hch
      have IT:=zb8 0 (by omega) (by omega) wr (HT.out wr HB2.out)
      rw [itoa_0] at IT
      go_wp2_with (first | (go_at_call 57;refine IT.mono ?_;rintro e w1 ⟨rfl,hb1⟩) | (go_at_call 55;refine stp ?_))
      unfold Stp
      have WS1:=WS (ba [48]) (Nat.le_refl 1) w1 (zci HIB.out hb1) (by have:=hb1.size;omega)
      have hb3:=HB1.out.trans (hb1.mono (by omega))
      clear WS IT
      refine WS1.mono ?_
      rintro e w2 ⟨rfl,hba,hb2⟩
      have HB3:=Lib.hid (hb3.trans hb2)
      have HBA:=Lib.hid hba
      clear hba hb2 WS1
      go_wp2
      go_roundw
      case rel=>exact ⟨k+1,hlt,by go_num,.inr (by rw [HTC.out];exact HBA.out),HB3.out⟩
      case measure=>simp [intOf];omega
    · have q0:(x == 0)=false:=by simp [e0]
      by_cases e1:x=1
      · subst e1
        have hch:swCh 1=[49]:=rfl
        clear q0 e0
        have HTC:Hid (Lib.byteCells (zim (q.sws.take (k+1)))=Lib.byteCells (zim (q.sws.take k))++Lib.strCells (ba [49])):=by
         rw [Hid,HTK.out,hch,zcz]
         rfl
        clear hch
        have IT:=zb8 1 (by omega) (by omega) wr (HT.out wr HB2.out)
        rw [itoa_1] at IT
        go_wp2_with (first | (go_at_call 57;refine IT.mono ?_;rintro e w1 ⟨rfl,hb1⟩) | (go_at_call 55;refine stp ?_))
        unfold Stp
        have WS1:=WS (ba [49]) (Nat.le_refl 1) w1 (zci HIB.out hb1) (by have:=hb1.size;omega)
        have hb3:=HB1.out.trans (hb1.mono (by omega))
        clear WS IT
        refine WS1.mono ?_
        rintro e w2 ⟨rfl,hba,hb2⟩
        have HB3:=Lib.hid (hb3.trans hb2)
        have HBA:=Lib.hid hba
        clear hba hb2 WS1
        go_wp2
        go_roundw
        case rel=>exact ⟨k+1,hlt,by go_num,.inr (by rw [HTC.out];exact HBA.out),HB3.out⟩
        case measure=>simp [intOf];omega
      · have q1:(x == 1)=false:=by simp [e1]
        have hch:swCh x=[63]:=by rw [swCh,if_neg e0,if_neg e1]
        clear e0 e1
        have HTC:Hid (Lib.byteCells (zim (q.sws.take (k+1)))=Lib.byteCells (zim (q.sws.take k))++Lib.strCells ⟨#[63]⟩):=by
         rw [Hid,HTK.out,hch,zcz]
        clear hch
        have WS1:=WS ⟨#[63]⟩ (Nat.le_refl 1) wr HIB.out (by omega)
        clear WS
        go_wp2_with (go_at_call 55;refine WS1.mono ?_;rintro e w2 ⟨rfl,hba,hb2⟩)
        have HB3:=Lib.hid (HB1.out.trans hb2)
        have HBA:=Lib.hid hba
        clear hba hb2 WS1
        go_wp2
        go_roundw
        case rel=>exact ⟨k+1,hlt,by go_num,.inr (by rw [HTC.out];exact HBA.out),HB3.out⟩
        case measure=>simp [intOf];omega
  · obtain rfl:k=n:=by omega
    have e:q.sws.take k=q.sws:=List.take_of_length_le (by rw [HSN.out];exact Nat.le_refl _)
    rw [e] at hib
    have HIB:=Lib.hid hib
    clear hib e HRD d0
    obtain ⟨d0,d1,d2⟩:_∧_∧_:=zba ((HB1.out.block bw (Nat.lt_succ_self bw)).trans k0)
    clear d0
    have HB2:=Lib.hid (HB.out.trans (HB1.out.mono (Nat.le_succ bw)))
    have SP:=Tryz.Builder_String_any (bw+1) (bw+1) (zim q.sws) wr HIB.out (by omega)
    have IT:=fun W (hW:Below bw w W)=>zb8 q.ctr HI.out.1.1 HI.out.1.2 W (HT.out W hW)
    go_upto_region 11 with (fail)
    have hdd:Below wr.heap.size wr wr.drew:=(Below.refl _ _).drew
    have x2:=fun y:Xb (bw+1) wr=>y.cell (Nat.lt_succ_self bw) d2
    refine zak [5] (fun w'=>∃ y:Xb (bw+1) wr,w'=y.1) (by kernel_rfl) ⟨⟨wr.drew,(Below.refl _ _).drew⟩,rfl⟩ ?_
    refine zao [1,2] 4 rfl (by kernel_rfl) ?_
    simp only [zad,zac,zaa,zX1,zX2,zX3]
    repeat (go_big_quiet_step (fail))
    refine wpQuiet_nil ?_
    have hbd:Below (bw+1) wr wr.drew:=(Below.refl _ _).drew
    show wpE _ _ _ _ _ _ _ _ _ wr.drew
    generalize wr.drew=wd at *
    clear x2
    have hbd0:Below wr.heap.size wr wd:=hdd
    have SPD:=Tryz.Builder_String_any (bw+1) (bw+1) (zim q.sws) wd (zci HIB.out hbd0) (by have:=hbd.size;omega)
    have hbw1:bw+1≤wr.heap.size:=by omega
    refine zan (i:=0) rfl (by kernel_rfl) rfl ?_
    unfold zar
    simp only [zad,zac,zaa,zX1,zX2,zX3]
    go_wp2_with (go_at_call 64;refine SPD.mono ?_;rintro e we ⟨rfl,hbe0⟩)
    have hbe:=hbd.trans hbe0
    refine zab ⟨⟨⟨_,hbe⟩,rfl⟩,?_⟩
    have HBE:=Lib.hid (HB2.out.trans (hbe.mono (Nat.le_succ bw)))
    have ITE:=IT we HBE.out
    clear SP SPD IT
    have hsve:(⟨(zim q.sws).toArray⟩:ByteArray).toList.isEmpty=false:=by
     rw [Lib.toList_data]
     cases h9:q.sws with
     | nil=>exact absurd h9 hne
     | cons x l =>
      have h8:=zlh (x :: l)
      cases h7:zim (x :: l) with
      | nil=>rw [h7] at h8;simp at h8
      | cons=>rfl
    have HHD:Hid (stTs q=[⟨(zim q.sws).toArray⟩,ba (Lib.itoa q.ctr)]++q.trs.map zj3):=by
     rw [Hid,stTs,if_neg (by cases h9:q.sws with | nil=>exact absurd h9 hne | cons=>simp)]
     rfl
    generalize (⟨(zim q.sws).toArray⟩:ByteArray)=sv at *
    generalize ba (Lib.itoa q.ctr)=cv at *
    refine zan (i:=3) rfl (by kernel_rfl) rfl ?_
    unfold zar
    simp only [zad,zac,zaa,zX1,zX2,zX3]
    go_wp2_with (go_at_call 57;refine ITE.mono ?_;rintro e wf ⟨rfl,hbf0⟩)
    have hbf:=hbe.trans (hbf0.mono (by have:=hbd.size;have:=hbe.size;omega))
    refine zab ⟨⟨⟨_,hbf⟩,rfl⟩,?_⟩
    refine zan (i:=4) rfl (by kernel_rfl) rfl ?_
    unfold zar
    simp only [zad,zac,zaa,zX1,zX2,zX3]
    go_wp2
    have hbq0:=hB1 wf (.cells #[.string sv,.string cv] 9)
    have kq:=hA1 wf (.cells #[.string sv,.string cv] 9)
    have hbg:=hbf.trans (hbq0.mono (by have:=hbf.size;omega))
    refine zab ⟨⟨⟨_,hbg⟩,rfl⟩,?_⟩
    refine zau rfl (by kernel_rfl) ?_
    simp only [zad,zac,zaa,zX1,zX2,zX3]
    have HO:=Lib.hid (zgx (w:=wf) (B:=wf.heap.size) (e:=9) (size:=1) (n:=2) (C:=#[.string sv,.string cv]) (Nat.le_refl _) rfl (by decide))
    have HBG:=Lib.hid (HB2.out.trans (hbg.mono (Nat.le_succ bw)))
    have hsg:=hS1 wf (.cells #[.string sv,.string cv] 9)
    have hbwf:bw+2≤wf.heap.size:=by have:=hbf.size;omega
    have kb:=(hbg.block bw (Nat.lt_succ_self bw)).trans ((HB1.out.block bw (Nat.lt_succ_self bw)).trans k0)
    clear hbf0 hbf hbq0 hbg hbe hbe0 hbd hbd0 hdd ITE d1 d2
    generalize wf.alloc (.cells #[.string sv,.string cv] 9)=w5 at *
    generalize wf.heap.size=y at *
    obtain ⟨_,d1,_⟩:_∧_∧_:=zba kb
    have r0:=zby (za7 HO.out) (k:=0) (u:=.string sv) rfl
    rw [Nat.zero_add] at r0
    go_wp2
    refine zab ?_
    go_upto_region 14 with (fail)
    obtain ⟨m,hm⟩:∃ n,q.tr.n=n:=⟨_,rfl⟩
    simp only [SlV.v,hm] at d1
    have HTN:Hid (q.trs.length=m):=by rw [Hid,← hm];exact (HQ.out w5 HBG.out).trs.1
    have hm9:m≤1000:=by rw [← HTN.out];exact HS.out.1
    obtain ⟨At,hAt⟩:∃ A,q.tr.A=A:=⟨_,rfl⟩
    rw [hAt] at d1
    have HRT:=Lib.hid (show ∀ W,Below bw w W→Rd W B At (zbs q.trs) from fun W hW=>by rw [← hAt];exact (HQ.out W hW).trs.2)
    have HMM:=Lib.hid hm
    clear hm hAt
    obtain ⟨i1,hi1,hy0,hy1,hy2⟩:=info_parts info9s
    generalize wr=wo at *
    go_wp2
    go_loopw [6,42] (fun u6 u42 wz=>FtRel w5 y m [sv,cv] q.trs u6 u42 wz) (fun _ u42 _=>m - (intOf u42).toNat)
    case atStart=>exact ⟨0,Nat.zero_le _,rfl,HO.out,Below.refl _ _⟩
    case round =>
     clear r0 d1 kb
     obtain ⟨k,hk,rfl,hown,hb⟩:=hrel
     obtain ⟨Au,cu,rfl⟩:=zcn hown
     have HOWN:=Lib.hid hown
     have HBY:=Lib.hid hb
     have hsy:=Nat.le_trans hsg hb.size
     have HBX:=Lib.hid (HBG.out.trans (hb.mono (by omega)))
     by_cases hlt:k<m
     · have hkl:k<q.trs.length:=by rw [HTN.out];exact hlt
       obtain ⟨t,ht⟩:∃ t,q.trs[k]?=some t:=⟨_,List.getElem?_eq_getElem hkl⟩
       have htm:=List.mem_of_getElem? ht
       obtain ⟨bb,off,rfl,hbb,z0,z1⟩:=Rd.lt (HRT.out wr HBX.out) ht
       have hts:=(HQ.out wr HBX.out).t t htm
       have htI:=HI.out.2 t htm
       have htl:=HS.out.2.2 t htm
       have HTX:Hid ([sv,cv]++(q.trs.take (k+1)).map zj3=([sv,cv]++(q.trs.take k).map zj3)++[zj3 t]):=by
        rw [Hid,List.take_add_one,ht,List.map_append,List.append_assoc];rfl
       clear hkl ht htm hown hb
       obtain ⟨⟨tA,tn,tc⟩,ch,un⟩:=t
       simp only at z0 z1 hts htI htl
       obtain ⟨htn,htr⟩:=hts
       simp only at htn htr
       subst htn
       have hba:=hB1 wr (.cells #[.slice tA ch.length tc,.int .i64 un] 224)
       obtain ⟨e0,e1⟩:_∧_:=zaz (W:=wr.alloc (.cells #[.slice tA ch.length tc,.int .i64 un] 224)) (r:=wr.heap.size) (t:=224) (by rw [zae,if_pos rfl])
       go_upto_region 17 with (fail)
       clear z0 z1
       have HBA:=Lib.hid hba
       have hsy0:y≤wr.heap.size:=by omega
       have kt:=hA1 wr (.cells #[.slice tA ch.length tc,.int .i64 un] 224)
       have HTR:=Lib.hid (htr.keep hba)
       have HBX8:=Lib.hid (HBX.out.trans (hba.mono (by omega)))
       have hs8:bw≤(wr.alloc (.cells #[.slice tA ch.length tc,.int .i64 un] 224)).heap.size:=by have:=hba.size;omega
       clear hba htr
       generalize wr.alloc (.cells #[.slice tA ch.length tc,.int .i64 un] 224)=w8 at *
       generalize wr=wy at *
       by_cases hcond:ch=[]∧un=0
       · obtain ⟨rfl,rfl⟩:=hcond
         have HTV:Hid (zj3 ⟨⟨tA,([]:List Int).length,tc⟩,[],0⟩=⟨#[45]⟩):=rfl
         have hrow8:=zaf HOWN.out HBA.out
         have hb8y:=HBY.out.trans (HBA.out.mono hsy0)
         have hs88:=Nat.le_trans hsy0 HBA.out.size
         simp only [List.length_nil] at e0 e1 kt hrow8 hb8y hs88
         go_wp2_with (at_builtin;refine stp ?_)
         unfold Stp
         refine wpList_append_lies _ rfl _ _ 22 rfl y 9 i1 _ 1 16 Tryz.underlying22 hi1 hy0 hy1 hy2 rfl (by omega) (.slice Au (k+2) cu) (k+2) _ rfl ((hrow8).alloc _) ⟨w8.heap.size,0,none⟩ 1 1 [.string (⟨#[45]⟩)] rfl rfl (zez (by simp)) (by simp [Value.oneCell']) (by omega) (by simp only [maxLen];omega) (by omega) (by simp;omega) _ rfl ?_
         intro gg cap w6 hown6 hgrow6 _ _
         have hb6:=((hb8y).alloc (hs88) _).grown hgrow6 (by simp;omega) (fun j hj=>(zbi (hrow8) hj).1)
         have HB7:=Lib.hid hb6
         have HO7:Hid (w6.ownsRow y 9 1 (.slice (some ⟨gg,0,none⟩) (k+2+1) cap) (k+1+2) (strCells ([sv,cv]++(q.trs.take (k+1)).map zj3))):=by
          rw [Hid,HTX.out,HTV.out,show k+1+2=k+2+1 by omega]
          simpa [strCells] using hown6
         clear hown6 hgrow6 hb6
         go_wp2
         go_roundw
         case rel=>exact ⟨k+1,hlt,by go_num,HO7.out,HB7.out⟩
         case measure=>simp [intOf];omega
       · have HTV:Hid (zj3 ⟨⟨tA,ch.length,tc⟩,ch,un⟩=ba (Lib.itoa un)++⟨#[58]⟩++ba (Lib.join (ch.map Lib.itoa) (⟨#[44]⟩:ByteArray).data.toList)):=by
          rw [Hid,zj3,if_neg]
          · rfl
          · intro h9
            simp only [Bool.and_eq_true,List.isEmpty_iff,beq_iff_eq] at h9
            exact hcond h9
         generalize hcn:ch.length=cn at *
         have HCN:=Lib.hid hcn
         have hcnu:cn=0→¬ un=0:=fun h9 h8=>hcond ⟨List.eq_nil_of_length_eq_zero (by rw [HCN.out];exact h9),h8⟩
         clear hcn hcond
         by_cases hc0:cn=0
         · have q1:(un == 0)=false:=by simp [hcnu hc0]
           have q0:((cn:Int) == 0)=true:=by simp [hc0]
           have HC0:=Lib.hid hc0
           clear hcnu hc0
           have hrow8:=zaf HOWN.out HBA.out
           have hsw8:=HBA.out.size
           go_wp2
           go_loopw [9,61] (fun u9 u61 wz=>FcRel w8 ch cn u9 u61 wz) (fun _ u61 _=>cn - (intOf u61).toNat)
           case atStart=>exact ⟨0,Nat.zero_le _,rfl,⟨rfl,.inl ⟨rfl,rfl⟩⟩,Below.refl _ _⟩
           case round =>
            obtain ⟨j,hj,rfl,hown9,hb9⟩:=hrel
            obtain ⟨A9,c9,rfl⟩:=zcn hown9
            have HOWN9:=Lib.hid hown9
            have HB9:=Lib.hid hb9
            have hs9:=hb9.size
            have HBX9:=Lib.hid (HBX8.out.trans (hb9.mono hs8))
            by_cases hlt2:j<cn
            · have hjl:j<ch.length:=by rw [HCN.out];exact hlt2
              obtain ⟨x,hx⟩:∃ x,ch[j]?=some x:=⟨_,List.getElem?_eq_getElem hjl⟩
              obtain ⟨cb,co,rfl,hcb,y0⟩:=((HTR.out).keep hb9).at_ (k:=j) (u:=.int .i64 x) (by simp only [zai,List.getElem?_map,hx,Option.map_some])
              have ITX:=zb8 x (htI.2 x (List.mem_of_getElem? hx)).1 (htI.2 x (List.mem_of_getElem? hx)).2 wr (HT.out wr HBX9.out)
              have HTK:Hid (strCells ((ch.take (j+1)).map fun x=>ba (Lib.itoa x))=strCells ((ch.take j).map fun x=>ba (Lib.itoa x))++[.string (ba (Lib.itoa x))]):=by
               rw [Hid,List.take_add_one,hx,List.map_append]
               simp [strCells]
              clear hown9 hb9 hx hjl e0 e1
              go_wp2_with (first | (go_at_call 57;refine ITX.mono ?_;rintro e w1 ⟨rfl,hb1⟩) | (at_builtin;refine stp ?_))
              unfold Stp
              have hown1:=zaf HOWN9.out hb1
              have hb91:=HB9.out.trans (hb1.mono hs9)
              have hs91:=Nat.le_trans hs9 hb1.size
              refine wpList_append_lies _ rfl _ _ 22 rfl w8.heap.size 9 i1 _ 1 16 Tryz.underlying22 hi1 hy0 hy1 hy2 rfl (by omega) (.slice A9 (j) c9) (j) _ rfl ((hown1).alloc _) ⟨w1.heap.size,0,none⟩ 1 1 [.string (ba (Lib.itoa x))] rfl rfl (zez (by simp)) (by simp [Value.oneCell']) (by omega) (by simp only [maxLen];omega) (by omega) (by simp;omega) _ rfl ?_
              intro gg cap w6 hown6 hgrow6 _ _
              have hb6:=((hb91).alloc (hs91) _).grown hgrow6 (by simp;omega) (fun j hj=>(zbi (hown1) hj).1)
              have HB7:=Lib.hid hb6
              have HO7:Hid (w6.ownsRow w8.heap.size 9 1 (.slice (some ⟨gg,0,none⟩) (j+1) cap) (j+1) (strCells ((ch.take (j+1)).map fun x=>ba (Lib.itoa x)))):=by
               rw [Hid,HTK.out]
               exact hown6
              clear hown6 hgrow6 hb6 hown1 hb91 hb1 ITX y0
              go_wp2
              go_roundw
              case rel=>exact ⟨j+1,hlt2,by go_num,HO7.out,HB7.out⟩
              case measure=>simp [intOf];omega
            · obtain rfl:j=cn:=by omega
              have e:ch.take j=ch:=List.take_of_length_le (by rw [HCN.out];exact Nat.le_refl _)
              rw [e] at hown9
              have hxl:(ch.map fun x=>ba (Lib.itoa x)).length=j:=by rw [List.length_map];exact HCN.out
              have IT1:=zb8 un htI.1.1 htI.1.2 wr (HT.out wr HBX9.out)
              have hrow9:=zaf hrow8 hb9
              have kt9:=blk hb9 kt
              obtain ⟨_,f1⟩:_∧_:=zaz kt9
              have hxs:(ch.map fun x=>ba (Lib.itoa x)).map (·.data.toList)=ch.map Lib.itoa:=by
               rw [List.map_map]
               exact List.map_congr_left (fun x _=>zft _)
              have hjl:(Lib.join ((ch.map fun x=>ba (Lib.itoa x)).map (·.data.toList)) (⟨#[44]⟩:ByteArray).data.toList).length≤140737488355328:=by
               rw [hxs]
               refine Nat.le_trans (zhn 21 _ _ fun a ha=>?_) ?_
               · obtain ⟨x,hx,rfl⟩:=List.mem_map.1 ha
                 exact Lib.itoa_length_le x (htI.2 x hx).1 (htI.2 x hx).2
               · rw [List.length_map,HCN.out]
                 show j * 22≤_
                 omega
              have hcap9:=zbn hown9
              have JN:=fun W (hW:Below wr.heap.size wr W)=>zf6 (ch.map fun x=>ba (Lib.itoa x)) ⟨#[44]⟩ A9 c9 wr.heap.size W (by rw [hxl];exact hcap9) hW.size ((za7 hown9).below hW) (by rw [hxl];omega) hjl
              rw [hxs,hxl] at JN
              have hus9:(ba (Lib.itoa un)).size≤21:=by rw [zcw];exact Lib.itoa_length_le un htI.1.1 htI.1.2
              have hjs9:(ba (Lib.join (ch.map Lib.itoa) (⟨#[44]⟩:ByteArray).data.toList)).size≤140737488355328:=by rw [zcw,← hxs];exact hjl
              generalize hus:ba (Lib.itoa un)=us at *
              generalize hjs:ba (Lib.join (ch.map Lib.itoa) (⟨#[44]⟩:ByteArray).data.toList)=js at *
              have hadd1:=fun W=>run_string_add_sum (P:=Tryz.prog) W us ⟨#[58]⟩ (by show us.size+1≤_;omega)
              have hadd2:=fun W=>run_string_add_sum (P:=Tryz.prog) W (us++⟨#[58]⟩) js (by rw [ByteArray.size_append];show us.size+1+js.size≤_;omega)
              have HB99:=Lib.hid hb9
              have hrow9h:=Lib.hid hrow9
              clear hxs hjl hown9 hb9 hrow9 kt9 e e0 e1 hus hjs hus9 hjs9
              go_wp2_with (first | (go_at_call 57;refine IT1.mono ?_;rintro e w1 ⟨rfl,hb1⟩) | (go_at_call 56;refine stp ?_))
              unfold Stp
              have JN1:=JN w1 hb1
              clear JN IT1 f1
              refine JN1.mono ?_
              rintro e w2 ⟨rfl,hb2⟩
              have hb12:=hb1.trans (hb2.mono hb1.size)
              have hown2:=zaf hrow9h.out hb12
              have hb8y:=HBY.out.trans (HBA.out.mono hsy0)
              have hbz:=(hb8y.trans (HB99.out.mono (Nat.le_trans hsy0 HBA.out.size))).trans (hb12.mono (by omega))
              have hsz:=hb12.size
              clear JN1 hb1 hb2 hb12 hadd1
              go_wp2_with (at_builtin;refine stp ?_)
              unfold Stp
              refine wpList_append_lies _ rfl _ _ 22 rfl y 9 i1 _ 1 16 Tryz.underlying22 hi1 hy0 hy1 hy2 rfl (by omega) (.slice Au (k+2) cu) (k+2) _ rfl ((hown2).alloc _) ⟨w2.heap.size,0,none⟩ 1 1 [.string (us++⟨#[58]⟩++js)] rfl rfl (zez (by simp)) (by simp [Value.oneCell']) (by omega) (by simp only [maxLen];omega) (by omega) (by simp;omega) _ rfl ?_
              intro gg cap w6 hown6 hgrow6 _ _
              have hb6:=((hbz).alloc (by omega) _).grown hgrow6 (by simp;omega) (fun j hj=>(zbi (hown2) hj).1)
              have HB7:=Lib.hid hb6
              have HO7:Hid (w6.ownsRow y 9 1 (.slice (some ⟨gg,0,none⟩) (k+2+1) cap) (k+1+2) (strCells ([sv,cv]++(q.trs.take (k+1)).map zj3))):=by
               rw [Hid,HTX.out,HTV.out,show k+1+2=k+2+1 by omega]
               simpa [strCells] using hown6
              clear hown6 hgrow6 hb6
              go_wp2
              go_roundw
              case rel=>exact ⟨k+1,hlt,by go_num,HO7.out,HB7.out⟩
              case measure=>simp [intOf];omega
         · have q0:((cn:Int) == 0)=false:=by simp;omega
           clear hcnu
           have hrow8:=zaf HOWN.out HBA.out
           have hsw8:=HBA.out.size
           go_wp2
           go_loopw [9,61] (fun u9 u61 wz=>FcRel w8 ch cn u9 u61 wz) (fun _ u61 _=>cn - (intOf u61).toNat)
           case atStart=>exact ⟨0,Nat.zero_le _,rfl,⟨rfl,.inl ⟨rfl,rfl⟩⟩,Below.refl _ _⟩
           case round =>
            obtain ⟨j,hj,rfl,hown9,hb9⟩:=hrel
            obtain ⟨A9,c9,rfl⟩:=zcn hown9
            have HOWN9:=Lib.hid hown9
            have HB9:=Lib.hid hb9
            have hs9:=hb9.size
            have HBX9:=Lib.hid (HBX8.out.trans (hb9.mono hs8))
            by_cases hlt2:j<cn
            · have hjl:j<ch.length:=by rw [HCN.out];exact hlt2
              obtain ⟨x,hx⟩:∃ x,ch[j]?=some x:=⟨_,List.getElem?_eq_getElem hjl⟩
              obtain ⟨cb,co,rfl,hcb,y0⟩:=((HTR.out).keep hb9).at_ (k:=j) (u:=.int .i64 x) (by simp only [zai,List.getElem?_map,hx,Option.map_some])
              have ITX:=zb8 x (htI.2 x (List.mem_of_getElem? hx)).1 (htI.2 x (List.mem_of_getElem? hx)).2 wr (HT.out wr HBX9.out)
              have HTK:Hid (strCells ((ch.take (j+1)).map fun x=>ba (Lib.itoa x))=strCells ((ch.take j).map fun x=>ba (Lib.itoa x))++[.string (ba (Lib.itoa x))]):=by
               rw [Hid,List.take_add_one,hx,List.map_append]
               simp [strCells]
              clear hown9 hb9 hx hjl e0 e1
              go_wp2_with (first | (go_at_call 57;refine ITX.mono ?_;rintro e w1 ⟨rfl,hb1⟩) | (at_builtin;refine stp ?_))
              unfold Stp
              have hown1:=zaf HOWN9.out hb1
              have hb91:=HB9.out.trans (hb1.mono hs9)
              have hs91:=Nat.le_trans hs9 hb1.size
              refine wpList_append_lies _ rfl _ _ 22 rfl w8.heap.size 9 i1 _ 1 16 Tryz.underlying22 hi1 hy0 hy1 hy2 rfl (by omega) (.slice A9 (j) c9) (j) _ rfl ((hown1).alloc _) ⟨w1.heap.size,0,none⟩ 1 1 [.string (ba (Lib.itoa x))] rfl rfl (zez (by simp)) (by simp [Value.oneCell']) (by omega) (by simp only [maxLen];omega) (by omega) (by simp;omega) _ rfl ?_
              intro gg cap w6 hown6 hgrow6 _ _
              have hb6:=((hb91).alloc (hs91) _).grown hgrow6 (by simp;omega) (fun j hj=>(zbi (hown1) hj).1)
              have HB7:=Lib.hid hb6
              have HO7:Hid (w6.ownsRow w8.heap.size 9 1 (.slice (some ⟨gg,0,none⟩) (j+1) cap) (j+1) (strCells ((ch.take (j+1)).map fun x=>ba (Lib.itoa x)))):=by
               rw [Hid,HTK.out]
               exact hown6
              clear hown6 hgrow6 hb6 hown1 hb91 hb1 ITX y0
              go_wp2
              go_roundw
              case rel=>exact ⟨j+1,hlt2,by go_num,HO7.out,HB7.out⟩
              case measure=>simp [intOf];omega
            · obtain rfl:j=cn:=by omega
              have e:ch.take j=ch:=List.take_of_length_le (by rw [HCN.out];exact Nat.le_refl _)
              rw [e] at hown9
              have hxl:(ch.map fun x=>ba (Lib.itoa x)).length=j:=by rw [List.length_map];exact HCN.out
              have IT1:=zb8 un htI.1.1 htI.1.2 wr (HT.out wr HBX9.out)
              have hrow9:=zaf hrow8 hb9
              have kt9:=blk hb9 kt
              obtain ⟨_,f1⟩:_∧_:=zaz kt9
              have hxs:(ch.map fun x=>ba (Lib.itoa x)).map (·.data.toList)=ch.map Lib.itoa:=by
               rw [List.map_map]
               exact List.map_congr_left (fun x _=>zft _)
              have hjl:(Lib.join ((ch.map fun x=>ba (Lib.itoa x)).map (·.data.toList)) (⟨#[44]⟩:ByteArray).data.toList).length≤140737488355328:=by
               rw [hxs]
               refine Nat.le_trans (zhn 21 _ _ fun a ha=>?_) ?_
               · obtain ⟨x,hx,rfl⟩:=List.mem_map.1 ha
                 exact Lib.itoa_length_le x (htI.2 x hx).1 (htI.2 x hx).2
               · rw [List.length_map,HCN.out]
                 show j * 22≤_
                 omega
              have hcap9:=zbn hown9
              have JN:=fun W (hW:Below wr.heap.size wr W)=>zf6 (ch.map fun x=>ba (Lib.itoa x)) ⟨#[44]⟩ A9 c9 wr.heap.size W (by rw [hxl];exact hcap9) hW.size ((za7 hown9).below hW) (by rw [hxl];omega) hjl
              rw [hxs,hxl] at JN
              have hus9:(ba (Lib.itoa un)).size≤21:=by rw [zcw];exact Lib.itoa_length_le un htI.1.1 htI.1.2
              have hjs9:(ba (Lib.join (ch.map Lib.itoa) (⟨#[44]⟩:ByteArray).data.toList)).size≤140737488355328:=by rw [zcw,← hxs];exact hjl
              generalize hus:ba (Lib.itoa un)=us at *
              generalize hjs:ba (Lib.join (ch.map Lib.itoa) (⟨#[44]⟩:ByteArray).data.toList)=js at *
              have hadd1:=fun W=>run_string_add_sum (P:=Tryz.prog) W us ⟨#[58]⟩ (by show us.size+1≤_;omega)
              have hadd2:=fun W=>run_string_add_sum (P:=Tryz.prog) W (us++⟨#[58]⟩) js (by rw [ByteArray.size_append];show us.size+1+js.size≤_;omega)
              have HB99:=Lib.hid hb9
              have hrow9h:=Lib.hid hrow9
              clear hxs hjl hown9 hb9 hrow9 kt9 e e0 e1 hus hjs hus9 hjs9
              go_wp2_with (first | (go_at_call 57;refine IT1.mono ?_;rintro e w1 ⟨rfl,hb1⟩) | (go_at_call 56;refine stp ?_))
              unfold Stp
              have JN1:=JN w1 hb1
              clear JN IT1 f1
              refine JN1.mono ?_
              rintro e w2 ⟨rfl,hb2⟩
              have hb12:=hb1.trans (hb2.mono hb1.size)
              have hown2:=zaf hrow9h.out hb12
              have hb8y:=HBY.out.trans (HBA.out.mono hsy0)
              have hbz:=(hb8y.trans (HB99.out.mono (Nat.le_trans hsy0 HBA.out.size))).trans (hb12.mono (by omega))
              have hsz:=hb12.size
              clear JN1 hb1 hb2 hb12 hadd1
              go_wp2_with (at_builtin;refine stp ?_)
              unfold Stp
              refine wpList_append_lies _ rfl _ _ 22 rfl y 9 i1 _ 1 16 Tryz.underlying22 hi1 hy0 hy1 hy2 rfl (by omega) (.slice Au (k+2) cu) (k+2) _ rfl ((hown2).alloc _) ⟨w2.heap.size,0,none⟩ 1 1 [.string (us++⟨#[58]⟩++js)] rfl rfl (zez (by simp)) (by simp [Value.oneCell']) (by omega) (by simp only [maxLen];omega) (by omega) (by simp;omega) _ rfl ?_
              intro gg cap w6 hown6 hgrow6 _ _
              have hb6:=((hbz).alloc (by omega) _).grown hgrow6 (by simp;omega) (fun j hj=>(zbi (hown2) hj).1)
              have HB7:=Lib.hid hb6
              have HO7:Hid (w6.ownsRow y 9 1 (.slice (some ⟨gg,0,none⟩) (k+2+1) cap) (k+1+2) (strCells ([sv,cv]++(q.trs.take (k+1)).map zj3))):=by
               rw [Hid,HTX.out,HTV.out,show k+1+2=k+2+1 by omega]
               simpa [strCells] using hown6
              clear hown6 hgrow6 hb6
              go_wp2
              go_roundw
              case rel=>exact ⟨k+1,hlt,by go_num,HO7.out,HB7.out⟩
              case measure=>simp [intOf];omega
     · obtain rfl:k=m:=by omega
       have e:q.trs.take k=q.trs:=List.take_of_length_le (by rw [HTN.out];exact Nat.le_refl _)
       rw [e,← HHD.out] at hown
       have hxl:(stTs q).length=k+2:=by rw [HHD.out,List.length_append,List.length_map,HTN.out];simp;omega
       have hcap:=zbn hown
       have hjl:(Lib.join ((stTs q).map (·.data.toList)) (⟨#[32]⟩:ByteArray).data.toList).length≤140737488355328:=by
        refine Nat.le_trans (zhn 30000 _ _ fun a ha=>?_) ?_
        · obtain ⟨x,hx,rfl⟩:=List.mem_map.1 ha
          rw [← Lib.size_eq]
          exact stTs_small HS.out HI.out x hx
        · rw [List.length_map,hxl]
          show (k+2) * 30001≤_
          omega
       have JN:=zf6 (stTs q) ⟨#[32]⟩ Au cu wr.heap.size wr (by rw [hxl];exact hcap) (Nat.le_refl _) (za7 hown) (by rw [hxl];omega) hjl
       rw [hxl] at JN
       have hbo:=HBX.out
       clear e hown hb hjl hxl
       go_wp2_with (go_at_call 56;refine JN.mono ?_;rintro e w1 ⟨rfl,hb1⟩)
       go_ret
       exact ⟨rfl,by rw [HBW.out];exact hbo.trans (hb1.mono (by have:=hbo.size;rw [HBW.out] at this;exact this))⟩
end Go.Proofs.YtoodbfkbbchjiaaGreatDoor
