import Derived.Test.YtoodbfkbbchjiaaGreatDoorf3J8
import Derived.Test.YtoodbfkbbchjiaaGreatDoorf3J9
import Derived.Test.YtoodbfkbbchjiaaGreatDoorf3S9
set_option maxRecDepth 100000
set_option maxHeartbeats 16000000
namespace Go.Proofs.YtoodbfkbbchjiaaGreatDoor
open Go.RowKit
theorem one_any (w:World) (a t:ByteArray):Calls Tryz.prog 8 #[.agg #[.string a,.string t]] w (zd8 w 58 2 (zbe [(a,t)]) 1):=by
 have hb0:=hB1 w (.cells #[.string a,.string t] 58)
 have k0:=hA1 w (.cells #[.string a,.string t] 58)
 have hs0:=hS1 w (.cells #[.string a,.string t] 58)
 have HB:=Lib.hid hb0
 clear hb0
 go_enter Tryz.func8,Tryz.ntmps8
 go_upto_region 1 with (fail)
 generalize w.alloc (.cells #[.string a,.string t] 58)=w0 at *
 generalize hbw:w.heap.size=bw at *
 have HBW:=Lib.hid hbw
 clear hbw
 obtain ⟨e0,e1⟩:_∧_:=zaz k0
 have HO:=Lib.hid (show (w0.alloc (.cells #[.string a,.string t] 58)).ownsRow bw 58 2 (.slice (some ⟨w0.heap.size,0,none⟩) 1 1) 1 (zbe [(a,t)]) from za0 (zgx (n:=1) (C:=#[.string a,.string t]) (Nat.le_refl _) rfl (by decide)) (by omega))
 have HB9:=Lib.hid (HB.out.alloc (show bw≤w0.heap.size by omega) (.cells #[.string a,.string t] 58))
 clear k0
 go_wp2
 go_ret
 exact ⟨_,_,rfl,Nat.le_refl _,by rw [HBW.out];exact HO.out,by rw [HBW.out];exact HB9.out⟩
theorem rLog_like {h q:HouseV} (hq:h.like q) (by_ tr:ByteArray) (evs:List REv):zf8 q by_ tr evs=zf8 h by_ tr evs:=by
 unfold zf8
 rw [hq.rest.2.2.2.2.2.1]
theorem zjw (W:World) (x:Nat) (h q:HouseV) (hq:h.like q) (hO:HouseOw W x q) (hE:zcg h=(0,0,0)) (hS:HouseS h) (p:Nat) (y:Sw) (hp:h.people[p]?=some y) (hy:1≤y.2) (t:Nat) (tr:ByteArray) (ht:h.plant.trains[t]?=some tr) (evs:List REv) (sF:SesS) (hv:zii h.masts.length none evs=some sF) (hl:evs.length≤60) (m:Nat) (hm:evs.length=m) (A:Option Addr) (c:Nat) (hr:Rd W W.heap.size A (zbe (zf8 h y.1 tr evs))) (hT:CtAt W) :
 Calls Tryz.prog 10 #[.agg (zah q).toArray,.slice A m c,.string tr] W (AskP (MaP h.masts sF) W):=by
 have em:=hq.rest.2.2.2.2.2.1
 have ep:=hq.rest.2.2.2.2.2.2
 have:=MastsOf_R W q (by rw [zji hq];exact hE) (zjx hq hS) p y (by rw [ep];exact hp) hy t tr (by rw [hq.trains];exact ht) evs sF (by rw [em];exact hv) hl m hm A c hO.at (by rw [rLog_like hq];exact hr) hT
 rw [em] at this
 exact this
theorem Accept_Q (W:World) (x:Nat) (h q:HouseV) (hq:h.like q) (hO:HouseOw W x q) (hE:zcg h=(0,0,0)) (hS:HouseS h) (p:Nat) (y:Sw) (hp:h.people[p]?=some y) (hy:1≤y.2) (t:Nat) (tr:ByteArray) (ht:h.plant.trains[t]?=some tr) (evs:List REv) (k m:Nat) (hv:LogR h.masts.length evs k) (hl:evs.length≤50) (hm:m<h.masts.length) (hfar:m≠k+1∧k≠m+1) (n:Nat) (hn:evs.length=n) (A:Option Addr) (c:Nat) (hr:Rd W W.heap.size A (zbe (zf8 h y.1 tr evs))) (hT:CtAt W) :
 Calls Tryz.prog 14 #[.agg (zah q).toArray,.slice A n c,.agg #[.string y.1,.string ((REv.hand m).tx h.masts tr)]] W fun e w'=>e=.returned (.tuple #[.slice none 0 0,.int .i64 13])∧Below W.heap.size W w':=by
 subst hn
 have em:=hq.rest.2.2.2.2.2.1
 have ep:=hq.rest.2.2.2.2.2.2
 have hEq:zcg q=(0,0,0):=by rw [zji hq];exact hE
 have hSq:=zjx hq hS
 refine Accept_no W q A evs.length c (y.1,(REv.hand m).tx h.masts tr) 13 (by decide) (RSt q y.1 tr t evs evs.length) hT (fun W' hW=>open_R W' q hEq hSq p y (by rw [ep];exact hp) hy t tr (by rw [hq.trains];exact ht) evs _ (by rw [em];exact hv.1) (by omega) A c ((hO.at.keep hW).mono hW.size) (by rw [rLog_like hq];exact (hr.keep hW).mono hW.size) (hT.below hW)) (fun V hV=>?_) fun W' x' b V hV hB hTT hx=>?_
 · rw [hV.log,List.take_of_length_le (Nat.le_refl _)]
   unfold zf8
   rw [List.length_map]
   omega
 · have hsa:=hV.at_end (by rw [em];exact hv.1:zii q.masts.length none evs=some (some (k,none)))
   have hVh:=hV.hv
   subst hVh
   rw [← em]
   exact enterFar W' x' b V hB (houseR hEq) hSq hTT hx (by
    rw [hV.log,List.take_of_length_le (Nat.le_refl _)]
    unfold zf8
    rw [List.length_map]
    omega) p y (by rw [ep];exact hp) hy t tr (by rw [hq.trains];exact ht) k m hsa (by rw [em];exact hv.2) (by rw [em];exact hm) hfar
end Go.Proofs.YtoodbfkbbchjiaaGreatDoor
