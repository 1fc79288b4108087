import Derived.Test.YtoodbfkbbchjiaaGreatDoorf3A4
import Derived.Deep.Cut
set_option maxRecDepth 100000
set_option maxHeartbeats 16000000
namespace Go.Proofs.YtoodbfkbbchjiaaGreatDoor
open Go.RowKit
def durB (a:Act):Bool:=zaj a.least 1 100000 && (decide (a.most=-1) || zaj a.most 1 100000) && zaj a.wait 0 100000
def actE (m:Nat) (a:Act):Int:=
 if zaj a.kind 0 4=false then 15 else if evtE m a.src≠0∨evtE m a.dst≠0 then 6 else if a.src=a.dst then 26 else
 if durB a=false then 2 else if a.most≠-1∧a.most<a.least then 9 else if a.kind≠2∧a.wait≠0 then 3 else 0
theorem box6 (w:World) (t:TypeId) (a0 a1 a2 a3 a4 a5:Value) :
 (w.alloc (.cells #[a0,a1,a2,a3,a4,a5] t)).cell? ⟨w.heap.size,0,none⟩=some a0∧(w.alloc (.cells #[a0,a1,a2,a3,a4,a5] t)).cell? ⟨w.heap.size,1,none⟩=some a1 ∧
 (w.alloc (.cells #[a0,a1,a2,a3,a4,a5] t)).cell? ⟨w.heap.size,2,none⟩=some a2∧(w.alloc (.cells #[a0,a1,a2,a3,a4,a5] t)).cell? ⟨w.heap.size,3,none⟩=some a3 ∧
 (w.alloc (.cells #[a0,a1,a2,a3,a4,a5] t)).cell? ⟨w.heap.size,4,none⟩=some a4∧(w.alloc (.cells #[a0,a1,a2,a3,a4,a5] t)).cell? ⟨w.heap.size,5,none⟩=some a5:=by
 have h:=hA1 w (.cells #[a0,a1,a2,a3,a4,a5] t)
 refine ⟨?_,?_,?_,?_,?_,?_⟩ <;> rw [cell_of_row _ _ _ _ _ _ h] <;> rfl
theorem boxv2 (w:World) (t:TypeId) (a0 a1:Value) :
 (w.alloc (.cells #[a0,a1] t)).cell? ⟨w.heap.size,0,none⟩=some a0∧(w.alloc (.cells #[a0,a1] t)).cell? ⟨w.heap.size,1,none⟩=some a1:=by
 have h:=hA1 w (.cells #[a0,a1] t)
 refine ⟨?_,?_⟩ <;> rw [cell_of_row _ _ _ _ _ _ h] <;> rfl
def actV (a:Act):Value:=.agg #[.int .i64 a.kind,.int .i64 a.src,.int .i64 a.dst,.int .i64 a.least,.int .i64 a.most,.int .i64 a.wait]
theorem zgs (w:World) (Ae:Option Addr) (ne ce:Nat) (Aa:Option Addr) (na ca:Nat) (a:Act) (hn:ne≤1000000000) :
 Calls Tryz.prog 113 #[netV Ae ne ce Aa na ca,actV a] w fun e w'=>e=.returned (.int .i64 (actE ne a))∧Below w.heap.size w w':=by
 obtain ⟨k,s,d,l,m,x⟩:=a
 have HV:Hid (actE ne ⟨k,s,d,l,m,x⟩=if zaj k 0 4=false then 15 else if evtE ne s≠0∨evtE ne d≠0 then 6 else if s=d then 26 else
  if durB ⟨k,s,d,l,m,x⟩=false then 2 else if m≠-1∧m<l then 9 else if k≠2∧x≠0 then 3 else 0):=rfl
 have HD:Hid (durB ⟨k,s,d,l,m,x⟩=(zaj l 1 100000 && (decide (m=-1) || zaj m 1 100000) && zaj x 0 100000)):=rfl
 obtain ⟨E,hE⟩:∃ E,actE ne ⟨k,s,d,l,m,x⟩=E:=⟨_,rfl⟩
 rw [hE] at HV
 rw [hE]
 clear hE
 obtain ⟨d0,d1⟩:=boxv2 w 42 (.slice Ae ne ce) (.slice Aa na ca)
 obtain ⟨c0,c1,c2,c3,c4,c5⟩:=box6 (w.alloc (.cells #[.slice Ae ne ce,.slice Aa na ca] 42)) 122 (.int .i64 k) (.int .i64 s) (.int .i64 d) (.int .i64 l) (.int .i64 m) (.int .i64 x)
 have hz:(w.alloc (.cells #[.slice Ae ne ce,.slice Aa na ca] 42)).heap.size=w.heap.size+1:=by simp
 rw [hz] at c0 c1 c2 c3 c4 c5
 clear hz
 have hb1:Below (w.alloc (.cells #[.slice Ae ne ce,.slice Aa na ca] 42)).heap.size (w.alloc (.cells #[.slice Ae ne ce,.slice Aa na ca] 42)) ((w.alloc (.cells #[.slice Ae ne ce,.slice Aa na ca] 42)).alloc (.cells #[.int .i64 k,.int .i64 s,.int .i64 d,.int .i64 l,.int .i64 m,.int .i64 x] 122)):=(Below.refl _ _).alloc (Nat.le_refl _) _
 replace d0:=zat hb1 d0
 replace d1:=zat hb1 d1
 have hb0:=hB2 w (.cells #[.slice Ae ne ce,.slice Aa na ca] 42) (.cells #[.int .i64 k,.int .i64 s,.int .i64 d,.int .i64 l,.int .i64 m,.int .i64 x] 122)
 have hs:=hb0.size
 have HB:=Lib.hid hb0
 clear hb0 hb1
 obtain ⟨bk,hbk⟩:∃ b,zaj k 0 4=b:=⟨_,rfl⟩
 obtain ⟨E1,hE1⟩:∃ b,evtE ne s=b:=⟨_,rfl⟩
 obtain ⟨E2,hE2⟩:∃ b,evtE ne d=b:=⟨_,rfl⟩
 obtain ⟨b1,hb1⟩:∃ b,zaj l 1 100000=b:=⟨_,rfl⟩
 obtain ⟨b2,hb2⟩:∃ b,zaj m 1 100000=b:=⟨_,rfl⟩
 obtain ⟨b3,hb3⟩:∃ b,zaj x 0 100000=b:=⟨_,rfl⟩
 have KW:=fun W=>za1 k 0 4 bk hbk W
 have WW:=fun W=>za1 x 0 100000 b3 hb3 W
 have LE1:=fun W=>zjg l b1 hb1 W
 have LE2:=fun W=>zjg m b2 hb2 W
 have EV1:=fun W=>zig W Ae ne ce Aa na ca s E1 hE1 hn
 have EV2:=fun W=>zig W Ae ne ce Aa na ca d E2 hE2 hn
 rw [hb1,hb2,hb3] at HD
 rw [hbk,hE1,hE2,HD.out] at HV
 clear HD hbk hE1 hE2 hb1 hb2 hb3
 simp only [netV] at EV1 EV2
 unfold netV actV
 go_enter Tryz.func113,Tryz.ntmps113
 go_upto_region 1 with (fail)
 generalize ((w.alloc (.cells #[.slice Ae ne ce,.slice Aa na ca] 42)).alloc (.cells #[.int .i64 k,.int .i64 s,.int .i64 d,.int .i64 l,.int .i64 m,.int .i64 x] 122))=w0 at *
 cases bk with
 | false =>
  rw [if_pos rfl] at HV
  go_wp2_with (first | (go_at_call 9;refine (KW _).mono ?_;rintro e w' ⟨rfl,rfl⟩;clear KW))
  go_ret
  exact ⟨by rw [HV.out];rfl,HB.out⟩
 | true =>
  rw [if_neg (by decide)] at HV
  go_upto_region 3 with (first | (go_at_call 9;refine (KW _).mono ?_;rintro e w' ⟨rfl,rfl⟩;clear KW))
  by_cases e1:E1=0
  · subst e1
    by_cases e2:E2=0
    · subst e2
      rw [if_neg (by decide)] at HV
      go_upto_region 5 with (first | (go_at_call 188;refine (EV1 _).mono ?_;rintro e w' ⟨rfl,hb⟩;replace c0:=zat hb c0;replace c1:=zat hb c1;replace c2:=zat hb c2;replace c3:=zat hb c3;replace c4:=zat hb c4;replace c5:=zat hb c5;replace d0:=zat hb d0;replace d1:=zat hb d1;replace HB:=Lib.hid (HB.out.trans (hb.mono hs));replace hs:=Nat.le_trans hs hb.size;clear hb;clear EV1) | (go_at_call 188;refine (EV2 _).mono ?_;rintro e w' ⟨rfl,hb⟩;replace c0:=zat hb c0;replace c1:=zat hb c1;replace c2:=zat hb c2;replace c3:=zat hb c3;replace c4:=zat hb c4;replace c5:=zat hb c5;replace d0:=zat hb d0;replace d1:=zat hb d1;replace HB:=Lib.hid (HB.out.trans (hb.mono hs));replace hs:=Nat.le_trans hs hb.size;clear hb;clear EV2))
      by_cases e3:s=d
      · subst e3
        rw [if_pos rfl] at HV
        go_wp2
        go_ret
        exact ⟨by rw [HV.out];rfl,HB.out⟩
      · rw [if_neg e3] at HV
        go_upto_region 7 with (fail)
        clear e3
        cases b1 with
        | false =>
         rw [if_pos (by rfl)] at HV
         go_wp2_with (first | (go_at_call 189;refine (LE1 _).mono ?_;rintro e w' ⟨rfl,rfl⟩;clear LE1))
         go_ret
         exact ⟨by rw [HV.out];rfl,HB.out⟩
        | true =>
         by_cases e4:m=-1
         · subst e4
           cases b3 with
           | false =>
            rw [if_pos (by cases b2 <;> rfl)] at HV
            go_wp2_with (first | (go_at_call 189;refine (LE1 _).mono ?_;rintro e w' ⟨rfl,rfl⟩;clear LE1) | (go_at_call 9;refine (WW _).mono ?_;rintro e w' ⟨rfl,rfl⟩;clear WW))
            go_ret
            exact ⟨by rw [HV.out];rfl,HB.out⟩
           | true =>
            rw [if_neg (by cases b2 <;> decide),if_neg (fun h=>h.1 rfl)] at HV
            go_upto_region 11 with (first | (go_at_call 189;refine (LE1 _).mono ?_;rintro e w' ⟨rfl,rfl⟩;clear LE1) | (go_at_call 9;refine (WW _).mono ?_;rintro e w' ⟨rfl,rfl⟩;clear WW))
            by_cases e6:k=2
            · subst e6
              rw [if_neg (fun h=>h.1 rfl)] at HV
              go_wp2
              go_ret
              exact ⟨by rw [HV.out];rfl,HB.out⟩
            · by_cases e7:x=0
              · subst e7
                rw [if_neg (by omega)] at HV
                go_wp2
                go_ret
                exact ⟨by rw [HV.out];rfl,HB.out⟩
              · rw [if_pos ⟨e6,e7⟩] at HV
                have f6:(k != 2)=true:=bne_iff_ne.2 e6
                have f7:(x != 0)=true:=bne_iff_ne.2 e7
                go_wp2
                go_ret
                exact ⟨by rw [HV.out];rfl,HB.out⟩
         · have f4:(m != -1)=true:=bne_iff_ne.2 e4
           cases b2 with
           | false =>
            rw [if_pos (by rw [decide_eq_false e4];rfl)] at HV
            go_wp2_with (first | (go_at_call 189;refine (LE1 _).mono ?_;rintro e w' ⟨rfl,rfl⟩;clear LE1) | (go_at_call 189;refine (LE2 _).mono ?_;rintro e w' ⟨rfl,rfl⟩;clear LE2))
            go_ret
            exact ⟨by rw [HV.out];rfl,HB.out⟩
           | true =>
            cases b3 with
            | false =>
             rw [if_pos (by cases decide (m=-1) <;> rfl)] at HV
             go_wp2_with (first | (go_at_call 189;refine (LE1 _).mono ?_;rintro e w' ⟨rfl,rfl⟩;clear LE1) | (go_at_call 189;refine (LE2 _).mono ?_;rintro e w' ⟨rfl,rfl⟩;clear LE2) | (go_at_call 9;refine (WW _).mono ?_;rintro e w' ⟨rfl,rfl⟩;clear WW))
             go_ret
             exact ⟨by rw [HV.out];rfl,HB.out⟩
            | true =>
             rw [if_neg (by cases decide (m=-1) <;> decide)] at HV
             go_upto_region 9 with (first | (go_at_call 189;refine (LE1 _).mono ?_;rintro e w' ⟨rfl,rfl⟩;clear LE1) | (go_at_call 189;refine (LE2 _).mono ?_;rintro e w' ⟨rfl,rfl⟩;clear LE2) | (go_at_call 9;refine (WW _).mono ?_;rintro e w' ⟨rfl,rfl⟩;clear WW))
             by_cases e5:m<l
             · rw [if_pos ⟨e4,e5⟩] at HV
               go_wp2
               go_ret
               exact ⟨by rw [HV.out];rfl,HB.out⟩
             · rw [if_neg (fun h=>e5 h.2)] at HV
               go_upto_region 11 with (fail)
               clear e4 e5
               by_cases e6:k=2
               · subst e6
                 rw [if_neg (fun h=>h.1 rfl)] at HV
                 go_wp2
                 go_ret
                 exact ⟨by rw [HV.out];rfl,HB.out⟩
               · by_cases e7:x=0
                 · subst e7
                   rw [if_neg (by omega)] at HV
                   go_wp2
                   go_ret
                   exact ⟨by rw [HV.out];rfl,HB.out⟩
                 · rw [if_pos ⟨e6,e7⟩] at HV
                   have f6:(k != 2)=true:=bne_iff_ne.2 e6
                   have f7:(x != 0)=true:=bne_iff_ne.2 e7
                   go_wp2
                   go_ret
                   exact ⟨by rw [HV.out];rfl,HB.out⟩
    · rw [if_pos (.inr e2)] at HV
      have e9:(E2 != 0)=true:=bne_iff_ne.2 e2
      go_wp2_with (first | (go_at_call 188;refine (EV1 _).mono ?_;rintro e w' ⟨rfl,hb⟩;replace c0:=zat hb c0;replace c1:=zat hb c1;replace c2:=zat hb c2;replace c3:=zat hb c3;replace c4:=zat hb c4;replace c5:=zat hb c5;replace d0:=zat hb d0;replace d1:=zat hb d1;replace HB:=Lib.hid (HB.out.trans (hb.mono hs));replace hs:=Nat.le_trans hs hb.size;clear hb;clear EV1) | (go_at_call 188;refine (EV2 _).mono ?_;rintro e w' ⟨rfl,hb⟩;replace c0:=zat hb c0;replace c1:=zat hb c1;replace c2:=zat hb c2;replace c3:=zat hb c3;replace c4:=zat hb c4;replace c5:=zat hb c5;replace d0:=zat hb d0;replace d1:=zat hb d1;replace HB:=Lib.hid (HB.out.trans (hb.mono hs));replace hs:=Nat.le_trans hs hb.size;clear hb;clear EV2))
      go_ret
      exact ⟨by rw [HV.out];rfl,HB.out⟩
  · rw [if_pos (.inl e1)] at HV
    have e9:(E1 != 0)=true:=bne_iff_ne.2 e1
    go_wp2_with (first | (go_at_call 188;refine (EV1 _).mono ?_;rintro e w' ⟨rfl,hb⟩;replace c0:=zat hb c0;replace c1:=zat hb c1;replace c2:=zat hb c2;replace c3:=zat hb c3;replace c4:=zat hb c4;replace c5:=zat hb c5;replace d0:=zat hb d0;replace d1:=zat hb d1;replace HB:=Lib.hid (HB.out.trans (hb.mono hs));replace hs:=Nat.le_trans hs hb.size;clear hb;clear EV1))
    go_ret
    exact ⟨by rw [HV.out];rfl,HB.out⟩
def evGo:List ByteArray→List ByteArray→Int
 | _,[]=>0
 | pre,s :: l=>if za3 s=false then 4 else if zcu pre s=true then 5 else evGo (pre++[s]) l
def zjt (m:Nat):List Act→Int
 | []=>0
 | a :: l=>if actE m a=0 then zjt m l else actE m a
def netE (evs:List ByteArray) (acts:List Act):Int:=
 if evs.length=0 then 10 else if 16<evs.length then 8 else if evGo [] evs≠0 then evGo [] evs else if 30<acts.length then 8 else zjt evs.length acts
theorem zbv (s:ByteArray) (b:Bool) (hb:za3 s=b) (hs9:s.size≤1000000000) (w:World):Calls Tryz.prog 73 #[.string s] w fun e w'=>e=.returned (.bool b)∧w=w':=by
 rw [← hb]
 exact zlr s hs9 w
theorem zjy (A:Option Addr) (n c B:Nat) (l:List ByteArray) (s:ByteArray) (b:Bool) (hb:zcu l s=b) (w:World) (hn:n≤1000000000) (hl:l.length=n) (h:Rd w B A (strCells l)) :
 Calls Tryz.prog 74 #[.slice A n c,.string s] w fun e w'=>e=.returned (.bool b)∧w=w':=by
 rw [← hb]
 exact HasText_any A n c B l s w hn hl h
structure NetAt (w:World) (B:Nat) (Ae Aa:Option Addr) (ne ce na:Nat) (evs:List ByteArray) (acts:List Act):Prop where
 le:evs.length=ne
 la:acts.length=na
 re:Rd w B Ae (strCells evs)
 ra:Rd w B Aa (zb4 acts)
 hz:∀ s∈evs,s.size≤20
 hc:ne≤ce
theorem NetAt.below {w w':World} {B:Nat} {Ae Aa:Option Addr} {ne ce na:Nat} {evs:List ByteArray} {acts:List Act} (h:NetAt w B Ae Aa ne ce na evs acts) (hb:Below B w w'):NetAt w' B Ae Aa ne ce na evs acts:=
 ⟨h.le,h.la,h.re.below hb,h.ra.below hb,h.hz,h.hc⟩
theorem NetAt.mono {w:World} {B B':Nat} {Ae Aa:Option Addr} {ne ce na:Nat} {evs:List ByteArray} {acts:List Act} (h:NetAt w B Ae Aa ne ce na evs acts) (hB:B≤B'):NetAt w B' Ae Aa ne ce na evs acts:=
 ⟨h.le,h.la,h.re.mono hB,h.ra.mono hB,h.hz,h.hc⟩
theorem cells2 {W:World} {r t:Nat} {a0 a1:Value} (h:W.heap[r]?=some (.cells #[a0,a1] t (0,0))):W.cell? ⟨r,0,none⟩=some a0∧W.cell? ⟨r,1,none⟩=some a1:=by
 refine ⟨?_,?_⟩ <;> rw [cell_of_row _ _ _ _ _ _ h] <;> rfl
theorem zbu {W:World} {r t:Nat} {a0 a1:Value} (h:W.heap[r]?=some (.cells #[a0,a1] t (0,0))) :
 W.cell? ⟨r,0,none⟩=some a0∧W.cell? ⟨r,1,none⟩=some a1∧W.frozen? ⟨r,0,none⟩=false∧W.frozen? ⟨r,1,none⟩=false:=by
 refine ⟨?_,?_,frozen_of_row _ _ _ _ _ h,frozen_of_row _ _ _ _ _ h⟩ <;> rw [cell_of_row _ _ _ _ _ _ h] <;> rfl
theorem zal {W:World} {B y:Nat} (a0 a1:Value) (h:B≤y):Below B W ((W.setCell ⟨y,0,none⟩ a0).setCell ⟨y,1,none⟩ a1):=
 ((Below.refl B W).setCell (p:=⟨y,0,none⟩) h _).setCell (p:=⟨y,1,none⟩) h _
theorem blk {W W':World} {b:Nat} {o:Obj} (hb:Below W.heap.size W W') (h:W.heap[b]?=some o):W'.heap[b]?=some o:=
 (hb.block b (Array.getElem?_eq_some_iff.1 h).1).trans h
def zce (w:World) (E:Int) (e:Ending) (w':World):Prop:=∃ a b,e=.returned (.tuple #[.agg #[.int .i64 a,.int .i64 b],.int .i64 E])∧Below w.heap.size w w'
def CnRel (w0:World) (evs:List ByteArray) (n:Nat) (V:Int) (u:Value) (wr:World):Prop:=∃ k:Nat,k≤n∧u=.int .i64 k∧evGo (evs.take k) (evs.drop k)=V∧Below w0.heap.size w0 wr
def CaRel (w0:World) (acts:List Act) (m n:Nat) (V:Int) (u:Value) (wr:World):Prop:=∃ k:Nat,k≤n∧u=.int .i64 k∧zjt m (acts.drop k)=V∧Below w0.heap.size w0 wr
theorem zi0 (w:World) (B:Nat) (Ae Aa:Option Addr) (ne ce na ca:Nat) (evs:List ByteArray) (acts:List Act) (h:NetAt w B Ae Aa ne ce na evs acts) (hB:B≤w.heap.size) (hn:ne≤1000000000) (hna:na≤1000000000) :
 Calls Tryz.prog 72 #[netV Ae ne ce Aa na ca] w (zce w (netE evs acts)):=by
 unfold netV
 have HE:Hid (evs.length=ne):=h.le
 have HA:Hid (acts.length=na):=h.la
 have k0:(((w.alloc (.cells #[.slice Ae ne ce,.slice Aa na ca] 42)).alloc (.cells #[.int .i64 0,.int .i64 0] 188)).alloc (.cells #[.int .i64 0,.int .i64 0] 188)).heap[w.heap.size]?=some (.cells #[.slice Ae ne ce,.slice Aa na ca] 42 (0,0)):=by
  rw [zae,if_neg (by simp;omega),zae,if_neg (by simp),zae,if_pos rfl]
 have k1:(((w.alloc (.cells #[.slice Ae ne ce,.slice Aa na ca] 42)).alloc (.cells #[.int .i64 0,.int .i64 0] 188)).alloc (.cells #[.int .i64 0,.int .i64 0] 188)).heap[w.heap.size+1]?=some (.cells #[.int .i64 0,.int .i64 0] 188 (0,0)):=by
  rw [zae,if_neg (by simp),zae,if_pos (by simp)]
 have k2:(((w.alloc (.cells #[.slice Ae ne ce,.slice Aa na ca] 42)).alloc (.cells #[.int .i64 0,.int .i64 0] 188)).alloc (.cells #[.int .i64 0,.int .i64 0] 188)).heap[w.heap.size+1+1]?=some (.cells #[.int .i64 0,.int .i64 0] 188 (0,0)):=by
  rw [zae,if_pos (by simp)]
 have hb0:Below w.heap.size w (((w.alloc (.cells #[.slice Ae ne ce,.slice Aa na ca] 42)).alloc (.cells #[.int .i64 0,.int .i64 0] 188)).alloc (.cells #[.int .i64 0,.int .i64 0] 188)):=(((Below.refl _ _).alloc (Nat.le_refl _) _).alloc (by simp) _).alloc (by simp;omega) _
 have hN:=h.below (hb0.mono hB)
 have hB0:=Nat.le_trans hB hb0.size
 have hs:=hb0.size
 have HB:=Lib.hid hb0
 obtain ⟨V,hV⟩:∃ V,netE evs acts=V:=⟨_,rfl⟩
 rw [hV]
 have HV:=Lib.hid hV
 clear hb0 h hV
 go_enter Tryz.func72,Tryz.ntmps72
 go_upto_region 2 with (fail)
 generalize (((w.alloc (.cells #[.slice Ae ne ce,.slice Aa na ca] 42)).alloc (.cells #[.int .i64 0,.int .i64 0] 188)).alloc (.cells #[.int .i64 0,.int .i64 0] 188))=w0 at *
 obtain ⟨d0,d1⟩:=cells2 k0
 obtain ⟨r0,r1,q0,q1⟩:=zbu k1
 obtain ⟨n0,n1⟩:=cells2 k2
 by_cases h1:ne=0
 · subst h1
   go_wp2
   refine bodyPost_ret (v:=.tuple #[.agg #[.int .i64 0,.int .i64 0],.int .i64 10]) (by simp [results,Tryz.results72,go_sem,r0,r1]) rfl ⟨0,0,?_,?_⟩
   · rw [show V=10 by rw [← HV.out,netE,if_pos HE.out]]
   · exact HB.out.trans (zal _ _ (Nat.le_succ _))
 have g1:((ne:Int) == 0)=false:=beq_eq_false_iff_ne.2 (by omega)
 by_cases h2:16<ne
 · have g2:(16:Int)<(ne:Int):=by omega
   go_wp2
   refine bodyPost_ret (v:=.tuple #[.agg #[.int .i64 0,.int .i64 0],.int .i64 8]) (by simp [results,Tryz.results72,go_sem,r0,r1]) rfl ⟨0,0,?_,?_⟩
   · rw [show V=8 by rw [← HV.out,netE,if_neg (by rw [HE.out];exact h1),if_pos (by rw [HE.out];exact h2)]]
   · exact HB.out.trans (zal _ _ (Nat.le_succ _))
 have g2:¬(16:Int)<(ne:Int):=by omega
 obtain ⟨EV,hEV⟩:∃ EV,evGo [] evs=EV:=⟨_,rfl⟩
 have HEV:=Lib.hid hEV
 have HV1:Hid (V=if EV≠0 then EV else if 30<acts.length then 8 else zjt evs.length acts):=by
  rw [Hid,← HV.out,netE,if_neg (by rw [HE.out];exact h1),if_neg (by rw [HE.out];exact h2),hEV]
 clear HV hEV
 go_wp2
 go_loopw [5] (fun u wr=>CnRel w0 evs ne EV u wr) (fun u _=>ne - (intOf u).toNat)
 case atStart=>exact ⟨0,Nat.zero_le _,rfl,by rw [List.take_zero,List.drop_zero];exact HEV.out,Below.refl _ _⟩
 case round =>
  clear HEV
  obtain ⟨k,hk,rfl,hgo,hb⟩:=hrel
  have HGO:=Lib.hid hgo
  have HBW:=Lib.hid (HB.out.trans (hb.mono hs))
  have HB0:=Lib.hid hb
  have hsz:=hb.size
  replace d0:=zat hb d0
  replace d1:=zat hb d1
  replace r0:=zat hb r0
  replace r1:=zat hb r1
  replace n0:=zat hb n0
  replace n1:=zat hb n1
  replace k1:=blk hb k1
  replace q0:=(zbu k1).2.2.1
  replace q1:=(zbu k1).2.2.2
  have hN1:=hN.below (hb.mono hB0)
  clear hgo hb
  by_cases hlt:k<ne
  · have hkl:k<evs.length:=by rw [HE.out];exact hlt
    obtain ⟨x,hx⟩:∃ x,evs[k]?=some x:=⟨_,List.getElem?_eq_getElem hkl⟩
    obtain ⟨b,off,hAe,_,hc⟩:=hN1.re.at_ (k:=k) (u:=.string x) (by simp [strCells,hx])
    have hz:x.size≤1000000000:=by
     have:=hN.hz x (List.mem_of_getElem? hx)
     omega
    have hRt:Rd wr B Ae (strCells (evs.take k)):=fun j u hu=>hN1.re j u (by
     unfold strCells at hu ⊢
     rw [List.getElem?_map] at hu ⊢
     rw [List.getElem?_take] at hu
     split at hu
     · exact hu
     · simp at hu)
    have HD:=Lib.hid (za9 hx)
    have HT:Hid (evs.take k++[x]=evs.take (k+1)):=by
     rw [Hid,List.take_add_one,hx]
     rfl
    have htl:(evs.take k).length=k:=by rw [List.length_take];omega
    have HTL:=Lib.hid htl
    subst hAe
    clear hx hkl htl
    obtain ⟨bn,hbn⟩:∃ b,za3 x=b:=⟨_,rfl⟩
    have NM:=fun W=>zbv x bn hbn hz W
    have HBN:=Lib.hid hbn
    clear hbn
    cases bn with
    | false =>
     have HF:Hid (EV=4):=by rw [Hid,← HGO.out,HD.out,evGo,if_pos HBN.out]
     clear HGO
     go_wp2_with (go_at_call 73;refine (NM _).mono ?_;rintro e w' ⟨rfl,rfl⟩)
     refine bodyPost_ret (v:=.tuple #[.agg #[.int .i64 1,.int .i64 k],.int .i64 4]) (by simp [results,Tryz.results72,go_sem,r0,r1]) rfl ⟨1,k,?_,?_⟩
     · rw [show V=4 by rw [HV1.out,HF.out];rfl]
     · exact HBW.out.trans (zal _ _ (Nat.le_succ _))
    | true =>
     obtain ⟨bt,hbt⟩:∃ b,zcu (evs.take k) x=b:=⟨_,rfl⟩
     have HBT:=Lib.hid hbt
     have TX:=fun (y:Xt wr) (c:Nat)=>zjy (some ⟨b,off,none⟩) k c B (evs.take k) x bt hbt y.1 (by omega) HTL.out (hRt.below (y.2.mono (by omega)))
     have hkc:k≤ce:=Nat.le_trans hk hN1.hc
     have x0:=fun y:Xt wr=>y.cell d0
     have x1:=fun y:Xt wr=>y.cell d1
     have x2:=fun y:Xt wr=>y.cell hc
     clear hbt
     go_upto_region 11 with (go_at_call 73;refine (NM _).mono ?_;rintro e w' ⟨rfl,rfl⟩)
     refine za5 (by kernel_rfl) (by kernel_rfl) ?_
     repeat (go_big_quiet_step (first | (go_at_call 74;exact Xt.calls_same (TX _ _))))
     refine wpQuiet_nil ?_
     intro w1 hx
     have hb1:=Xt.below hx
     clear hx x0 x1 x2 TX NM
     replace r0:=zat hb1 r0
     replace r1:=zat hb1 r1
     replace k1:=blk hb1 k1
     replace q0:=(zbu k1).2.2.1
     replace q1:=(zbu k1).2.2.2
     have hsz2:=Nat.le_trans hs hsz
     replace HBW:=Lib.hid (HBW.out.trans (hb1.mono hsz2))
     replace HB0:=Lib.hid (HB0.out.trans (hb1.mono hsz))
     clear hb1
     cases bt with
     | true =>
      have HF:Hid (EV=5):=by rw [Hid,← HGO.out,HD.out,evGo,if_neg (by rw [HBN.out];decide),if_pos HBT.out]
      clear HGO
      go_wp2
      refine bodyPost_ret (v:=.tuple #[.agg #[.int .i64 1,.int .i64 k],.int .i64 5]) (by simp [results,Tryz.results72,go_sem,r0,r1]) rfl ⟨1,k,?_,?_⟩
      · rw [show V=5 by rw [HV1.out,HF.out];rfl]
      · exact HBW.out.trans (zal _ _ (Nat.le_succ _))
     | false =>
      have HF:Hid (evGo (evs.take (k+1)) (evs.drop (k+1))=EV):=by
       rw [Hid,← HGO.out,HD.out,evGo,if_neg (by rw [HBN.out];decide),if_neg (by rw [HBT.out];decide),HT.out]
      clear HGO
      go_wp2
      go_roundw
      case rel=>exact ⟨k+1,by omega,by go_num,HF.out,HB0.out⟩
      case measure=>simp [intOf];omega
  · have hV0:EV=0:=by
     rw [← HGO.out,List.drop_eq_nil_iff.2 (by rw [HE.out];omega)]
     rfl
    have HV2:Hid (V=if 30<na then 8 else zjt ne acts):=by
     rw [Hid,HV1.out,if_neg (fun h=>h hV0),HA.out,HE.out]
    clear HGO HV1 hV0 HB0 hN
    by_cases h3:30<na
    · have g3:(30:Int)<(na:Int):=by omega
      go_wp2
      refine bodyPost_ret (v:=.tuple #[.agg #[.int .i64 0,.int .i64 0],.int .i64 8]) (by simp [results,Tryz.results72,go_sem,r0,r1]) rfl ⟨0,0,?_,?_⟩
      · rw [show V=8 by rw [HV2.out,if_pos h3]]
      · exact HBW.out.trans (zal _ _ (Nat.le_succ _))
    · have g3:¬(30:Int)<(na:Int):=by omega
      have HV3:Hid (zjt ne acts=V):=by rw [Hid,HV2.out,if_neg h3]
      have hs9:=Nat.le_trans hs hsz
      have hB9:=Nat.le_trans hB0 hsz
      clear HV2
      go_wp2
      go_loopw [6] (fun u wr2=>CaRel wr acts ne na V u wr2) (fun u _=>na - (intOf u).toNat)
      case atStart=>exact ⟨0,Nat.zero_le _,rfl,by rw [List.drop_zero];exact HV3.out,Below.refl _ _⟩
      case round =>
       clear HV3
       obtain ⟨j,hj,rfl,hgo,hb⟩:=hrel
       have HGO:=Lib.hid hgo
       replace HBW:=Lib.hid (HBW.out.trans (hb.mono hs9))
       have HB0:=Lib.hid hb
       have hsz3:=hb.size
       replace d0:=zat hb d0
       replace d1:=zat hb d1
       replace r0:=zat hb r0
       replace r1:=zat hb r1
       replace n0:=zat hb n0
       replace n1:=zat hb n1
       replace k1:=blk hb k1
       replace q0:=(zbu k1).2.2.1
       replace q1:=(zbu k1).2.2.2
       replace hN1:=hN1.below (hb.mono hB9)
       clear hgo hb
       by_cases hlt2:j<na
       · have hjl:j<acts.length:=by rw [HA.out];exact hlt2
         obtain ⟨y,hy⟩:∃ y,acts[j]?=some y:=⟨_,List.getElem?_eq_getElem hjl⟩
         obtain ⟨b,off,hAa,_,c0,c1,c2,c3,c4,c5⟩:=hN1.ra.act hy
         have HD:=Lib.hid (za9 hy)
         subst hAa
         obtain ⟨y0,y1,y2,y3,y4,y5⟩:=y
         simp only at c0 c1 c2 c3 c4 c5
         obtain ⟨AE,hAE⟩:∃ e,actE ne ⟨y0,y1,y2,y3,y4,y5⟩=e:=⟨_,rfl⟩
         have HAE:=Lib.hid hAE
         have TA:=fun W=>zgs W Ae ne ce (some ⟨b,off,none⟩) na ca ⟨y0,y1,y2,y3,y4,y5⟩ hn
         rw [hAE] at TA
         simp only [netV,actV] at TA
         have x0:=fun q:Xt wr=>q.cell d0
         have x1:=fun q:Xt wr=>q.cell d1
         have x2:=fun q:Xt wr=>q.cell c0
         have x3:=fun q:Xt wr=>q.cell c1
         have x4:=fun q:Xt wr=>q.cell c2
         have x5:=fun q:Xt wr=>q.cell c3
         have x6:=fun q:Xt wr=>q.cell c4
         have x7:=fun q:Xt wr=>q.cell c5
         clear hAE hy hjl
         go_upto_region 18 with (fail)
         refine za5 (by kernel_rfl) (by kernel_rfl) ?_
         repeat (go_big_quiet_step (first | (go_at_call 113;exact Xt.calls (TA _))))
         refine wpQuiet_nil ?_
         intro w1 hx
         have hb1:=Xt.below hx
         clear hx x0 x1 x2 x3 x4 x5 x6 x7 TA c0 c1 c2 c3 c4 c5
         replace r0:=zat hb1 r0
         replace r1:=zat hb1 r1
         replace k1:=blk hb1 k1
         replace q0:=(zbu k1).2.2.1
         replace q1:=(zbu k1).2.2.2
         replace HBW:=Lib.hid (HBW.out.trans (hb1.mono (Nat.le_trans hs9 hsz3)))
         replace HB0:=Lib.hid (HB0.out.trans (hb1.mono hsz3))
         clear hb1
         by_cases hA0:AE=0
         · subst hA0
           have HF:Hid (zjt ne (acts.drop (j+1))=V):=by
            rw [Hid,← HGO.out,HD.out,zjt,if_pos HAE.out]
           clear HGO
           go_wp2
           go_roundw
           case rel=>exact ⟨j+1,by omega,by go_num,HF.out,HB0.out⟩
           case measure=>simp [intOf];omega
         · have HF:Hid (AE=V):=by
            rw [Hid,← HGO.out,HD.out,zjt,HAE.out,if_neg hA0]
           have g9:(AE != 0)=true:=bne_iff_ne.2 hA0
           clear HGO
           go_wp2
           refine bodyPost_ret (v:=.tuple #[.agg #[.int .i64 2,.int .i64 j],.int .i64 AE]) (by simp [results,Tryz.results72,go_sem,r0,r1]) rfl ⟨2,j,?_,?_⟩
           · rw [HF.out]
           · exact HBW.out.trans (zal _ _ (Nat.le_succ _))
       · have hV0:V=0:=by
          rw [← HGO.out,List.drop_eq_nil_iff.2 (by rw [HA.out];omega)]
          rfl
         have HV0:=Lib.hid hV0
         clear hV0 HGO
         go_wp2
         refine bodyPost_ret (v:=.tuple #[.agg #[.int .i64 0,.int .i64 0],.int .i64 0]) (by simp [results,Tryz.results72,go_sem,r0,r1]) rfl ⟨0,0,?_,?_⟩
         · rw [HV0.out]
         · exact HBW.out.trans (zal _ _ (Nat.le_succ _))
structure Pc where
 len:Int
 grad:Int
 lim:Int
 leave:Bool
structure Sy where
 brake:Int
 drag:Int
 drive:Int
def zeo (p:Pc):List Value:=[.int .i64 p.len,.int .i64 p.grad,.int .i64 p.lim,.bool p.leave]
def zcj (l:List Pc):List Value:=l.flatMap zeo
def zea (nm:ByteArray) (Ap:Option Addr) (np cp:Nat):Value:=.agg #[.string nm,.slice Ap np cp]
def syV (s:Sy):Value:=.agg #[.int .i64 s.brake,.int .i64 s.drag,.int .i64 s.drive]
theorem pcCells_len (l:List Pc):(zcj l).length=l.length * 4:=by
 induction l with
 | nil=>rfl
 | cons x l ih =>
  rw [zcj,List.flatMap_cons,List.length_append]
  have:(l.flatMap zeo).length=l.length * 4:=ih
  rw [this]
  simp [zeo]
  omega
theorem zkm:∀ (l:List Pc) (k:Nat) (x:Pc),l[k]?=some x→∀ j u,(zeo x)[j]?=some u→(zcj l)[k * 4+j]?=some u
 | [],_,_,h,_,_,_=>by simp at h
 | y :: l,0,x,h,j,u,hu=>by
  simp at h
  subst h
  have hj:j<(zeo y).length:=(List.getElem?_eq_some_iff.1 hu).1
  rw [zcj,List.flatMap_cons,Nat.zero_mul,Nat.zero_add,List.getElem?_append_left hj]
  exact hu
 | y :: l,k+1,x,h,j,u,hu=>by
  have h':l[k]?=some x:=by simpa using h
  rw [zcj,List.flatMap_cons,List.getElem?_append_right (by simp [zeo];omega)]
  have e:(k+1) * 4+j - (zeo y).length=k * 4+j:=by simp [zeo];omega
  rw [e]
  exact zkm l k x h' j u hu
theorem Rd.pc {w:World} {B:Nat} {A:Option Addr} {l:List Pc} (h:Rd w B A (zcj l)) {k:Nat} {x:Pc} (hk:l[k]?=some x) :
 ∃ b off,A=some ⟨b,off,none⟩∧b<B∧w.cell? ⟨b,off+k * 4,none⟩=some (.int .i64 x.len)∧w.cell? ⟨b,off+k * 4+1,none⟩=some (.int .i64 x.grad)∧w.cell? ⟨b,off+k * 4+2,none⟩=some (.int .i64 x.lim) ∧
  w.cell? ⟨b,off+k * 4+3,none⟩=some (.bool x.leave):=by
 have hat:=zkm l k x hk
 obtain ⟨b,off,rfl,hb,c0⟩:=h (k * 4+0) _ (hat 0 _ rfl)
 have go:∀ j u,(zeo x)[j]?=some u→w.cell? ⟨b,off+(k * 4+j),none⟩=some u:=fun j u hu=>by
  obtain ⟨b',off',e,_,c⟩:=h (k * 4+j) u (hat j u hu)
  cases e
  exact c
 exact ⟨b,off,rfl,hb,by simpa using c0,go 1 _ rfl,go 2 _ rfl,go 3 _ rfl⟩
end Go.Proofs.YtoodbfkbbchjiaaGreatDoor
namespace Go.Proofs.YtoodbfkbbchjiaaGreatDoor
def za2 {α:Type} (f:List α→α→Int):List α→List α→Int
 | _,[]=>0
 | pre,x :: l=>if f pre x=0 then za2 f (pre++[x]) l else f pre x
def zfc {α:Type} (f:List α→α→Int):Nat→List α→List α→Int × Int
 | _,_,[]=>(0,0)
 | k,pre,x :: l=>if f pre x=0 then zfc f (k+1) (pre++[x]) l else ((k:Int),f pre x)
theorem zc1 {α:Type} {f:List α→α→Int} {l:List α} {k:Nat} {x:α} {V:Int} (hk:l[k]?=some x) (h:za2 f (l.take k) (l.drop k)=V) (h0:f (l.take k) x=0):za2 f (l.take (k+1)) (l.drop (k+1))=V:=by
 rw [za9 hk,za2,if_pos h0] at h
 rw [List.take_add_one,hk]
 exact h
theorem zb3 {α:Type} {f:List α→α→Int} {l:List α} {k:Nat} {x:α} {V:Int} (hk:l[k]?=some x) (h:za2 f (l.take k) (l.drop k)=V) (h0:f (l.take k) x≠0):f (l.take k) x=V:=by
 rw [za9 hk,za2,if_neg h0] at h
 exact h
theorem zb9 {α:Type} {f:List α→α→Int} {l:List α} {k:Nat} {V:Int} (hk:l.length≤k) (h:za2 f (l.take k) (l.drop k)=V):V=0:=by
 rw [List.drop_eq_nil_iff.2 hk,za2] at h
 exact h.symm
theorem zl7 {α:Type} {f:List α→α→Int} {l:List α} {k:Nat} {x:α} {V:Int × Int} (hk:l[k]?=some x) (h:zfc f k (l.take k) (l.drop k)=V) (h0:f (l.take k) x=0):zfc f (k+1) (l.take (k+1)) (l.drop (k+1))=V:=by
 rw [za9 hk,zfc,if_pos h0] at h
 rw [List.take_add_one,hk]
 exact h
theorem zgm {α:Type} {f:List α→α→Int} {l:List α} {k:Nat} {x:α} {V:Int × Int} (hk:l[k]?=some x) (h:zfc f k (l.take k) (l.drop k)=V) (h0:f (l.take k) x≠0):((k:Int),f (l.take k) x)=V:=by
 rw [za9 hk,zfc,if_neg h0] at h
 exact h
theorem ziq {α:Type} {f:List α→α→Int} {l:List α} {k:Nat} {V:Int × Int} (hk:l.length≤k) (h:zfc f k (l.take k) (l.drop k)=V):V=(0,0):=by
 rw [List.drop_eq_nil_iff.2 hk,zfc] at h
 exact h.symm
def nmE (pre:List ByteArray) (s:ByteArray):Int:=zam [zag (za3 s) 4,zag (!zcu pre s) 5]
theorem evGo_chk:∀ (l pre:List ByteArray),evGo pre l=za2 nmE pre l
 | [],_=>rfl
 | s :: l,pre=>by
  rw [evGo,za2,← evGo_chk l]
  unfold nmE
  cases za3 s <;> cases zcu pre s <;> simp [zam,zag]
def ze1 (l:List Int) (n:Int):Bool:=l.any fun a=>a == n
structure SlV where
 A:Option Addr
 n:Nat
 c:Nat
def SlV.v (s:SlV):Value:=.slice s.A s.n s.c
abbrev Sw:=ByteArray × Int
structure RtV where
 nm:ByteArray
 s:SlV
 secs:List Int
 d:SlV
 needs:List Int
def swE (m:Nat) (pre:List Sw) (x:Sw):Int:=zam [zag (za3 x.1) 4,zag (!zcu (pre.map (·.1)) x.1) 5,zag (zaj x.2 0 ((m:Int) - 1)) 6,zag (!ze1 (pre.map (·.2)) x.2) 26]
def scE (m:Nat) (pre:List Int) (s:Int):Int:=zam [zag (zaj s 0 ((m:Int) - 1)) 6,zag (!ze1 pre s) 26]
def ndB (secs:List Int):List Sw→List Int→Bool
 | _,[]=>true
 | [],_ :: _=>true
 | w :: ws,x :: xs=>(if ze1 secs w.2=true then decide (x=0) || decide (x=1) else decide (x=-1)) && ndB secs ws xs
def rtE1 (m:Nat) (sws:List Sw) (r:RtV):Int:=
 if r.secs.length<2 then 10 else if m<r.secs.length then 8 else if za2 (scE m) [] r.secs≠0 then za2 (scE m) [] r.secs else if r.needs.length≠sws.length then 10 else if ndB r.secs sws r.needs=true then 0 else 2
def rtE (m:Nat) (sws:List Sw) (pre:List RtV) (r:RtV):Int:=zam [zag (za3 r.nm) 4,zag (!zcu (pre.map (·.nm)) r.nm) 5,rtE1 m sws r]
structure PlantV where
 ss:SlV
 secs:List ByteArray
 ts:SlV
 trains:List ByteArray
 ws:SlV
 sws:List Sw
 rs:SlV
 rts:List RtV
def zbr (n1 n2 n3 n4:Nat):Int:=zam [zag (decide (0<n1) && decide (0<n2)) 10,zag (!(decide (8<(n1:Int)) || decide (3<(n2:Int)) || decide (4<(n3:Int)) || decide (10<(n4:Int)))) 8]
def zb7 (p:PlantV):Int:=
 if zbr p.secs.length p.trains.length p.sws.length p.rts.length=0 then zam [za2 nmE [] p.secs,za2 nmE [] p.trains,za2 (swE p.secs.length) [] p.sws,za2 (rtE p.secs.length p.sws) [] p.rts]
 else zbr p.secs.length p.trains.length p.sws.length p.rts.length
theorem zgd {n1 n2 n3 n4:Nat} (h:zbr n1 n2 n3 n4=0):0<n1∧0<n2∧n1≤8∧n2≤3∧n3≤4∧n4≤10:=by
 unfold zbr at h
 by_cases a1:0<n1 <;> by_cases a2:0<n2 <;> by_cases f1:8<(n1:Int) <;> by_cases f2:3<(n2:Int) <;> by_cases f3:4<(n3:Int) <;> by_cases f4:10<(n4:Int) <;> simp [a1,a2,f1,f2,f3,f4,zam,zag] at h ⊢ <;> omega
theorem zfi {n1 n2 n3 n4:Nat} (h:n1=0∨n2=0):zbr n1 n2 n3 n4=10:=by
 unfold zbr
 rcases h with rfl | rfl <;> simp [zam,zag]
theorem zc6 {n1 n2 n3 n4:Nat} (h1:0<n1) (h2:0<n2) (h:8<n1∨3<n2∨4<n3∨10<n4):zbr n1 n2 n3 n4=8:=by
 have e:(decide (8<(n1:Int)) || decide (3<(n2:Int)) || decide (4<(n3:Int)) || decide (10<(n4:Int)))=true:=by
  by_cases f1:8<(n1:Int) <;> by_cases f2:3<(n2:Int) <;> by_cases f3:4<(n3:Int) <;> by_cases f4:10<(n4:Int) <;> simp [f1,f2,f3,f4] <;> omega
 unfold zbr
 rw [e]
 simp [zam,zag,h1,h2]
theorem plantHead_ok {n1 n2 n3 n4:Nat} (h1:0<n1) (h2:0<n2) (f1:n1≤8) (f2:n2≤3) (f3:n3≤4) (f4:n4≤10):zbr n1 n2 n3 n4=0:=by
 have e1:¬ 8<(n1:Int):=by omega
 have e2:¬ 3<(n2:Int):=by omega
 have e3:¬ 4<(n3:Int):=by omega
 have e4:¬ 10<(n4:Int):=by omega
 simp [zbr,zam,zag,h1,h2,e1,e2,e3,e4]
abbrev StV:=ByteArray × Int × Bool
structure FsV where
 left:Int
 right:Int
 share:Int
 loss:Int
structure TnV where
 nm:ByteArray
 e1:Int
 e2:Int
 s:SlV
 steps:List (Int × Int)
def stE (pre:List StV) (x:StV):Int:=zam [zag (za3 x.1) 4,zag (!zcu (pre.map (·.1)) x.1) 5,zag (zaj x.2.1 0 100000) 2]
def zg3 (m:Nat) (i:Int):Bool:=decide (i=-1) || zaj i 0 ((m:Int) - 1)
def zjl (s:FsV):Bool:=if s.right=-1 then decide (s.share=1000) else if s.left=-1 then decide (s.share=0) else true
def fsE (m:Nat) (s:FsV):Int:=zam [zag (zg3 m s.left && zg3 m s.right) 6,zag (decide (s.left≠-1) || decide (s.right≠-1)) 23,zag (decide (s.left≠s.right)) 26,zag (zaj s.share 0 1000 && zaj s.loss 0 500) 2,zag (zjl s) 3]
def spE (m:Nat) (x:Int × Int):Int:=zam [zag (zaj x.1 0 ((m:Int) - 1)) 6,zag (zaj x.2 (-20000) 20000) 2]
def trE (m:Nat) (t:TnV):Int:=
 if zam [zag (zaj t.e1 0 1000 && zaj t.e2 0 1000) 2,zag (decide (t.e1≤t.e2)) 9,zag (decide (0<(t.steps.length:Int))) 10,zag (decide ((t.steps.length:Int)≤12)) 8]=0 then za2 (fun _ x=>spE m x) [] t.steps
 else zam [zag (zaj t.e1 0 1000 && zaj t.e2 0 1000) 2,zag (decide (t.e1≤t.e2)) 9,zag (decide (0<(t.steps.length:Int))) 10,zag (decide ((t.steps.length:Int)≤12)) 8]
def tnE (m:Nat) (pre:List TnV) (t:TnV):Int:=zam [zag (za3 t.nm) 4,zag (!zcu (pre.map (·.nm)) t.nm) 5,trE m t]
structure NetV where
 ss:SlV
 sts:List StV
 fs:SlV
 fss:List FsV
 ts:SlV
 tns:List TnV
def zb2 (n1 n2 n3:Nat):Int:=zam [zag (decide (0<n1) && decide (0<n2)) 10,zag (decide ((n1:Int)≤6) && decide ((n2:Int)≤10) && decide ((n3:Int)≤6)) 8]
def zfp (n:NetV):Int:=
 if zb2 n.sts.length n.fss.length n.tns.length=0 then zam [za2 stE [] n.sts,za2 (fun _ s=>fsE n.sts.length s) [] n.fss,za2 (tnE n.fss.length) [] n.tns] else zb2 n.sts.length n.fss.length n.tns.length
theorem zl1 {n1 n2 n3:Nat} (h:zb2 n1 n2 n3=0):0<n1∧0<n2∧(n1:Int)≤6∧(n2:Int)≤10∧(n3:Int)≤6:=by
 unfold zb2 at h
 by_cases a1:0<n1 <;> by_cases a2:0<n2 <;> by_cases f1:(n1:Int)≤6 <;> by_cases f2:(n2:Int)≤10 <;> by_cases f3:(n3:Int)≤6 <;> simp [a1,a2,f1,f2,f3,zam,zag] at h ⊢
theorem zgh {n1 n2 n3:Nat} (h:n1=0∨n2=0):zb2 n1 n2 n3=10:=by
 unfold zb2
 rcases h with rfl | rfl <;> simp [zam,zag]
theorem zek {n1 n2 n3:Nat} (h1:0<n1) (h2:0<n2) (h:6<n1∨10<n2∨6<n3):zb2 n1 n2 n3=8:=by
 have e:(decide ((n1:Int)≤6) && decide ((n2:Int)≤10) && decide ((n3:Int)≤6))=false:=by
  by_cases f1:(n1:Int)≤6 <;> by_cases f2:(n2:Int)≤10 <;> by_cases f3:(n3:Int)≤6 <;> simp [f1,f2,f3] <;> omega
 unfold zb2
 rw [e]
 simp [zam,zag,h1,h2]
theorem feedHead_ok {n1 n2 n3:Nat} (h1:0<n1) (h2:0<n2) (f1:n1≤6) (f2:n2≤10) (f3:n3≤6):zb2 n1 n2 n3=0:=by
 have e1:(n1:Int)≤6:=by omega
 have e2:(n2:Int)≤10:=by omega
 have e3:(n3:Int)≤6:=by omega
 simp [zb2,zam,zag,h1,h2,e1,e2,e3]
theorem firstE_no {a:Int} {l:List Int} (h:a≠0):zam (a :: l)=a:=if_neg h
theorem firstE_ok {l:List Int}:zam (0 :: l)=zam l:=if_pos rfl
structure VanV where
 vs:SlV
 vanes:List Int
 window:Int
 tooth:Int
 per:Int
 first:Int
 modulus:Int
 slack:Int
 errors:Int
 round:Bool
def zf4 (n:Int):Bool:=decide (n=0) || decide (n=1)
def vanR (v:VanV):Bool:=zaj v.tooth 1 1000 && zaj v.per 1 12 && zaj v.first 0 999000000 && zaj v.modulus 1 1000 && zaj v.slack 0 v.modulus && zaj v.errors 0 v.window
def zj2 (v:VanV):Int:=
 if zam [zag (zaj v.window 1 12) 2,zag (decide (v.window≤(v.vanes.length:Int))) 10,zag (decide ((v.vanes.length:Int)≤40)) 8]=0 then (if v.vanes.all zf4=true then zag (vanR v) 2 else 15)
 else zam [zag (zaj v.window 1 12) 2,zag (decide (v.window≤(v.vanes.length:Int))) 10,zag (decide ((v.vanes.length:Int)≤40)) 8]
def pcE (p:Pc):Int:=zag (zaj p.len 1 10000000 && zaj p.grad (-100) 100 && zaj p.lim 0 20000000000) 2
def zeb (nm:ByteArray) (l:List Pc):Int:=zam [zag (za3 nm) 4,zag (decide (0<(l.length:Int))) 10,zag (decide ((l.length:Int)≤12)) 8,za2 (fun _ p=>pcE p) [] l]
def zj4 (s:Sy):Int:=zam [zag (zaj s.brake 1 3000 && zaj s.drag 0 500 && zaj s.drive 0 2000) 2,zag (decide (s.drag≤s.brake)) 9]
def zio (pre:List Sw) (x:Sw):Int:=zam [zag (za3 x.1) 4,zag (!zcu (pre.map (·.1)) x.1) 5,zag (zaj x.2 0 3) 15]
def zdh {α:Type} (most:Nat) (f:List α→α→Int) (l:List α):Int × Int:=if l.length=0 then (0,10) else if most<l.length then (0,8) else zfc f 0 [] l
structure HouseV where
 plant:PlantV
 net:NetV
 vanes:VanV
 tn:ByteArray
 ps:SlV
 pcs:List Pc
 sys:Sy
 es:SlV
 evs:List ByteArray
 acs:SlV
 acts:List Act
 ms:SlV
 masts:List ByteArray
 pp:SlV
 people:List Sw
def zcg (h:HouseV):Int × Int × Int:=
 if zb7 h.plant≠0 then (1,0,zb7 h.plant) else if zfp h.net≠0 then (2,0,zfp h.net) else if zj2 h.vanes≠0 then (3,0,zj2 h.vanes)
 else if zeb h.tn h.pcs≠0 then (4,0,zeb h.tn h.pcs) else if zj4 h.sys≠0 then (5,0,zj4 h.sys) else if netE h.evs h.acts≠0 then (6,0,netE h.evs h.acts)
 else if (zdh 6 nmE h.masts).2≠0 then (7,(zdh 6 nmE h.masts).1,(zdh 6 nmE h.masts).2)
 else if (zdh 12 zio h.people).2≠0 then (8,(zdh 12 zio h.people).1,(zdh 12 zio h.people).2)
 else (0,0,zag (h.people.any fun p=>decide (p.2=3)) 12)
end Go.Proofs.YtoodbfkbbchjiaaGreatDoor
