import Derived.Test.YtoodbfkbbchjiaaGreatDoorf3U4
import Derived.Test.YtoodbfkbbchjiaaGreatDoorf3J6
set_option maxRecDepth 100000
set_option maxHeartbeats 16000000
namespace Go.Proofs.YtoodbfkbbchjiaaGreatDoor
open Go.RowKit
theorem awake_any (w:World) (ht:CtAt w):Calls Tryz.prog 4 #[] w fun e w'=>e=.returned (.bool true)∧Below w.heap.size w w':=by
 have HT:=Lib.hid (show ∀ W,Below w.heap.size w W→CtAt W from fun W hW=>ht.below hW)
 have hb0:=Below.refl w.heap.size w
 clear ht
 generalize hbw:w.heap.size=bw at *
 have HBW:=Lib.hid hbw
 have hs0:bw≤w.heap.size:=by omega
 clear hbw
 go_enter Tryz.func4,Tryz.ntmps4
 go_upto_region 1 with (fail)
 have HO:=zir w
 obtain ⟨n1,hn1⟩:∃ n,w.heap.size=n:=⟨_,rfl⟩
 rw [hn1] at HO
 have HN1:=Lib.hid hn1
 clear hn1
 go_wp2_with (first | (go_at_call 16;refine HO.mono ?_;rintro e w1a ⟨rfl,hH,hba⟩;have LO:=Log_ok w1a) | (go_at_call 17;refine LO.mono ?_;rintro e w1b ⟨rfl,hR,hbb⟩;refine stp ?_))
 unfold Stp
 rw [← HN1.out] at hba
 have hbab:=hba.trans (hbb.mono hba.size)
 have HBB:=Lib.hid (hb0.trans (hbab.mono hs0))
 have hHb:=(hH.keep hbb).mono hbb.size
 have CK:=Report_K w1b n1 _ 4 hHb hR (HT.out _ HBB.out)
 rw [show ba tx4=⟨#[100,97,121,32,51,10,108,111,99,107,32,48,32,48,32,49,58,48,32,45,10,112,108,97,99,101,32,116,32,49,49,48,48,32,49,49,57,57,32,51,10,119,111,114,107,115,32,98,10]⟩ from rfl] at CK
 have hsb:=Nat.le_trans hs0 hbab.size
 clear HO LO hH hba hR hbb hbab hHb
 go_upto_region 2 with (go_at_call 15;refine CK.mono ?_;rintro e w1c ⟨rfl,hbc⟩)
 have hb1c:=HBB.out.trans (hbc.mono hsb)
 have hs1c:=Nat.le_trans hsb hbc.size
 clear CK HBB hbc hsb hb0 hs0
 have HO:=zir w1c
 obtain ⟨n2,hn2⟩:∃ n,w1c.heap.size=n:=⟨_,rfl⟩
 rw [hn2] at HO
 have HN2:=Lib.hid hn2
 clear hn2
 go_wp2_with (first | (go_at_call 16;refine HO.mono ?_;rintro e w2a ⟨rfl,hH,hba⟩;have LO:=Log_ok w2a) | (go_at_call 17;refine LO.mono ?_;rintro e w2b ⟨rfl,hR,hbb⟩;refine stp ?_))
 unfold Stp
 rw [← HN2.out] at hba
 have hbab:=hba.trans (hbb.mono hba.size)
 have HBB:=Lib.hid (hb1c.trans (hbab.mono hs1c))
 have hHb:=(hH.keep hbb).mono hbb.size
 have hR1:Rd w2b w2b.heap.size (some ⟨w2a.heap.size,0,none⟩) (zbe (logK.take 1)):=fun k u hk=>hR k u (by
  have hk2:k<(zbe (logK.take 1)).length:=(List.getElem?_eq_some_iff.1 hk).1
  have e9:zbe logK=zbe (logK.take 1)++zbe (logK.drop 1):=rfl
  rw [e9,List.getElem?_append_left hk2]
  exact hk)
 have CK:=Journal_K w2b n2 _ 4 hHb hR1 (HT.out _ HBB.out)
 have hsb:=Nat.le_trans hs1c hbab.size
 clear HO LO hH hba hR hbb hbab hHb hR1
 go_upto_region 3 with (go_at_call 18;refine CK.mono ?_;rintro e w2c ⟨rfl,hbc⟩)
 have hb2c:=HBB.out.trans (hbc.mono hsb)
 have hs2c:=Nat.le_trans hsb hbc.size
 clear CK HBB hbc hsb hb1c hs1c
 have HO:=zir w2c
 obtain ⟨n3,hn3⟩:∃ n,w2c.heap.size=n:=⟨_,rfl⟩
 rw [hn3] at HO
 have HN3:=Lib.hid hn3
 clear hn3
 go_wp2_with (first | (go_at_call 16;refine HO.mono ?_;rintro e w3a ⟨rfl,hH,hba⟩;have LO:=Log_ok w3a) | (go_at_call 17;refine LO.mono ?_;rintro e w3b ⟨rfl,hR,hbb⟩;refine stp ?_))
 unfold Stp
 rw [← HN3.out] at hba
 have hbab:=hba.trans (hbb.mono hba.size)
 have HBB:=Lib.hid (hb2c.trans (hbab.mono hs2c))
 have hHb:=(hH.keep hbb).mono hbb.size
 have CK:=Accept_K w3b n3 _ 4 hHb hR (HT.out _ HBB.out)
 have hsb:=Nat.le_trans hs2c hbab.size
 clear HO LO hH hba hR hbb hbab hHb
 go_upto_region 4 with (go_at_call 14;refine CK.mono ?_;rintro e w3c ⟨rfl,hbc⟩)
 have hb3c:=HBB.out.trans (hbc.mono hsb)
 have hs3c:=Nat.le_trans hsb hbc.size
 clear CK HBB hbc hsb hb2c hs2c
 have HO:=zir w3c
 obtain ⟨n4,hn4⟩:∃ n,w3c.heap.size=n:=⟨_,rfl⟩
 rw [hn4] at HO
 have HN4:=Lib.hid hn4
 clear hn4
 go_wp2_with (first | (go_at_call 16;refine HO.mono ?_;rintro e w4a ⟨rfl,hH,hba⟩;have LO:=Log_ok w4a) | (go_at_call 17;refine LO.mono ?_;rintro e w4b ⟨rfl,hR,hbb⟩;refine stp ?_))
 unfold Stp
 rw [← HN4.out] at hba
 have hbab:=hba.trans (hbb.mono hba.size)
 have HBB:=Lib.hid (hb3c.trans (hbab.mono hs3c))
 have hHb:=(hH.keep hbb).mono hbb.size
 have CK:=Ask_K w4b n4 _ 4 hHb hR (HT.out _ HBB.out)
 have hsb:=Nat.le_trans hs3c hbab.size
 clear HO LO hH hba hR hbb hbab hHb
 go_upto_region 5 with (go_at_call 19;refine CK.mono ?_;rintro e w4c ⟨rfl,hbc⟩)
 have hb4c:=HBB.out.trans (hbc.mono hsb)
 have hs4c:=Nat.le_trans hsb hbc.size
 clear CK HBB hbc hsb hb3c hs3c
 go_wp2
 go_ret
 exact ⟨rfl,hb4c⟩
end Go.Proofs.YtoodbfkbbchjiaaGreatDoor
namespace Go.Proofs.YtoodbfkbbchjiaaGreatDoor
theorem tx3_sum (wd:List UInt8) (a b:ByteArray):ba (wd++[32])++a++⟨#[32]⟩++b=tx3 wd a b:=by
 unfold tx3
 rw [ba_eq]
 simp [ba,ByteArray.data_append]
theorem tx2_sum (wd:List UInt8) (a:ByteArray):ba (wd++[32])++a=tx2 wd a:=by
 unfold tx2
 rw [ba_eq]
 simp [ba,ByteArray.data_append]
theorem zd5 {h:HouseV} (e:(zcg h).2.2=0):zcg h=(0,0,0):=by
 unfold zcg at e ⊢
 split at e
 · next h0=>exact absurd e h0
 · next h0 =>
   rw [if_neg h0]
   split at e
   · next h1=>exact absurd e h1
   · next h1 =>
     rw [if_neg h1]
     split at e
     · next h2=>exact absurd e h2
     · next h2 =>
       rw [if_neg h2]
       split at e
       · next h3=>exact absurd e h3
       · next h3 =>
         rw [if_neg h3]
         split at e
         · next h4=>exact absurd e h4
         · next h4 =>
           rw [if_neg h4]
           split at e
           · next h5=>exact absurd e h5
           · next h5 =>
             rw [if_neg h5]
             split at e
             · next h6=>exact absurd e h6
             · next h6 =>
               rw [if_neg h6]
               split at e
               · next h7=>exact absurd e h7
               · next h7 =>
                 rw [if_neg h7]
                 simp only at e
                 rw [e]
def zfb (people:List Sw) (k:Nat) (s:ByteArray):Prop:=(s=⟨#[]⟩∧∀ (j:Nat) (y:Sw),j<k→people[j]?=some y→y.2≠3)∨∃ (p:Nat) (y:Sw),people[p]?=some y∧y.2=3∧s=y.1
theorem zfb.start (people:List Sw):zfb people 0 ⟨#[]⟩:=.inl ⟨rfl,fun _ _ h=>by omega⟩
theorem zfb.next {people:List Sw} {k:Nat} {s:ByteArray} {y:Sw} (h:zfb people k s) (hy:people[k]?=some y) (hn:y.2≠3):zfb people (k+1) s:=by
 rcases h with ⟨h1,h2⟩ | h
 · refine .inl ⟨h1,fun j z hj hz=>?_⟩
   rcases Nat.lt_or_ge j k with h9 | h9
   · exact h2 j z h9 hz
   · obtain rfl:j=k:=by omega
     rw [hy] at hz
     obtain rfl:=Option.some.inj hz
     exact hn
 · exact .inr h
theorem zfb.take {people:List Sw} {k:Nat} {y:Sw} (hy:people[k]?=some y) (hn:y.2=3):zfb people (k+1) y.1:=.inr ⟨k,y,hy,hn,rfl⟩
theorem zfb.fin {people:List Sw} {k:Nat} {s:ByteArray} (h:zfb people k s) (hk:people.length≤k) (hc:∃ p∈people,p.2=3):∃ (p:Nat) (y:Sw),people[p]?=some y∧y.2=3∧s=y.1:=by
 rcases h with ⟨h1,h2⟩ | h
 · obtain ⟨y,hy,h3⟩:=hc
   obtain ⟨j,hj⟩:=List.getElem?_of_mem hy
   have:=(List.getElem?_eq_some_iff.1 hj).1
   exact absurd h3 (h2 j y (by omega) hj)
 · exact h
def LogR (n:Nat) (evs:List REv) (k:Nat):Prop:=zii n none evs=some (some (k,none))∧k<n
theorem LogR.start {n k:Nat} (h:k<n):LogR n [.join k] k:=⟨by simp [zii,REv.step,h],h⟩
theorem LogR.hand {n k m:Nat} {evs:List REv} (h:LogR n evs k) (hm:m<n) (hn:m=k+1∨k=m+1):zii n none (evs++[.hand m])=some (some (k,some m)):=by
 rw [zd3,h.1]
 show REv.step n (.hand m) (some (k,none))=_
 rw [REv.step,if_pos ⟨hm,hn⟩]
theorem LogR.drop {n k m:Nat} {evs:List REv} (h:LogR n evs k) (hm:m<n) (hn:m=k+1∨k=m+1):LogR n ((evs++[.hand m])++[.drop]) m:=by
 refine ⟨?_,hm⟩
 rw [zd3,h.hand hm hn]
 rfl
theorem LogR.end_ {n k:Nat} {evs:List REv} (h:LogR n evs k):zii n none (evs++[.drop])=some none:=by
 rw [zd3,h.1]
 rfl
end Go.Proofs.YtoodbfkbbchjiaaGreatDoor
