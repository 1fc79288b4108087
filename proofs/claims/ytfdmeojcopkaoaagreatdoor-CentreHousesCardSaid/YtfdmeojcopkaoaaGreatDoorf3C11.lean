import Derived.Test.YtfdmeojcopkaoaaGreatDoorf3C10
set_option maxRecDepth 100000
set_option maxHeartbeats 16000000
namespace Go.Proofs.YtfdmeojcopkaoaaGreatDoor
open Go.RowKit
theorem awake_any (w:World) (ht:CtAt w):Calls Tryz.prog 4 #[] w fun e w'=>e=.returned (.bool true)∧Below w.heap.size w w':=by
 have HT:=Lib.hid (show ∀ W,Below w.heap.size w W→CtAt W from fun W hW=>ht.below hW)
 have hb0:=Below.refl w.heap.size w
 clear ht
 generalize hbw:w.heap.size=bw at *
 have HBW:=Lib.hid hbw
 have hs0:bw≤w.heap.size:=by omega
 clear hbw
 go_enter Tryz.func4,Tryz.ntmps4
 go_upto_region 1 with (fail)
 have HO:=zh1 w
 obtain ⟨n1,hn1⟩:∃ n,w.heap.size=n:=⟨_,rfl⟩
 rw [hn1] at HO
 have HN1:=Lib.hid hn1
 clear hn1
 go_wp2_with (first | (go_at_call 10;refine HO.mono ?_;rintro e w1a ⟨rfl,hH,hba⟩;have LO:=Log_ok w1a) | (go_at_call 11;refine LO.mono ?_;rintro e w1b ⟨rfl,hR,hbb⟩;refine stp ?_))
 unfold Stp
 rw [← HN1.out] at hba
 have hbab:=hba.trans (hbb.mono hba.size)
 have HBB:=Lib.hid (hb0.trans (hbab.mono hs0))
 have hHb:=(hH.keep hbb).mono hbb.size
 have CK:=Report_K w1b n1 _ 4 hHb hR (HT.out _ HBB.out)
 rw [show ba tx4=⟨#[100,97,121,32,51,10,108,111,99,107,32,48,32,48,32,49,58,48,32,45,10,112,108,97,99,101,32,116,32,49,49,48,48,32,49,49,57,57,32,51,10,119,111,114,107,115,32,98,10]⟩ from rfl] at CK
 have hsb:=Nat.le_trans hs0 hbab.size
 clear HO LO hH hba hR hbb hbab hHb
 go_upto_region 2 with (go_at_call 9;refine CK.mono ?_;rintro e w1c ⟨rfl,hbc⟩)
 have hb1c:=HBB.out.trans (hbc.mono hsb)
 have hs1c:=Nat.le_trans hsb hbc.size
 clear CK HBB hbc hsb hb0 hs0
 have HO:=zh1 w1c
 obtain ⟨n2,hn2⟩:∃ n,w1c.heap.size=n:=⟨_,rfl⟩
 rw [hn2] at HO
 have HN2:=Lib.hid hn2
 clear hn2
 go_wp2_with (first | (go_at_call 10;refine HO.mono ?_;rintro e w2a ⟨rfl,hH,hba⟩;have LO:=Log_ok w2a) | (go_at_call 11;refine LO.mono ?_;rintro e w2b ⟨rfl,hR,hbb⟩;refine stp ?_))
 unfold Stp
 rw [← HN2.out] at hba
 have hbab:=hba.trans (hbb.mono hba.size)
 have HBB:=Lib.hid (hb1c.trans (hbab.mono hs1c))
 have hHb:=(hH.keep hbb).mono hbb.size
 have hR1:Rd w2b w2b.heap.size (some ⟨w2a.heap.size,0,none⟩) (zb7 (logK.take 1)):=fun k u hk=>hR k u (by
  have hk2:k<(zb7 (logK.take 1)).length:=(List.getElem?_eq_some_iff.1 hk).1
  have e9:zb7 logK=zb7 (logK.take 1)++zb7 (logK.drop 1):=rfl
  rw [e9,List.getElem?_append_left hk2]
  exact hk)
 have CK:=Journal_K w2b n2 _ 4 hHb hR1 (HT.out _ HBB.out)
 have hsb:=Nat.le_trans hs1c hbab.size
 clear HO LO hH hba hR hbb hbab hHb hR1
 go_upto_region 3 with (go_at_call 12;refine CK.mono ?_;rintro e w2c ⟨rfl,hbc⟩)
 have hb2c:=HBB.out.trans (hbc.mono hsb)
 have hs2c:=Nat.le_trans hsb hbc.size
 clear CK HBB hbc hsb hb1c hs1c
 have HO:=zh1 w2c
 obtain ⟨n3,hn3⟩:∃ n,w2c.heap.size=n:=⟨_,rfl⟩
 rw [hn3] at HO
 have HN3:=Lib.hid hn3
 clear hn3
 go_wp2_with (first | (go_at_call 10;refine HO.mono ?_;rintro e w3a ⟨rfl,hH,hba⟩;have LO:=Log_ok w3a) | (go_at_call 11;refine LO.mono ?_;rintro e w3b ⟨rfl,hR,hbb⟩;refine stp ?_))
 unfold Stp
 rw [← HN3.out] at hba
 have hbab:=hba.trans (hbb.mono hba.size)
 have HBB:=Lib.hid (hb2c.trans (hbab.mono hs2c))
 have hHb:=(hH.keep hbb).mono hbb.size
 have CK:=Accept_K w3b n3 _ 4 hHb hR (HT.out _ HBB.out)
 have hsb:=Nat.le_trans hs2c hbab.size
 clear HO LO hH hba hR hbb hbab hHb
 go_upto_region 4 with (go_at_call 13;refine CK.mono ?_;rintro e w3c ⟨rfl,hbc⟩)
 have hb3c:=HBB.out.trans (hbc.mono hsb)
 have hs3c:=Nat.le_trans hsb hbc.size
 clear CK HBB hbc hsb hb2c hs2c
 have HO:=zh1 w3c
 obtain ⟨n4,hn4⟩:∃ n,w3c.heap.size=n:=⟨_,rfl⟩
 rw [hn4] at HO
 have HN4:=Lib.hid hn4
 clear hn4
 go_wp2_with (first | (go_at_call 10;refine HO.mono ?_;rintro e w4a ⟨rfl,hH,hba⟩;have LO:=Log_ok w4a) | (go_at_call 11;refine LO.mono ?_;rintro e w4b ⟨rfl,hR,hbb⟩;refine stp ?_))
 unfold Stp
 rw [← HN4.out] at hba
 have hbab:=hba.trans (hbb.mono hba.size)
 have HBB:=Lib.hid (hb3c.trans (hbab.mono hs3c))
 have hHb:=(hH.keep hbb).mono hbb.size
 have CK:=Ask_K w4b n4 _ 4 hHb hR (HT.out _ HBB.out)
 have hsb:=Nat.le_trans hs3c hbab.size
 clear HO LO hH hba hR hbb hbab hHb
 go_upto_region 5 with (go_at_call 14;refine CK.mono ?_;rintro e w4c ⟨rfl,hbc⟩)
 have hb4c:=HBB.out.trans (hbc.mono hsb)
 have hs4c:=Nat.le_trans hsb hbc.size
 clear CK HBB hbc hsb hb3c hs3c
 go_wp2
 go_ret
 exact ⟨rfl,hb4c⟩
end Go.Proofs.YtfdmeojcopkaoaaGreatDoor
