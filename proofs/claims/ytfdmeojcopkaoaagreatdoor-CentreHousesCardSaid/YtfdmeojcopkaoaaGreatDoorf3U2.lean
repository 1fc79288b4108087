import Derived.Test.YtfdmeojcopkaoaaGreatDoorf3U1
import Derived.Test.YtfdmeojcopkaoaaGreatDoorf3S8
import Derived.Test.YtfdmeojcopkaoaaGreatDoorf3S10
import Derived.Test.YtfdmeojcopkaoaaGreatDoorf3N3
set_option maxRecDepth 100000
set_option maxHeartbeats 16000000
namespace Go.Proofs.YtfdmeojcopkaoaaGreatDoor
open Go.RowKit
theorem houses_law (w:World) (B:Nat) (h:HouseV) (H:HouseAt w B h) (hW:HouseW h) (hB:B≤w.heap.size)
 (AW:∀ W:World,Below w.heap.size w W→Calls Tryz.prog 4 #[] W fun e w'=>e=.returned (.bool true)∧Below W.heap.size W w') :
 Calls Tryz.prog 3 #[.agg (zaq h).toArray] w fun e w'=>e=.returned (.bool true)∧Below w.heap.size w w':=by
 have HW:=Lib.hid hW
 obtain ⟨V,hV⟩:∃ V,zfy h=V:=⟨_,rfl⟩
 have HE:=Lib.hid hV
 obtain ⟨n1,n2,n3⟩:=V
 have hb0:=hB1 w (.cells (zaq h).toArray 45)
 have HH:=Lib.hid ((H.keep hb0).mono hB)
 have AW0:=AW _ hb0
 have HB:=Lib.hid hb0
 have hs0:=hS1 w (.cells (zaq h).toArray 45)
 have k0:=hA1 w (.cells (zaq h).toArray 45)
 clear hb0 H hW AW hV
 go_enter Tryz.func3,Tryz.ntmps3
 go_upto_region 1 with (fail)
 generalize w.alloc (.cells (zaq h).toArray 45)=w0 at *
 generalize hbw:w.heap.size=bw at *
 have HBW:=Lib.hid hbw
 clear hbw
 go_upto_region 3 with (go_at_call 4;refine AW0.mono ?_;rintro e w1 ⟨rfl,hb⟩)
 clear AW0
 replace k0:=blk hb k0
 replace HB:=Lib.hid (HB.out.trans (hb.mono (by omega)))
 replace HH:=Lib.hid (HH.out.belowC (hb.mono (by omega)))
 replace hs0:=Nat.le_trans hs0 hb.size
 clear hb
 go_wp2_with (with_reducible refine zaz 45 ?_)
 unfold Stp
 refine wpList_load_row rfl 45 _ rfl bw rfl 45 _ (0,0) _ k0 Tryz.underlying45 rfl (by kernel_rfl) ?_
 have FW:=few_any w1 bw h HH.out HW.out (by omega)
 go_wp2_with (first | (go_at_call 5;refine FW.mono ?_;rintro e w2 ⟨b,rfl,hS,hb⟩;cases b) | (with_reducible refine zaz 45 ?_))
 · go_ret
   exact ⟨rfl,by rw [HBW.out];exact HB.out.trans (hb.mono (by omega))⟩
 unfold Stp
 obtain ⟨hS1,hz⟩:=hS trivial
 clear FW hS
 replace k0:=blk hb k0
 replace HB:=Lib.hid (HB.out.trans (hb.mono (by omega)))
 replace HH:=Lib.hid (HH.out.belowC (hb.mono (by omega)))
 replace hs0:=Nat.le_trans hs0 hb.size
 clear hb
 have HS:=Lib.hid hS1
 have HZ:=Lib.hid hz
 clear hS1 hz
 refine wpList_load_row rfl 45 _ rfl bw rfl 45 _ (0,0) _ k0 Tryz.underlying45 rfl (by kernel_rfl) ?_
 have CP:=zk1 w2 bw h HH.out HS.out (by omega)
 go_wp2_with (go_at_call 7;refine CP.mono ?_;rintro e w3 ⟨q,hq,rfl,hO,hb⟩;refine stp ?_)
 unfold Stp
 have CK:=zix w3 w3.heap.size q hO.at (HouseS_like hq HS.out) (Nat.le_refl _)
 rw [houseE_like hq,HE.out] at CK
 have hs3:=Nat.le_trans hs0 hb.size
 go_wp2_with (go_at_call 6;refine CK.mono ?_;rintro e w4 ⟨rfl,hb4⟩;refine stp ?_)
 unfold Stp
 replace k0:=blk hb4 (blk hb k0)
 have hb9:=hb.trans (hb4.mono hb.size)
 replace HB:=Lib.hid (HB.out.trans (hb9.mono (by omega)))
 replace HH:=Lib.hid (HH.out.belowC (hb9.mono (by omega)))
 replace hs0:=Nat.le_trans hs3 hb4.size
 clear hb hb4 hb9 CP CK hq hO hs3
 go_upto_region 6 with (fail)
 have hba:=hB1 w4 (.cells #[.int .i64 n1,.int .i64 n2] 49)
 have k3:=hA1 w4 (.cells #[.int .i64 n1,.int .i64 n2] 49)
 replace k0:=blk hba k0
 replace HB:=Lib.hid (HB.out.trans (hba.mono (by omega)))
 replace HH:=Lib.hid (HH.out.belowC (hba.mono (by omega)))
 replace hs0:=Nat.le_trans hs0 hba.size
 clear hba
 generalize w4.alloc (.cells #[.int .i64 n1,.int .i64 n2] 49)=wa at *
 generalize w4.heap.size=xa at *
 go_wp2_with (with_reducible refine zaz 45 ?_)
 unfold Stp
 refine wpList_load_row rfl 45 _ rfl bw rfl 45 _ (0,0) _ k0 Tryz.underlying45 rfl (by kernel_rfl) ?_
 have RF:=refHouse_any wa bw h HH.out HS.out HZ.out (by omega)
 rw [HE.out] at RF
 go_upto_region 7 with (go_at_call 8;refine RF.mono ?_;rintro e w5 ⟨rfl,hb⟩)
 replace k3:=blk hb k3
 replace HB:=Lib.hid (HB.out.trans (hb.mono (by omega)))
 replace hs0:=Nat.le_trans hs0 hb.size
 have hxa:=lt_of_block k3
 have hba:=hB1 w5 (.cells #[.int .i64 n1,.int .i64 n2] 49)
 have k4:=hA1 w5 (.cells #[.int .i64 n1,.int .i64 n2] 49)
 replace k3:=blk hba k3
 replace HB:=Lib.hid (HB.out.trans (hba.mono (by omega)))
 clear hb hba RF hxa k0
 generalize w5.alloc (.cells #[.int .i64 n1,.int .i64 n2] 49)=wc at *
 generalize w5.heap.size=xc at *
 obtain ⟨c0,c1⟩:_∧_:=zay k3
 obtain ⟨c2,c3⟩:_∧_:=zay k4
 clear HH HS HZ HE HW
 go_wp2
 go_ret
 exact ⟨rfl,by rw [HBW.out];exact HB.out⟩
end Go.Proofs.YtfdmeojcopkaoaaGreatDoor
