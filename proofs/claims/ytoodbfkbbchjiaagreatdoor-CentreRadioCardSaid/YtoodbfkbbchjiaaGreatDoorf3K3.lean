import Derived.Test.YtoodbfkbbchjiaaGreatDoorf3X4
import Derived.Test.YtoodbfkbbchjiaaGreatDoorf3F3
set_option maxRecDepth 100000
set_option maxHeartbeats 16000000
namespace Go.Proofs.YtoodbfkbbchjiaaGreatDoor
open Go.RowKit
theorem zil (i:Int) (n:Nat) (p:Addr) (b:Bool) (w:World) (hn:n≤1000000000) (hp:w.cell? p=some (.int .i64 n)) (hb:zaj i 0 ((n:Int) - 1)=b) :
 Calls Tryz.prog 200 #[.int .i64 i,.pointer (some p)] w fun e w'=>e=.returned (.bool b)∧w=w':=by
 have WI:=fun W=>zdu i 0 ((n:Int) - 1) b hb W
 clear hb
 go_enter Tryz.func200,Tryz.ntmps200
 go_wp2_with (go_at_call 201;refine (WI _).mono ?_;rintro e w' ⟨rfl,rfl⟩)
 go_ret
 exact ⟨rfl,rfl⟩
theorem zet (i:Int) (b:Bool) (w:World) (hb:zaj i 1 100000=b) :
 Calls Tryz.prog 202 #[.int .i64 i] w fun e w'=>e=.returned (.bool b)∧w=w':=by
 have WI:=fun W=>zdu i 1 100000 b hb W
 clear hb
 go_enter Tryz.func202,Tryz.ntmps202
 go_wp2_with (go_at_call 201;refine (WI _).mono ?_;rintro e w' ⟨rfl,rfl⟩)
 go_ret
 exact ⟨rfl,rfl⟩
theorem actE_list (n:Nat) (a:Act):actE n a=zam [zag (zaj a.kind 0 4) 15,zag (zaj a.src 0 ((n:Int) - 1) && zaj a.dst 0 ((n:Int) - 1)) 6,zag (a.src != a.dst) 26,zag (zaj a.least 1 100000 && (a.most == -1 || zaj a.most 1 100000) && zaj a.wait 0 100000) 2,zag (a.most == -1 || decide (a.least≤a.most)) 9,zag (a.kind == 2 || a.wait == 0) 3]:=by
 obtain ⟨k,s,d,l,m,x⟩:=a
 have g1:(s != d)=!decide (s=d):=by by_cases h:s=d <;> simp [h]
 have g2:(m == -1)=decide (m=-1):=by by_cases h:m=-1 <;> simp [h]
 have g3:(k == 2)=decide (k=2):=by by_cases h:k=2 <;> simp [h]
 have g4:(x == 0)=decide (x=0):=by by_cases h:x=0 <;> simp [h]
 have g5:decide (l≤m)=!decide (m<l):=by by_cases h:m<l <;> simp [h] <;> omega
 unfold actE evtE durB
 simp only
 rw [g1,g2,g3,g4,g5]
 clear g1 g2 g3 g4 g5
 cases zaj k 0 4 <;> cases zaj s 0 ((n:Int) - 1) <;> cases zaj d 0 ((n:Int) - 1) <;> cases zaj l 1 100000 <;> cases zaj m 1 100000 <;> cases zaj x 0 100000 <;> by_cases h1:s=d <;> by_cases h2:m=-1 <;> by_cases h3:m<l <;> by_cases h4:k=2 <;> by_cases h5:x=0 <;> simp [h1,h2,h3,h4,h5,zam,zag]
end Go.Proofs.YtoodbfkbbchjiaaGreatDoor
