import Derived.Test.YtoodbfkbbchjiaaGreatDoorf3A4
import Derived.Test.YtoodbfkbbchjiaaGreatDoorf3X4
set_option maxRecDepth 100000
set_option maxHeartbeats 16000000
namespace Go.Proofs.YtoodbfkbbchjiaaGreatDoor
open Go.RowKit
theorem cnWithin_any (n lo hi:Int) (w:World) :
 Calls Tryz.prog 85 #[.int .i64 n,.int .i64 lo,.int .i64 hi] w fun e w'=>e=.returned (.bool (zaj n lo hi))∧w=w':=by
 by_cases h1:lo≤n <;> by_cases h2:n≤hi
 all_goals
  go_enter Tryz.func85,Tryz.ntmps85
  go_wp2
  go_ret
  exact ⟨by simp [zaj,h1,h2],rfl⟩
theorem cnWithin_val (n lo hi:Int) (b:Bool) (h:zaj n lo hi=b) (w:World) :
 Calls Tryz.prog 85 #[.int .i64 n,.int .i64 lo,.int .i64 hi] w fun e w'=>e=.returned (.bool b)∧w=w':=by
 rw [← h]
 exact cnWithin_any n lo hi w
theorem zcq (b:Bool) (x:Int) (w:World) :
 Calls Tryz.prog 48 #[.bool b,.int .i64 x] w fun e w'=>e=.returned (.int .i64 (zag b x))∧w=w':=by
 cases b
 all_goals
  go_enter Tryz.func48,Tryz.ntmps48
  go_wp2
  go_ret
  exact ⟨by simp [zag],rfl⟩
theorem zbk (b:Bool) (x v:Int) (h:zag b x=v) (w:World):Calls Tryz.prog 48 #[.bool b,.int .i64 x] w fun e w'=>e=.returned (.int .i64 v)∧w=w':=by
 rw [← h]
 exact zcq b x w
theorem zgl (g n:Nat) (l:List Int) (w:World) (hn:n≤1000) (hl:l.length=n)
 (h:∀ k,k<n→w.cell? ⟨g,k,none⟩=some (.int .i64 (l[k]?.getD 0))) :
 Calls Tryz.prog 47 #[.slice (some ⟨g,0,none⟩) n n] w fun e w'=>e=.returned (.int .i64 (zam l))∧w=w':=by
 have HL:=Lib.hid hl;clear hl
 go_enter Tryz.func47,Tryz.ntmps47
 go_wp2
 go_loop [4,7] (fun _ i=>∃ k:Nat,k≤n∧i=.int .i64 k∧zam (l.drop k)=zam l) (fun _ i=>n - (intOf i).toNat)
 case atStart=>exact ⟨0,Nat.zero_le _,rfl,rfl⟩
 case round =>
  obtain ⟨k,hk,rfl,he⟩:=hrel
  have HE:=Lib.hid he;clear he
  by_cases hlt:k<n
  · have hc:=h k hlt
    have hs:l.drop k=(l[k]?.getD 0) :: l.drop (k+1):=by
     have:k<l.length:=by rw [HL.out];exact hlt
     rw [List.drop_eq_getElem_cons this];simp [this]
    have HS:=Lib.hid hs;clear hs
    by_cases hz:l[k]?.getD 0=0
    · have hz':(l[k]?.getD 0 != 0)=false:=by simp [hz]
      have HZ:=Lib.hid hz;clear hz
      go_wp2
      go_round
      case rel=>exact ⟨k+1,by omega,by go_num,by rw [← HE.out,HS.out,zam,if_pos HZ.out]⟩
      case measure=>simp [intOf];omega
    · have hz':(l[k]?.getD 0 != 0)=true:=by simp [hz]
      have HZ:=Lib.hid hz;clear hz
      go_wp2
      go_ret
      exact ⟨by rw [← HE.out,HS.out,zam,if_neg HZ.out];rfl,rfl⟩
  · go_wp2
    go_ret
    have:l.drop k=[]:=by rw [List.drop_eq_nil_iff];rw [HL.out];omega
    exact ⟨by rw [← HE.out,this];rfl,rfl⟩
theorem zde (w:World) (a b:Int) :
 Calls Tryz.prog 47 #[.slice (some ⟨w.heap.size,0,none⟩) 2 2] (w.alloc (.cells #[.int .i64 a,.int .i64 b] 60)) fun e w' =>
  e=.returned (.int .i64 (zam [a,b]))∧w.alloc (.cells #[.int .i64 a,.int .i64 b] 60)=w':=
 zgl _ 2 [a,b] _ (by decide) rfl (by
  intro k hk
  match k,hk with
  | 0,_=>simp
  | 1,_=>simp)
theorem zf2 (w:World) (a b c:Int) :
 Calls Tryz.prog 47 #[.slice (some ⟨w.heap.size,0,none⟩) 3 3] (w.alloc (.cells #[.int .i64 a,.int .i64 b,.int .i64 c] 60)) fun e w' =>
  e=.returned (.int .i64 (zam [a,b,c]))∧w.alloc (.cells #[.int .i64 a,.int .i64 b,.int .i64 c] 60)=w':=
 zgl _ 3 [a,b,c] _ (by decide) rfl (by
  intro k hk
  match k,hk with
  | 0,_=>simp
  | 1,_=>simp
  | 2,_=>simp)
theorem cnFirst4 (w:World) (a b c d:Int) :
 Calls Tryz.prog 47 #[.slice (some ⟨w.heap.size,0,none⟩) 4 4] (w.alloc (.cells #[.int .i64 a,.int .i64 b,.int .i64 c,.int .i64 d] 60)) fun e w' =>
  e=.returned (.int .i64 (zam [a,b,c,d]))∧w.alloc (.cells #[.int .i64 a,.int .i64 b,.int .i64 c,.int .i64 d] 60)=w':=
 zgl _ 4 [a,b,c,d] _ (by decide) rfl (by
  intro k hk
  match k,hk with
  | 0,_=>simp
  | 1,_=>simp
  | 2,_=>simp
  | 3,_=>simp)
theorem lkWithin_any (n lo hi:Int) (w:World) :
 Calls Tryz.prog 193 #[.int .i64 n,.int .i64 lo,.int .i64 hi] w fun e w'=>e=.returned (.bool (zaj n lo hi))∧w=w':=by
 by_cases h1:lo≤n <;> by_cases h2:n≤hi
 all_goals
  go_enter Tryz.func193,Tryz.ntmps193
  go_wp2
  go_ret
  exact ⟨by simp [zaj,h1,h2],rfl⟩
theorem zb0 (n lo hi:Int) (b:Bool) (h:zaj n lo hi=b) (w:World) :
 Calls Tryz.prog 193 #[.int .i64 n,.int .i64 lo,.int .i64 hi] w fun e w'=>e=.returned (.bool b)∧w=w':=by
 rw [← h]
 exact lkWithin_any n lo hi w
theorem zb1 (b:Bool) (x:Int) (w:World) :
 Calls Tryz.prog 115 #[.bool b,.int .i64 x] w fun e w'=>e=.returned (.int .i64 (zag b x))∧w=w':=by
 cases b
 all_goals
  go_enter Tryz.func115,Tryz.ntmps115
  go_wp2
  go_ret
  exact ⟨by simp [zag],rfl⟩
theorem zbt (b:Bool) (x v:Int) (h:zag b x=v) (w:World):Calls Tryz.prog 115 #[.bool b,.int .i64 x] w fun e w'=>e=.returned (.int .i64 v)∧w=w':=by
 rw [← h]
 exact zb1 b x w
theorem zjd (g n:Nat) (l:List Int) (w:World) (hn:n≤1000) (hl:l.length=n)
 (h:∀ k,k<n→w.cell? ⟨g,k,none⟩=some (.int .i64 (l[k]?.getD 0))) :
 Calls Tryz.prog 114 #[.slice (some ⟨g,0,none⟩) n n] w fun e w'=>e=.returned (.int .i64 (zam l))∧w=w':=by
 have HL:=Lib.hid hl;clear hl
 go_enter Tryz.func114,Tryz.ntmps114
 go_wp2
 go_loop [4,7] (fun _ i=>∃ k:Nat,k≤n∧i=.int .i64 k∧zam (l.drop k)=zam l) (fun _ i=>n - (intOf i).toNat)
 case atStart=>exact ⟨0,Nat.zero_le _,rfl,rfl⟩
 case round =>
  obtain ⟨k,hk,rfl,he⟩:=hrel
  have HE:=Lib.hid he;clear he
  by_cases hlt:k<n
  · have hc:=h k hlt
    have hs:l.drop k=(l[k]?.getD 0) :: l.drop (k+1):=by
     have:k<l.length:=by rw [HL.out];exact hlt
     rw [List.drop_eq_getElem_cons this];simp [this]
    have HS:=Lib.hid hs;clear hs
    by_cases hz:l[k]?.getD 0=0
    · have hz':(l[k]?.getD 0 != 0)=false:=by simp [hz]
      have HZ:=Lib.hid hz;clear hz
      go_wp2
      go_round
      case rel=>exact ⟨k+1,by omega,by go_num,by rw [← HE.out,HS.out,zam,if_pos HZ.out]⟩
      case measure=>simp [intOf];omega
    · have hz':(l[k]?.getD 0 != 0)=true:=by simp [hz]
      have HZ:=Lib.hid hz;clear hz
      go_wp2
      go_ret
      exact ⟨by rw [← HE.out,HS.out,zam,if_neg HZ.out];rfl,rfl⟩
  · go_wp2
    go_ret
    have:l.drop k=[]:=by rw [List.drop_eq_nil_iff];rw [HL.out];omega
    exact ⟨by rw [← HE.out,this];rfl,rfl⟩
theorem zdo (w:World) (a b:Int) :
 Calls Tryz.prog 114 #[.slice (some ⟨w.heap.size,0,none⟩) 2 2] (w.alloc (.cells #[.int .i64 a,.int .i64 b] 60)) fun e w' =>
  e=.returned (.int .i64 (zam [a,b]))∧w.alloc (.cells #[.int .i64 a,.int .i64 b] 60)=w':=
 zjd _ 2 [a,b] _ (by decide) rfl (by
  intro k hk
  match k,hk with
  | 0,_=>simp
  | 1,_=>simp)
theorem lkFirst3 (w:World) (a b c:Int) :
 Calls Tryz.prog 114 #[.slice (some ⟨w.heap.size,0,none⟩) 3 3] (w.alloc (.cells #[.int .i64 a,.int .i64 b,.int .i64 c] 60)) fun e w' =>
  e=.returned (.int .i64 (zam [a,b,c]))∧w.alloc (.cells #[.int .i64 a,.int .i64 b,.int .i64 c] 60)=w':=
 zjd _ 3 [a,b,c] _ (by decide) rfl (by
  intro k hk
  match k,hk with
  | 0,_=>simp
  | 1,_=>simp
  | 2,_=>simp)
theorem fdWithin_any (n lo hi:Int) (w:World) :
 Calls Tryz.prog 133 #[.int .i64 n,.int .i64 lo,.int .i64 hi] w fun e w'=>e=.returned (.bool (zaj n lo hi))∧w=w':=by
 by_cases h1:lo≤n <;> by_cases h2:n≤hi
 all_goals
  go_enter Tryz.func133,Tryz.ntmps133
  go_wp2
  go_ret
  exact ⟨by simp [zaj,h1,h2],rfl⟩
theorem zcp (n lo hi:Int) (b:Bool) (h:zaj n lo hi=b) (w:World) :
 Calls Tryz.prog 133 #[.int .i64 n,.int .i64 lo,.int .i64 hi] w fun e w'=>e=.returned (.bool b)∧w=w':=by
 rw [← h]
 exact fdWithin_any n lo hi w
theorem zcd (b:Bool) (x:Int) (w:World) :
 Calls Tryz.prog 131 #[.bool b,.int .i64 x] w fun e w'=>e=.returned (.int .i64 (zag b x))∧w=w':=by
 cases b
 all_goals
  go_enter Tryz.func131,Tryz.ntmps131
  go_wp2
  go_ret
  exact ⟨by simp [zag],rfl⟩
theorem zgk (g n:Nat) (l:List Int) (w:World) (hn:n≤1000) (hl:l.length=n)
 (h:∀ k,k<n→w.cell? ⟨g,k,none⟩=some (.int .i64 (l[k]?.getD 0))) :
 Calls Tryz.prog 130 #[.slice (some ⟨g,0,none⟩) n n] w fun e w'=>e=.returned (.int .i64 (zam l))∧w=w':=by
 have HL:=Lib.hid hl;clear hl
 go_enter Tryz.func130,Tryz.ntmps130
 go_wp2
 go_loop [4,7] (fun _ i=>∃ k:Nat,k≤n∧i=.int .i64 k∧zam (l.drop k)=zam l) (fun _ i=>n - (intOf i).toNat)
 case atStart=>exact ⟨0,Nat.zero_le _,rfl,rfl⟩
 case round =>
  obtain ⟨k,hk,rfl,he⟩:=hrel
  have HE:=Lib.hid he;clear he
  by_cases hlt:k<n
  · have hc:=h k hlt
    have hs:l.drop k=(l[k]?.getD 0) :: l.drop (k+1):=by
     have:k<l.length:=by rw [HL.out];exact hlt
     rw [List.drop_eq_getElem_cons this];simp [this]
    have HS:=Lib.hid hs;clear hs
    by_cases hz:l[k]?.getD 0=0
    · have hz':(l[k]?.getD 0 != 0)=false:=by simp [hz]
      have HZ:=Lib.hid hz;clear hz
      go_wp2
      go_round
      case rel=>exact ⟨k+1,by omega,by go_num,by rw [← HE.out,HS.out,zam,if_pos HZ.out]⟩
      case measure=>simp [intOf];omega
    · have hz':(l[k]?.getD 0 != 0)=true:=by simp [hz]
      have HZ:=Lib.hid hz;clear hz
      go_wp2
      go_ret
      exact ⟨by rw [← HE.out,HS.out,zam,if_neg HZ.out];rfl,rfl⟩
  · go_wp2
    go_ret
    have:l.drop k=[]:=by rw [List.drop_eq_nil_iff];rw [HL.out];omega
    exact ⟨by rw [← HE.out,this];rfl,rfl⟩
theorem zf1 (w:World) (a b:Int) :
 Calls Tryz.prog 130 #[.slice (some ⟨w.heap.size,0,none⟩) 2 2] (w.alloc (.cells #[.int .i64 a,.int .i64 b] 60)) fun e w' =>
  e=.returned (.int .i64 (zam [a,b]))∧w.alloc (.cells #[.int .i64 a,.int .i64 b] 60)=w':=
 zgk _ 2 [a,b] _ (by decide) rfl (by
  intro k hk
  match k,hk with
  | 0,_=>simp
  | 1,_=>simp)
theorem fdFirst4 (w:World) (a b c d:Int) :
 Calls Tryz.prog 130 #[.slice (some ⟨w.heap.size,0,none⟩) 4 4] (w.alloc (.cells #[.int .i64 a,.int .i64 b,.int .i64 c,.int .i64 d] 60)) fun e w' =>
  e=.returned (.int .i64 (zam [a,b,c,d]))∧w.alloc (.cells #[.int .i64 a,.int .i64 b,.int .i64 c,.int .i64 d] 60)=w':=
 zgk _ 4 [a,b,c,d] _ (by decide) rfl (by
  intro k hk
  match k,hk with
  | 0,_=>simp
  | 1,_=>simp
  | 2,_=>simp
  | 3,_=>simp)
theorem fdFirst5 (w:World) (a b c d x5:Int) :
 Calls Tryz.prog 130 #[.slice (some ⟨w.heap.size,0,none⟩) 5 5] (w.alloc (.cells #[.int .i64 a,.int .i64 b,.int .i64 c,.int .i64 d,.int .i64 x5] 60)) fun e w' =>
  e=.returned (.int .i64 (zam [a,b,c,d,x5]))∧w.alloc (.cells #[.int .i64 a,.int .i64 b,.int .i64 c,.int .i64 d,.int .i64 x5] 60)=w':=
 zgk _ 5 [a,b,c,d,x5] _ (by decide) rfl (by
  intro k hk
  match k,hk with
  | 0,_=>simp
  | 1,_=>simp
  | 2,_=>simp
  | 3,_=>simp
  | 4,_=>simp)
theorem loWithin_any (n lo hi:Int) (w:World) :
 Calls Tryz.prog 138 #[.int .i64 n,.int .i64 lo,.int .i64 hi] w fun e w'=>e=.returned (.bool (zaj n lo hi))∧w=w':=by
 by_cases h1:lo≤n <;> by_cases h2:n≤hi
 all_goals
  go_enter Tryz.func138,Tryz.ntmps138
  go_wp2
  go_ret
  exact ⟨by simp [zaj,h1,h2],rfl⟩
theorem zcb (n lo hi:Int) (b:Bool) (h:zaj n lo hi=b) (w:World) :
 Calls Tryz.prog 138 #[.int .i64 n,.int .i64 lo,.int .i64 hi] w fun e w'=>e=.returned (.bool b)∧w=w':=by
 rw [← h]
 exact loWithin_any n lo hi w
theorem zbz (b:Bool) (x:Int) (w:World) :
 Calls Tryz.prog 137 #[.bool b,.int .i64 x] w fun e w'=>e=.returned (.int .i64 (zag b x))∧w=w':=by
 cases b
 all_goals
  go_enter Tryz.func137,Tryz.ntmps137
  go_wp2
  go_ret
  exact ⟨by simp [zag],rfl⟩
theorem zee (b:Bool) (x v:Int) (h:zag b x=v) (w:World):Calls Tryz.prog 137 #[.bool b,.int .i64 x] w fun e w'=>e=.returned (.int .i64 v)∧w=w':=by
 rw [← h]
 exact zbz b x w
theorem zjb (g n:Nat) (l:List Int) (w:World) (hn:n≤1000) (hl:l.length=n)
 (h:∀ k,k<n→w.cell? ⟨g,k,none⟩=some (.int .i64 (l[k]?.getD 0))) :
 Calls Tryz.prog 136 #[.slice (some ⟨g,0,none⟩) n n] w fun e w'=>e=.returned (.int .i64 (zam l))∧w=w':=by
 have HL:=Lib.hid hl;clear hl
 go_enter Tryz.func136,Tryz.ntmps136
 go_wp2
 go_loop [4,7] (fun _ i=>∃ k:Nat,k≤n∧i=.int .i64 k∧zam (l.drop k)=zam l) (fun _ i=>n - (intOf i).toNat)
 case atStart=>exact ⟨0,Nat.zero_le _,rfl,rfl⟩
 case round =>
  obtain ⟨k,hk,rfl,he⟩:=hrel
  have HE:=Lib.hid he;clear he
  by_cases hlt:k<n
  · have hc:=h k hlt
    have hs:l.drop k=(l[k]?.getD 0) :: l.drop (k+1):=by
     have:k<l.length:=by rw [HL.out];exact hlt
     rw [List.drop_eq_getElem_cons this];simp [this]
    have HS:=Lib.hid hs;clear hs
    by_cases hz:l[k]?.getD 0=0
    · have hz':(l[k]?.getD 0 != 0)=false:=by simp [hz]
      have HZ:=Lib.hid hz;clear hz
      go_wp2
      go_round
      case rel=>exact ⟨k+1,by omega,by go_num,by rw [← HE.out,HS.out,zam,if_pos HZ.out]⟩
      case measure=>simp [intOf];omega
    · have hz':(l[k]?.getD 0 != 0)=true:=by simp [hz]
      have HZ:=Lib.hid hz;clear hz
      go_wp2
      go_ret
      exact ⟨by rw [← HE.out,HS.out,zam,if_neg HZ.out];rfl,rfl⟩
  · go_wp2
    go_ret
    have:l.drop k=[]:=by rw [List.drop_eq_nil_iff];rw [HL.out];omega
    exact ⟨by rw [← HE.out,this];rfl,rfl⟩
theorem loFirst2 (w:World) (a b:Int) :
 Calls Tryz.prog 136 #[.slice (some ⟨w.heap.size,0,none⟩) 2 2] (w.alloc (.cells #[.int .i64 a,.int .i64 b] 60)) fun e w' =>
  e=.returned (.int .i64 (zam [a,b]))∧w.alloc (.cells #[.int .i64 a,.int .i64 b] 60)=w':=
 zjb _ 2 [a,b] _ (by decide) rfl (by
  intro k hk
  match k,hk with
  | 0,_=>simp
  | 1,_=>simp)
theorem zlz (w:World) (a b c:Int) :
 Calls Tryz.prog 136 #[.slice (some ⟨w.heap.size,0,none⟩) 3 3] (w.alloc (.cells #[.int .i64 a,.int .i64 b,.int .i64 c] 60)) fun e w' =>
  e=.returned (.int .i64 (zam [a,b,c]))∧w.alloc (.cells #[.int .i64 a,.int .i64 b,.int .i64 c] 60)=w':=
 zjb _ 3 [a,b,c] _ (by decide) rfl (by
  intro k hk
  match k,hk with
  | 0,_=>simp
  | 1,_=>simp
  | 2,_=>simp)
theorem bkWithin_any (n lo hi:Int) (w:World) :
 Calls Tryz.prog 145 #[.int .i64 n,.int .i64 lo,.int .i64 hi] w fun e w'=>e=.returned (.bool (zaj n lo hi))∧w=w':=by
 by_cases h1:lo≤n <;> by_cases h2:n≤hi
 all_goals
  go_enter Tryz.func145,Tryz.ntmps145
  go_wp2
  go_ret
  exact ⟨by simp [zaj,h1,h2],rfl⟩
theorem zc2 (n lo hi:Int) (b:Bool) (h:zaj n lo hi=b) (w:World) :
 Calls Tryz.prog 145 #[.int .i64 n,.int .i64 lo,.int .i64 hi] w fun e w'=>e=.returned (.bool b)∧w=w':=by
 rw [← h]
 exact bkWithin_any n lo hi w
theorem zib (b:Bool) (x:Int) (w:World) :
 Calls Tryz.prog 143 #[.bool b,.int .i64 x] w fun e w'=>e=.returned (.int .i64 (zag b x))∧w=w':=by
 cases b
 all_goals
  go_enter Tryz.func143,Tryz.ntmps143
  go_wp2
  go_ret
  exact ⟨by simp [zag],rfl⟩
theorem zjs (g n:Nat) (l:List Int) (w:World) (hn:n≤1000) (hl:l.length=n)
 (h:∀ k,k<n→w.cell? ⟨g,k,none⟩=some (.int .i64 (l[k]?.getD 0))) :
 Calls Tryz.prog 142 #[.slice (some ⟨g,0,none⟩) n n] w fun e w'=>e=.returned (.int .i64 (zam l))∧w=w':=by
 have HL:=Lib.hid hl;clear hl
 go_enter Tryz.func142,Tryz.ntmps142
 go_wp2
 go_loop [4,7] (fun _ i=>∃ k:Nat,k≤n∧i=.int .i64 k∧zam (l.drop k)=zam l) (fun _ i=>n - (intOf i).toNat)
 case atStart=>exact ⟨0,Nat.zero_le _,rfl,rfl⟩
 case round =>
  obtain ⟨k,hk,rfl,he⟩:=hrel
  have HE:=Lib.hid he;clear he
  by_cases hlt:k<n
  · have hc:=h k hlt
    have hs:l.drop k=(l[k]?.getD 0) :: l.drop (k+1):=by
     have:k<l.length:=by rw [HL.out];exact hlt
     rw [List.drop_eq_getElem_cons this];simp [this]
    have HS:=Lib.hid hs;clear hs
    by_cases hz:l[k]?.getD 0=0
    · have hz':(l[k]?.getD 0 != 0)=false:=by simp [hz]
      have HZ:=Lib.hid hz;clear hz
      go_wp2
      go_round
      case rel=>exact ⟨k+1,by omega,by go_num,by rw [← HE.out,HS.out,zam,if_pos HZ.out]⟩
      case measure=>simp [intOf];omega
    · have hz':(l[k]?.getD 0 != 0)=true:=by simp [hz]
      have HZ:=Lib.hid hz;clear hz
      go_wp2
      go_ret
      exact ⟨by rw [← HE.out,HS.out,zam,if_neg HZ.out];rfl,rfl⟩
  · go_wp2
    go_ret
    have:l.drop k=[]:=by rw [List.drop_eq_nil_iff];rw [HL.out];omega
    exact ⟨by rw [← HE.out,this];rfl,rfl⟩
theorem bkFirst2 (w:World) (a b:Int) :
 Calls Tryz.prog 142 #[.slice (some ⟨w.heap.size,0,none⟩) 2 2] (w.alloc (.cells #[.int .i64 a,.int .i64 b] 60)) fun e w' =>
  e=.returned (.int .i64 (zam [a,b]))∧w.alloc (.cells #[.int .i64 a,.int .i64 b] 60)=w':=
 zjs _ 2 [a,b] _ (by decide) rfl (by
  intro k hk
  match k,hk with
  | 0,_=>simp
  | 1,_=>simp)
theorem bkFirst3 (w:World) (a b c:Int) :
 Calls Tryz.prog 142 #[.slice (some ⟨w.heap.size,0,none⟩) 3 3] (w.alloc (.cells #[.int .i64 a,.int .i64 b,.int .i64 c] 60)) fun e w' =>
  e=.returned (.int .i64 (zam [a,b,c]))∧w.alloc (.cells #[.int .i64 a,.int .i64 b,.int .i64 c] 60)=w':=
 zjs _ 3 [a,b,c] _ (by decide) rfl (by
  intro k hk
  match k,hk with
  | 0,_=>simp
  | 1,_=>simp
  | 2,_=>simp)
theorem fdName_any (s:ByteArray) (hs9:s.size≤1000000000) (w:World):Calls Tryz.prog 196 #[.string s] w fun e w'=>e=.returned (.bool (za3 s))∧Below w.heap.size w w':=by
 obtain ⟨tot,htot⟩:∃ t,zbm 0 s.data.toList=t:=⟨_,rfl⟩
 have HVF:Hid (tot=false→za3 s=false):=fun h=>by
  rw [za3,htot,h,Bool.and_false]
 have HV:Hid (za3 s=(decide (1≤s.size) && decide (s.size≤12) && tot)):=by rw [Hid,za3,htot]
 have HTT:=Lib.hid htot
 clear htot
 have kc:=Lib.run_convert_string_bytes (P:=Tryz.prog) w 9 149 5 s Tryz.underlying9 Tryz.underlying149 Tryz.underlying5
 go_enter Tryz.func196,Tryz.ntmps196
 go_wp2
 clear kc
 go_loop [3,4,5,9] (fun _ _ _ i=>∃ k:Nat,k≤s.size∧i=.int .i64 k∧zbm k (s.data.toList.drop k)=tot) (fun _ _ _ i=>s.size - (intOf i).toNat)
 case atStart=>exact ⟨0,Nat.zero_le _,rfl,by rw [List.drop_zero];exact HTT.out⟩
 case round =>
  obtain ⟨k,hk,rfl,he⟩:=hrel
  have HE:=Lib.hid he
  clear he
  by_cases hlt:k<s.size
  · have hkl:k<s.data.toList.length:=by simpa using hlt
    have HD:=Lib.hid (dropB hkl)
    have hcb:(s.data.toList.getD k 0).toNat≤255:=by have:=UInt8.toNat_lt (s.data.toList.getD k 0);omega
    have d0:=Lib.bytesWorld_cell w 5 s k hlt
    have HG:Hid ((okN k (s.data.toList.getD k 0).toNat && zbm (k+1) (s.data.toList.drop (k+1)))=tot):=by
     have:=HE.out
     rw [HD.out,zbm] at this
     exact this
    generalize (s.data.toList.getD k 0).toNat=c at *
    have hlti:(k:Int)<(s.size:Int):=by omega
    clear HE hkl
    have hcs:(c<45)∨(c=45)∨(45<c∧c<48)∨(48≤c∧c≤57)∨(57<c∧c<65)∨(65≤c∧c≤90)∨(90<c∧c<97)∨(97≤c∧c≤122)∨(122<c):=by omega
    rcases hcs with hcc | hcc | hcc | hcc | hcc | hcc | hcc | hcc | hcc <;> by_cases hk0:k=0
    all_goals
     first | have q0:(97:Int)≤(c:Int):=by omega | have q0:¬ (97:Int)≤(c:Int):=by omega
     first | have q1:(c:Int)≤122:=by omega | have q1:¬ (c:Int)≤122:=by omega
     first | have q2:(65:Int)≤(c:Int):=by omega | have q2:¬ (65:Int)≤(c:Int):=by omega
     first | have q3:(c:Int)≤90:=by omega | have q3:¬ (c:Int)≤90:=by omega
     first | have q5:(c:Int)<48:=by omega | have q5:¬ (c:Int)<48:=by omega
     first | have q6:(57:Int)<(c:Int):=by omega | have q6:¬ (57:Int)<(c:Int):=by omega
     first | (have q4:((c:Int) != 45)=false:=by rw [hcc];rfl) | have q4:((c:Int) != 45)=true:=by exact bne_iff_ne.2 (by omega)
     first | have e0:((k:Int) == 0)=false:=beq_eq_false_iff_ne.2 (by omega) | (have e0:((k:Int) == 0)=true:=by rw [hk0];rfl)
     by_cases hok:okN k c=true
     · have HN:Hid (zbm (k+1) (s.data.toList.drop (k+1))=tot):=by
        have:=HG.out
        rw [hok,Bool.true_and] at this
        exact this
       rw [okN] at hok
       simp at hok
       first
        | (exfalso;omega)
        | (clear hok hcc hk0
           go_wp2
           go_round
           case rel=>exact ⟨k+1,by omega,by go_num,HN.out⟩
           case measure=>simp [intOf];omega)
     · have HF:Hid (tot=false):=by
        have:=HG.out
        rw [Bool.eq_false_iff.2 hok,Bool.false_and] at this
        exact this.symm
       rw [okN] at hok
       simp at hok
       first
        | (exfalso;omega)
        | (clear hok hcc hk0
           go_wp2
           go_ret
           exact ⟨by rw [HVF.out HF.out];rfl,Lib.bytesWorld_below _ _ _⟩)
  · obtain rfl:k=s.size:=by omega
    have HT:Hid (tot=true):=by
     have:=HE.out
     rw [List.drop_eq_nil_iff.2 (by simp),zbm] at this
     exact this.symm
    clear HE
    by_cases h0:s.size=0
    · obtain rfl:s=⟨#[]⟩:=by
       cases s with
       | mk d =>
        have:d.size=0:=h0
        rw [Array.eq_empty_of_size_eq_zero this]
      go_wp2
      go_ret
      exact ⟨by rw [HV.out];rfl,Lib.bytesWorld_below _ _ _⟩
    · have hne0:¬ s.toList=[]:=fun h=>h0 (by
       rw [ByteArray.toList_eq] at h
       have:=congrArg List.length h
       simpa using this)
      have hne1:s.toList.isEmpty=false:=by
       rw [Bool.eq_false_iff]
       exact fun h=>hne0 (List.isEmpty_iff.1 h)
      by_cases h12:s.size≤12
      · have h12i:(s.size:Int)≤12:=by omega
        have HV2:Hid (za3 s=true):=by rw [Hid,HV.out,HT.out,decide_eq_true (show 1≤s.size by omega),decide_eq_true h12];rfl
        go_wp2
        go_ret
        exact ⟨by rw [HV2.out];rfl,Lib.bytesWorld_below _ _ _⟩
      · have h12i:¬ (s.size:Int)≤12:=by omega
        have HV2:Hid (za3 s=false):=by rw [Hid,HV.out,decide_eq_false h12,Bool.and_false,Bool.false_and]
        go_wp2
        go_ret
        exact ⟨by rw [HV2.out];rfl,Lib.bytesWorld_below _ _ _⟩
theorem fdNamed_any (w:World) (B:Nat) (A:Option Addr) (n c:Nat) (l:List ByteArray) (s:ByteArray) (hl:l.length=n) (hn:n≤1000000000) (h:Rd w B A (strCells l)) (hs:s.size≤1000000000) :
 Calls Tryz.prog 132 #[.string s,.slice A n c] w (zay w (nmE l s)):=by
 have N:=fun W=>fdName_any s hs W
 have HV:Hid (nmE l s=zam [zag (za3 s) 4,zag (!zcu l s) 5]):=rfl
 go_enter Tryz.func132,Tryz.ntmps132
 go_wp2_with (first | (go_at_call 196;refine (N _).mono ?_;rintro e w1 ⟨rfl,hb1⟩) | (go_at_call 131;refine (zcd _ _ _).mono ?_;rintro e w' ⟨rfl,rfl⟩) | (go_at_call 150;refine (zhd A n c B l s _ hn hl (h.keep hb1)).mono ?_;rintro e w' ⟨rfl,rfl⟩) | (go_at_call 130;refine (zf1 _ _ _).mono ?_;rintro e w' ⟨rfl,rfl⟩))
 go_ret
 exact ⟨by rw [HV.out];rfl,hb1.alloc hb1.size _⟩
theorem zjm (w:World) (B:Nat) (A:Option Addr) (n c:Nat) (l:List ByteArray) (s:ByteArray) (E:Int) (hE:nmE l s=E) (hl:l.length=n) (hn:n≤1000000000) (h:Rd w B A (strCells l)) (hs:s.size≤1000000000) :
 Calls Tryz.prog 132 #[.string s,.slice A n c] w (zay w E):=by
 rw [← hE]
 exact fdNamed_any w B A n c l s hl hn h hs
theorem zjn (n:Int) (m:Nat) (p:Addr) (b:Bool) (w:World) (hm:m≤1000000000) (hp:w.cell? p=some (.int .i64 m)) (hb:zg3 m n=b) :
 Calls Tryz.prog 197 #[.int .i64 n,.pointer (some p)] w fun e w'=>e=.returned (.bool b)∧w=w':=by
 have HB:=Lib.hid hb
 by_cases h1:n=-1
 · subst h1
   have HB2:Hid (b=true):=by rw [Hid,← HB.out];rfl
   clear hb
   go_enter Tryz.func197,Tryz.ntmps197
   go_wp2
   go_ret
   exact ⟨by rw [HB2.out];rfl,rfl⟩
 · have h2:(n == -1)=false:=by simp [h1]
   have HB2:Hid (zaj n 0 ((m:Int) - 1)=b):=by rw [Hid,← HB.out,zg3];simp [h1]
   have WI:=fun W=>zcp n 0 ((m:Int) - 1) b HB2.out W
   clear hb
   go_enter Tryz.func197,Tryz.ntmps197
   go_wp2_with (go_at_call 133;refine (WI _).mono ?_;rintro e w' ⟨rfl,rfl⟩)
   go_ret
   exact ⟨rfl,rfl⟩
theorem fdDep_val (n:Int) (b:Bool) (w:World) (hb:zaj n 0 1000=b) :
 Calls Tryz.prog 198 #[.int .i64 n] w fun e w'=>e=.returned (.bool b)∧w=w':=by
 have WI:=fun W=>zcp n 0 1000 b hb W
 clear hb
 go_enter Tryz.func198,Tryz.ntmps198
 go_wp2_with (go_at_call 133;refine (WI _).mono ?_;rintro e w' ⟨rfl,rfl⟩)
 go_ret
 exact ⟨rfl,rfl⟩
theorem fdSmall_val (n m:Int) (b:Bool) (w:World) (h0:0≤m) (h1:m≤1000000) (hb:zaj n (-m) m=b) :
 Calls Tryz.prog 199 #[.int .i64 n,.int .i64 m] w fun e w'=>e=.returned (.bool b)∧w=w':=by
 have WI:=fun W=>zcp n (-m) m b hb W
 clear hb
 go_enter Tryz.func199,Tryz.ntmps199
 go_wp2_with (go_at_call 133;refine (WI _).mono ?_;rintro e w' ⟨rfl,rfl⟩)
 go_ret
 exact ⟨rfl,rfl⟩
def zkd {α:Type} (w0:World) (f:List α→α→Int) (l:List α) (n:Nat) (V:Int) (u:Value) (wr:World):Prop:=∃ k:Nat,k≤n∧u=.int .i64 k∧za2 f (l.take k) (l.drop k)=V∧Below w0.heap.size w0 wr
theorem zb6 {w:World} (o:Obj) {p:Addr} {v:Value} (h:w.cell? p=some v):(w.alloc o).cell? p=some v:=zat ((Below.refl _ _).alloc (Nat.le_refl _) o) h
theorem zaz {W:World} {r t:Nat} {a0 a1:Value} (h:W.heap[r]?=some (.cells #[a0,a1] t (0,0))):W.cell? ⟨r,0,none⟩=some a0∧W.cell? ⟨r,1,none⟩=some a1:=by
 refine ⟨?_,?_⟩ <;> rw [cell_of_row _ _ _ _ _ _ h] <;> rfl
theorem fdTrain_any (w:World) (B:Nat) (t:TnV) (m:Nat) (hm:m≤1000000000) (h:zcs w B t.s t.steps.length (zc4 t.steps)) (hB:B≤w.heap.size) (hn:t.steps.length≤1000000000) :
 Calls Tryz.prog 135 #[.agg #[.string t.nm,.int .i64 t.e1,.int .i64 t.e2,.slice t.s.A t.s.n t.s.c],.int .i64 m] w (zay w (trE m t)):=by
 obtain ⟨nm,e1,e2,⟨A,n,c⟩,l⟩:=t
 obtain ⟨hl,hr⟩:=h
 simp only at hl hr hn
 rw [hl] at hn
 have HL:=Lib.hid hl
 obtain ⟨c0,c1,c2,c3⟩:_∧_∧_∧_:=zbo (W:=w.alloc (.cells #[.string nm,.int .i64 e1,.int .i64 e2,.slice A n c] 83)) (by rw [zae,if_pos rfl])
 have hb0:=hB1 w (.cells #[.string nm,.int .i64 e1,.int .i64 e2,.slice A n c] 83)
 have hr0:=hr.below (hb0.mono hB)
 have HR:=Lib.hid hr0
 have HB:=Lib.hid hb0
 have hs0:=hb0.size
 obtain ⟨q1,hq1⟩:∃ q,zaj e1 0 1000=q:=⟨_,rfl⟩
 obtain ⟨q2,hq2⟩:∃ q,zaj e2 0 1000=q:=⟨_,rfl⟩
 obtain ⟨E1,hE1⟩:∃ E,zam [zag (q1 && q2) 2,zag (decide (e1≤e2)) 9,zag (decide (0<(n:Int))) 10,zag (decide ((n:Int)≤12)) 8]=E:=⟨_,rfl⟩
 have HE1:=Lib.hid hE1
 have HV:Hid (trE m ⟨nm,e1,e2,⟨A,n,c⟩,l⟩=if E1=0 then za2 (fun _ x=>spE m x) [] l else E1):=by
  rw [Hid,trE,← hE1,← hq1,← hq2]
  simp only [HL.out]
 have D1:=fun W=>fdDep_val e1 q1 W hq1
 have D2:=fun W=>fdDep_val e2 q2 W hq2
 clear hl hr hb0 hr0 hq1 hq2 hE1
 cases q1
 all_goals
  go_enter Tryz.func135,Tryz.ntmps135
  go_upto_region 1 with (fail)
  generalize (w.alloc (.cells #[.string nm,.int .i64 e1,.int .i64 e2,.slice A n c] 83))=w0 at *
  have x0:=fun y:Xt w0=>y.cell c0
  have x1:=fun y:Xt w0=>y.cell c1
  have x2:=fun y:Xt w0=>y.cell c2
  have x3:=fun y:Xt w0=>y.cell c3
  refine zax [] [0,1,2,3,4,5,6,7,8,9,10,11,12,13,14,15,16,17,18,19,20,21,22,23,24] 25 [26,27] (fun w'=>∃ y:Xt w0,w'=y.1) (by as_aux_lemma=>kernel_rfl) (by as_aux_lemma=>kernel_rfl) ⟨⟨w0.drew,(Below.refl _ _).drew⟩,rfl⟩ ?_
  simp only [zad,zac,zaa,zX1,zX2,zX3]
  refine wpQuiet_nil ?_
  show wpQuiet _ _ _ _ _ _
  repeat (go_big_quiet_step (first | (go_at_call_of 198 (Value.int .i64 e1);exact Xt.calls_same (D1 _)) | (go_at_call_of 198 (Value.int .i64 e2);exact Xt.calls_same (D2 _)) | (go_at_call 131;exact Xt.calls_same (zcd _ _ _))))
  refine wpQuiet_nil ?_
  intro w1 hx
  have hb1:=Xt.below hx
  replace c3:=zat hb1 c3
  have HR1:=Lib.hid (HR.out.below (hb1.mono (by omega)))
  have HB1:=Lib.hid (HB.out.trans (hb1.mono hs0))
  have hs1:=Nat.le_trans hs0 hb1.size
  generalize hbw:w.heap.size=bw at *
  have HBW:=Lib.hid hbw
  clear hbw
  clear hx x0 x1 x2 x3 c0 c1 c2 HR HB hs0 hb1
  have HE2:zam _=E1:=HE1.out
  simp only [Bool.true_and,Bool.false_and,Int.natCast_pos] at HE2
  have HE3:=Lib.hid HE2
  clear HE1 HE2
  go_upto_region 2 with (go_at_call 130;refine (fdFirst4 _ _ _ _ _).mono ?_;rintro e w' ⟨he,rfl⟩;rw [HE3.out] at he;subst he)
  refine zab ?_
  have HB2:∀ o,Below bw w (w1.alloc o):=fun o=>HB1.out.alloc (by omega) o
  have C3:∀ o,(w1.alloc o).cell? ⟨bw,3,none⟩=some (.slice A n c):=fun o=>zb6 o c3
  have HR2:∀ o,Rd (w1.alloc o) B A (zc4 l):=fun o=>HR1.out.below (((Below.refl _ _).alloc (Nat.le_refl _) o).mono (by omega))
  have HS2:∀ o,bw+1≤(w1.alloc o).heap.size:=fun o=>by simp;omega
  clear c3
  generalize hw2:w1.alloc _=w2
  have hb2:Below bw w w2:=by rw [← hw2];exact HB2 _
  have c3:w2.cell? ⟨bw,3,none⟩=some (.slice A n c):=by rw [← hw2];exact C3 _
  have hr2:Rd w2 B A (zc4 l):=by rw [← hw2];exact HR2 _
  have hs2:bw+1≤w2.heap.size:=by rw [← hw2];exact HS2 _
  have HB3:=Lib.hid hb2
  have HR3:=Lib.hid hr2
  clear HB2 C3 HR2 HS2 hb2 hr2 hw2 HB1 HR1 hs1
  by_cases hE:E1=0
  · have hE':(E1 != 0)=false:=by simp [hE]
    obtain ⟨V,hV⟩:∃ V,za2 (fun _ x=>spE m x) [] l=V:=⟨_,rfl⟩
    have HV1:Hid (trE m ⟨nm,e1,e2,⟨A,n,c⟩,l⟩=V):=by rw [Hid,HV.out,if_pos hE];exact hV
    have HV2:=Lib.hid hV
    clear hE hV HV
    go_wp2
    go_loopw [42] (fun u wr=>zkd w2 (fun _ x=>spE m x) l n V u wr) (fun u _=>n - (intOf u).toNat)
    case atStart=>exact ⟨0,Nat.zero_le _,rfl,HV2.out,Below.refl _ _⟩
    case round =>
     obtain ⟨k,hk,rfl,hgo,hb⟩:=hrel
     have HGO:=Lib.hid hgo
     have HBK:=Lib.hid hb
     have hr:=HR3.out.below (hb.mono (by omega))
     have hsk:=hb.size
     clear hgo hb c3
     by_cases hlt:k<n
     · have hkl:k<l.length:=by rw [HL.out];exact hlt
       obtain ⟨ev,hev⟩:∃ ev,l[k]?=some ev:=⟨_,List.getElem?_eq_getElem hkl⟩
       obtain ⟨bb,off,rfl,hbB,z0,z1⟩:=Rd.sp hr hev
       have HS:=Lib.hid hev
       obtain ⟨p,q⟩:=ev
       simp only at z0 z1
       obtain ⟨d0,d1⟩:_∧_:=zaz (W:=wr.alloc (.cells #[.int .i64 p,.int .i64 q] 118)) (by rw [zae,if_pos rfl])
       have hba:=hB1 wr (.cells #[.int .i64 p,.int .i64 q] 118)
       have HBA:=Lib.hid (HBK.out.trans (hba.mono hsk))
       have hsa:=Nat.le_trans hsk hba.size
       obtain ⟨b1,hb1⟩:∃ b,zaj p 0 ((m:Int) - 1)=b:=⟨_,rfl⟩
       obtain ⟨b2,hb2⟩:∃ b,zaj q (-20000) 20000=b:=⟨_,rfl⟩
       have W1:=fun W=>zcp p 0 ((m:Int) - 1) b1 hb1 W
       have W2:=fun W=>fdSmall_val q 20000 b2 W (by decide) (by decide) hb2
       obtain ⟨er,her⟩:∃ er,zam [zag b1 6,zag b2 2]=er:=⟨_,rfl⟩
       have HER:Hid (spE m (p,q)=er):=by rw [Hid,spE,← her,← hb1,← hb2]
       have HEF:=Lib.hid her
       clear hba hev hkl hr HBK her hb1 hb2
       go_upto_region 7 with (fail)
       clear z0 z1
       generalize wr.alloc (.cells #[.int .i64 p,.int .i64 q] 118)=wa at *
       generalize wr.heap.size=xb at *
       have x0:=fun y:Xt wa=>y.cell d0
       have x1:=fun y:Xt wa=>y.cell d1
       refine zax [] [0,1,2,3,4,5,6,7,8,9] 10 [11,12] (fun w'=>∃ y:Xt wa,w'=y.1) (by as_aux_lemma=>kernel_rfl) (by as_aux_lemma=>kernel_rfl) ⟨⟨wa.drew,(Below.refl _ _).drew⟩,rfl⟩ ?_
       simp only [zad,zac,zaa,zX1,zX2,zX3]
       refine wpQuiet_nil ?_
       show wpQuiet _ _ _ _ _ _
       repeat (go_big_quiet_step (first | (go_at_call 133;exact Xt.calls_same (W1 _)) | (go_at_call 199;exact Xt.calls_same (W2 _)) | (go_at_call 131;exact Xt.calls_same (zcd _ _ _))))
       refine wpQuiet_nil ?_
       intro wb hx
       have hb3:=Xt.below hx
       clear x0 x1 hx d0 d1 W1 W2
       go_upto_region 8 with (go_at_call 130;refine (zf1 _ _ _).mono ?_;rintro e w' ⟨he,rfl⟩;rw [HEF.out] at he;subst he)
       refine zab ?_
       have HB5:∀ o,Below w2.heap.size w2 (wb.alloc o):=fun o=>(HBA.out.trans (hb3.mono hsa)).alloc (Nat.le_trans hsa hb3.size) o
       generalize hw5:wb.alloc _=w5
       have hb5:Below w2.heap.size w2 w5:=by rw [← hw5];exact HB5 _
       have HB6:=Lib.hid hb5
       clear HB5 hb5 hw5 hb3
       by_cases h0:er=0
       · have h0':(er != 0)=false:=by simp [h0]
         have HN:=Lib.hid (zc1 HS.out HGO.out (HER.out.trans h0))
         clear h0
         go_wp2
         go_roundw
         case rel=>exact ⟨k+1,by omega,by go_num,HN.out,HB6.out⟩
         case measure=>simp [intOf];omega
       · have h0':(er != 0)=true:=by simp [h0]
         have HN:Hid (er=V):=by rw [Hid,← HER.out];exact zb3 (f:=fun _ x=>spE m x) HS.out HGO.out (by rw [HER.out];exact h0)
         clear h0
         go_wp2
         go_ret
         exact ⟨by rw [HV1.out,← HN.out];rfl,by rw [HBW.out];exact HB3.out.trans (HB6.out.mono (by omega))⟩
     · have HN:Hid (V=0):=zb9 (by rw [HL.out];omega) HGO.out
       go_wp2
       go_ret
       exact ⟨by rw [HV1.out,HN.out];rfl,by rw [HBW.out];exact HB3.out.trans (HBK.out.mono (by omega))⟩
  · have hE':(E1 != 0)=true:=by simp [hE]
    have HV1:Hid (trE m ⟨nm,e1,e2,⟨A,n,c⟩,l⟩=E1):=by rw [Hid,HV.out,if_neg hE]
    clear hE
    go_wp2
    go_ret
    exact ⟨by rw [HV1.out];rfl,by rw [HBW.out];exact HB3.out⟩
end Go.Proofs.YtoodbfkbbchjiaaGreatDoor
