import Derived.Test.YtfdmeojcopkaoaaGreatDoorf3B6
set_option maxRecDepth 100000
set_option maxHeartbeats 16000000
namespace Go.Proofs.YtfdmeojcopkaoaaGreatDoor
open Go.RowKit
def hK (n:Nat):HouseV where
 plant:=⟨⟨some ⟨n+1,0,none⟩,3,3⟩,[⟨#[97]⟩,⟨#[98]⟩,⟨#[99]⟩],⟨some ⟨n+2,0,none⟩,2,2⟩,[⟨#[116]⟩,⟨#[117]⟩],⟨some ⟨n+3,0,none⟩,1,1⟩,[(⟨#[119]⟩,0)],⟨some ⟨n+10,0,none⟩,3,3⟩,[⟨⟨#[97,98]⟩,⟨some ⟨n+4,0,none⟩,2,2⟩,[0,1],⟨some ⟨n+5,0,none⟩,1,1⟩,[0]⟩,⟨⟨#[97,99]⟩,⟨some ⟨n+6,0,none⟩,2,2⟩,[0,2],⟨some ⟨n+7,0,none⟩,1,1⟩,[1]⟩,⟨⟨#[98,99]⟩,⟨some ⟨n+8,0,none⟩,2,2⟩,[1,2],⟨some ⟨n+9,0,none⟩,1,1⟩,[-1]⟩]⟩
 net:=⟨⟨some ⟨n+11,0,none⟩,1,1⟩,[(⟨#[115]⟩,3000,false)],⟨some ⟨n+12,0,none⟩,1,1⟩,[⟨0,-1,1000,0⟩],⟨some ⟨n+14,0,none⟩,1,1⟩,[⟨⟨#[116]⟩,0,5,⟨some ⟨n+13,0,none⟩,1,1⟩,[(0,2000)]⟩]⟩
 vanes:=⟨⟨some ⟨n+15,0,none⟩,7,7⟩,[0,0,1,1,1,0,1],3,100,2,1000,5,0,0,true⟩
 tn:=⟨#[116]⟩
 ps:=⟨some ⟨n+16,0,none⟩,4,4⟩
 pcs:=[⟨100,0,10000,false⟩,⟨100,0,8000,true⟩,⟨50,-10,10000,false⟩,⟨200,0,10000,true⟩]
 sys:=⟨100,10,50⟩
 es:=⟨some ⟨n+17,0,none⟩,4,4⟩
 evs:=[⟨#[97]⟩,⟨#[98]⟩,⟨#[99]⟩,⟨#[100]⟩]
 acs:=⟨some ⟨n+18,0,none⟩,4,4⟩
 acts:=[⟨0,0,1,10,20,0⟩,⟨1,1,2,5,-1,0⟩,⟨2,2,3,3,-1,4⟩,⟨3,0,3,30,40,0⟩]
 ms:=⟨some ⟨n+19,0,none⟩,3,3⟩
 masts:=[⟨#[109]⟩,⟨#[110]⟩,⟨#[111]⟩]
 pp:=⟨some ⟨n+20,0,none⟩,2,2⟩
 people:=[(⟨#[97,110,110]⟩,3),(⟨#[98,111,98]⟩,0)]
def zfd (w:World) (l:List Obj):World:=l.foldl (fun w o=>w.alloc o) w
theorem zj6:∀ (l:List Obj) (w:World) (k:Nat),k<w.heap.size→(zfd w l).heap[k]?=w.heap[k]?
 | [],_,_,_=>rfl
 | o :: l,w,k,h=>by
  have:=zj6 l (w.alloc o) k (by simp;omega)
  simp only [zfd,List.foldl_cons] at this ⊢
  rw [this,zae,if_neg (by omega)]
theorem zgt:∀ (l:List Obj) (w:World) (i:Nat) (o:Obj),l[i]?=some o→(zfd w l).heap[w.heap.size+i]?=some o
 | [],_,_,_,h=>by simp at h
 | o :: l,w,0,o',h=>by
  obtain rfl:o=o':=by simpa using h
  have:=zj6 l (w.alloc o) w.heap.size (by simp)
  simp only [zfd,List.foldl_cons,Nat.add_zero] at this ⊢
  rw [this,zae,if_pos rfl]
 | o :: l,w,i+1,o',h=>by
  have:=zgt l (w.alloc o) i o' (by simpa using h)
  simp only [zfd,List.foldl_cons] at this ⊢
  rw [show w.heap.size+(i+1)=(w.alloc o).heap.size+i by simp;omega]
  exact this
theorem zhq:∀ (l:List Obj) (w:World),Below w.heap.size w (zfd w l)
 | [],_=>Below.refl _ _
 | o :: l,w=>((Below.refl w.heap.size w).alloc (Nat.le_refl _) o).trans ((zhq l (w.alloc o)).mono (by simp))
def zdp (n:Nat):List Obj:=[.cells #[.slice none 0 0,.slice none 0 0,.slice none 0 0,.slice none 0 0,.slice none 0 0,.slice none 0 0,.slice none 0 0,.slice none 0 0,.int .i64 0,.int .i64 0,.int .i64 0,.int .i64 0,.int .i64 0,.int .i64 0,.int .i64 0,.bool false,.string ⟨#[]⟩,.slice none 0 0,.int .i64 0,.int .i64 0,.int .i64 0,.slice none 0 0,.slice none 0 0,.slice none 0 0,.slice none 0 0] 45,
 .cells #[.string ⟨#[97]⟩,.string ⟨#[98]⟩,.string ⟨#[99]⟩] 9,
 .cells #[.string ⟨#[116]⟩,.string ⟨#[117]⟩] 9,
 .cells #[.string ⟨#[119]⟩,.int .i64 0] 68,
 .cells #[.int .i64 0,.int .i64 1] 3,
 .cells #[.int .i64 0] 3,
 .cells #[.int .i64 0,.int .i64 2] 3,
 .cells #[.int .i64 1] 3,
 .cells #[.int .i64 1,.int .i64 2] 3,
 .cells #[.int .i64 (-1)] 3,
 .cells #[.string ⟨#[97,98]⟩,.slice (some ⟨n+4,0,none⟩) 2 2,.slice (some ⟨n+5,0,none⟩) 1 1,.string ⟨#[97,99]⟩,.slice (some ⟨n+6,0,none⟩) 2 2,.slice (some ⟨n+7,0,none⟩) 1 1,.string ⟨#[98,99]⟩,.slice (some ⟨n+8,0,none⟩) 2 2,.slice (some ⟨n+9,0,none⟩) 1 1] 70,
 .cells #[.string ⟨#[115]⟩,.int .i64 3000,.bool false] 72,
 .cells #[.int .i64 0,.int .i64 (-1),.int .i64 1000,.int .i64 0] 120,
 .cells #[.int .i64 0,.int .i64 2000] 122,
 .cells #[.string ⟨#[116]⟩,.int .i64 0,.int .i64 5,.slice (some ⟨n+13,0,none⟩) 1 1] 75,
 .cells #[.int .i64 0,.int .i64 0,.int .i64 1,.int .i64 1,.int .i64 1,.int .i64 0,.int .i64 1] 3,
 .cells #[.int .i64 100,.int .i64 0,.int .i64 10000,.bool false,.int .i64 100,.int .i64 0,.int .i64 8000,.bool true,.int .i64 50,.int .i64 (-10),.int .i64 10000,.bool false,.int .i64 200,.int .i64 0,.int .i64 10000,.bool true] 124,
 .cells #[.string ⟨#[97]⟩,.string ⟨#[98]⟩,.string ⟨#[99]⟩,.string ⟨#[100]⟩] 9,
 .cells #[.int .i64 0,.int .i64 0,.int .i64 1,.int .i64 10,.int .i64 20,.int .i64 0,.int .i64 1,.int .i64 1,.int .i64 2,.int .i64 5,.int .i64 (-1),.int .i64 0,.int .i64 2,.int .i64 2,.int .i64 3,.int .i64 3,.int .i64 (-1),.int .i64 4,.int .i64 3,.int .i64 0,.int .i64 3,.int .i64 30,.int .i64 40,.int .i64 0] 126,
 .cells #[.string ⟨#[109]⟩,.string ⟨#[110]⟩,.string ⟨#[111]⟩] 9,
 .cells #[.string ⟨#[97,110,110]⟩,.int .i64 3,.string ⟨#[98,111,98]⟩,.int .i64 0] 77]
theorem houseK_err (n:Nat):zfy (hK n)=(0,0,0):=by kernel_rfl
theorem ze6 (n:Nat):zch (hK n).plant=0:=by kernel_rfl
theorem zbg (n:Nat):HouseS (hK n):=by
 refine ⟨⟨?_,?_,?_,?_⟩,⟨?_,?_,?_⟩,?_,?_,?_,?_,?_,?_,?_⟩ <;> simp [hK] <;> decide
theorem houseK_at (w:World) (n:Nat) (hF:∀ (i:Nat) (o:Obj),0<i→(zdp n)[i]?=some o→w.heap[n+i]?=some o):HouseAt w w.heap.size (hK n):=by
 have F:=fun (i:Nat) (hi:0<i) (cs:Array Value) (t:Nat) (h:(zdp n)[i]?=some (.cells cs t))=>zby (hF i _ hi h)
 refine ⟨⟨⟨rfl,F 1 (by decide) _ _ rfl⟩,⟨rfl,F 2 (by decide) _ _ rfl⟩,⟨rfl,F 3 (by decide) _ _ rfl⟩,⟨rfl,F 10 (by decide) _ _ rfl⟩,?_,?_⟩,⟨⟨rfl,F 11 (by decide) _ _ rfl⟩,⟨rfl,F 12 (by decide) _ _ rfl⟩,⟨rfl,F 14 (by decide) _ _ rfl⟩,?_⟩,⟨rfl,F 15 (by decide) _ _ rfl⟩,⟨rfl,F 16 (by decide) _ _ rfl⟩,⟨rfl,F 17 (by decide) _ _ rfl⟩,⟨rfl,F 18 (by decide) _ _ rfl⟩,⟨rfl,F 19 (by decide) _ _ rfl⟩,⟨rfl,F 20 (by decide) _ _ rfl⟩,?_⟩
 · intro r hr
   simp only [hK,List.mem_cons,List.not_mem_nil,or_false] at hr
   rcases hr with rfl | rfl | rfl
   · exact ⟨⟨rfl,F 4 (by decide) _ _ rfl⟩,⟨rfl,F 5 (by decide) _ _ rfl⟩⟩
   · exact ⟨⟨rfl,F 6 (by decide) _ _ rfl⟩,⟨rfl,F 7 (by decide) _ _ rfl⟩⟩
   · exact ⟨⟨rfl,F 8 (by decide) _ _ rfl⟩,⟨rfl,F 9 (by decide) _ _ rfl⟩⟩
 · refine ⟨Nat.le_refl _,Nat.le_refl _,Nat.le_refl _,Nat.le_refl _,fun r hr=>?_⟩
   simp only [hK,List.mem_cons,List.not_mem_nil,or_false] at hr
   rcases hr with rfl | rfl | rfl <;> exact Nat.le_refl _
 · intro t ht
   simp only [hK,List.mem_cons,List.not_mem_nil,or_false] at ht
   subst ht
   exact ⟨rfl,F 13 (by decide) _ _ rfl⟩
 · exact ⟨Nat.le_refl _,Nat.le_refl _,Nat.le_refl _⟩
theorem zh1 (w:World):Calls Tryz.prog 10 #[] w fun e w'=>e=.returned (.agg (zaq (hK w.heap.size)).toArray)∧HouseAt w' w'.heap.size (hK w.heap.size)∧Below w.heap.size w w':=by
 go_enter Tryz.func10,Tryz.ntmps10
 go_wp2_with (with_reducible refine zat 45 ?_)
 unfold Stp
 refine wpList_store_row rfl 45 _ _ rfl w.heap.size (zaq (hK w.heap.size)).toArray rfl rfl 45 _ (zgt (zdp w.heap.size) w 0 _ rfl) (by kernel_rfl) rfl (by kernel_rfl) ?_
 show wpList Tryz.prog _ _ [] _ ((zfd w (zdp w.heap.size)).setRow w.heap.size (zaq (hK w.heap.size)).toArray)
 have k0:=setRow_heap (zfd w (zdp w.heap.size)) w.heap.size _ (zaq (hK w.heap.size)).toArray 45 (0,0) (zgt (zdp w.heap.size) w 0 _ rfl)
 have hbr:Below w.heap.size w ((zfd w (zdp w.heap.size)).setRow w.heap.size (zaq (hK w.heap.size)).toArray):=below_setRow (zhq _ w) (Nat.le_refl _) _
 have hH:=houseK_at ((zfd w (zdp w.heap.size)).setRow w.heap.size (zaq (hK w.heap.size)).toArray) w.heap.size (fun i o hi ho=>(setRow_other _ _ _ _ (by omega)).trans (zgt _ w i o ho))
 generalize (zfd w (zdp w.heap.size)).setRow w.heap.size (zaq (hK w.heap.size)).toArray=W at *
 go_wp2
 refine bodyPost_ret (v:=.agg (zaq (hK w.heap.size)).toArray) (results_cell_row rfl _ W w.heap.size 45 _ (0,0) _ rfl k0 Tryz.underlying45 rfl (by kernel_rfl)) rfl ⟨rfl,hH,hbr⟩
end Go.Proofs.YtfdmeojcopkaoaaGreatDoor
