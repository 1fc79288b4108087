import Derived.Test.YtfdmeojcopkaoaaGreatDoorf3Y1
set_option maxRecDepth 100000
set_option maxHeartbeats 16000000
namespace Go.Proofs.YtfdmeojcopkaoaaGreatDoor
open Go.RowKit
theorem zdk {W:World} {r t:Nat} {a0 a1 a2 a3 a4 a5 a6 a7 a8:Value} (h:W.heap[r]?=some (.cells #[a0,a1,a2,a3,a4,a5,a6,a7,a8] t (0,0))) :
 W.cell? ⟨r,0,none⟩=some a0∧W.cell? ⟨r,1,none⟩=some a1∧W.cell? ⟨r,2,none⟩=some a2∧W.cell? ⟨r,3,none⟩=some a3∧W.cell? ⟨r,4,none⟩=some a4∧W.cell? ⟨r,5,none⟩=some a5∧W.cell? ⟨r,6,none⟩=some a6∧W.cell? ⟨r,7,none⟩=some a7∧W.cell? ⟨r,8,none⟩=some a8:=by
 refine ⟨?_,?_,?_,?_,?_,?_,?_,?_,?_⟩ <;> rw [cell_of_row _ _ _ _ _ _ h] <;> rfl
theorem windows_val (v:VanV) (hl:v.vanes.length=v.vs.n) (hn:v.vs.n≤1000) (h0:0≤v.window) (h1:v.window≤12) (w:World):Calls Tryz.prog 355 #[.agg (za6 v).toArray] w (zax w (winN v)):=by
 obtain ⟨⟨A,n,c⟩,l,wi,tqo,pe,fi,mo,sl,er,ro⟩:=v
 show Calls Tryz.prog 355 #[.agg #[.slice A n c,.int .i64 wi,.int .i64 tqo,.int .i64 pe,.int .i64 fi,.int .i64 mo,.int .i64 sl,.int .i64 er,.bool ro]] w _
 simp only at hl hn h0 h1
 have HV:Hid (winN ⟨⟨A,n,c⟩,l,wi,tqo,pe,fi,mo,sl,er,ro⟩=if ro=true then (n:Int) else (n:Int) - wi+1):=by rw [Hid,winN];simp only [hl]
 have k0:=hA1 w (.cells #[.slice A n c,.int .i64 wi,.int .i64 tqo,.int .i64 pe,.int .i64 fi,.int .i64 mo,.int .i64 sl,.int .i64 er,.bool ro] 422)
 have hb0:=hB1 w (.cells #[.slice A n c,.int .i64 wi,.int .i64 tqo,.int .i64 pe,.int .i64 fi,.int .i64 mo,.int .i64 sl,.int .i64 er,.bool ro] 422)
 have HB:=Lib.hid hb0
 clear hb0 hl
 go_enter Tryz.func355,Tryz.ntmps355
 go_upto_region 1 with (fail)
 generalize w.alloc (.cells #[.slice A n c,.int .i64 wi,.int .i64 tqo,.int .i64 pe,.int .i64 fi,.int .i64 mo,.int .i64 sl,.int .i64 er,.bool ro] 422)=w0 at *
 generalize hbw:w.heap.size=bw at *
 have HBW:=Lib.hid hbw
 clear hbw
 obtain ⟨c0,c1,c2,c3,c4,c5,c6,c7,c8⟩:_∧_∧_∧_∧_∧_∧_∧_∧_:=zdk k0
 clear k0 c2 c3 c4 c5 c6 c7
 cases ro with
 | true =>
  go_wp2
  go_ret
  exact ⟨by rw [HV.out];rfl,by rw [HBW.out];exact HB.out⟩
 | false =>
  go_wp2
  go_ret
  refine ⟨?_,by rw [HBW.out];exact HB.out⟩
  rw [HV.out]
  go_num
theorem places_val (v:VanV) (x y p q:Int) (hp:x * v.tooth=p) (hq:y * v.tooth=q) (h0:0≤p) (h1:p≤1000000) (h2:0≤q) (h3:q≤1000000) (hf0:0≤v.first) (hf1:v.first≤999000000) (ht0:0≤v.tooth) (ht1:v.tooth≤1000) (w:World) :
 Calls Tryz.prog 308 #[.agg (za6 v).toArray,.int .i64 x,.int .i64 y] w fun e w'=>e=.returned (.agg #[.int .i64 (v.first+p),.int .i64 (v.first+q+v.tooth - 1)])∧Below w.heap.size w w':=by
 obtain ⟨⟨A,n,c⟩,l,wi,tqo,pe,fi,mo,sl,er,ro⟩:=v
 show Calls Tryz.prog 308 #[.agg #[.slice A n c,.int .i64 wi,.int .i64 tqo,.int .i64 pe,.int .i64 fi,.int .i64 mo,.int .i64 sl,.int .i64 er,.bool ro],.int .i64 x,.int .i64 y] w _
 simp only at hp hq hf0 hf1 ht0 ht1 ⊢
 have hb0:=hB2 w (.cells #[.slice A n c,.int .i64 wi,.int .i64 tqo,.int .i64 pe,.int .i64 fi,.int .i64 mo,.int .i64 sl,.int .i64 er,.bool ro] 422) (.cells #[.int .i64 0,.int .i64 0] 188)
 have k0:=hA2a w (.cells #[.slice A n c,.int .i64 wi,.int .i64 tqo,.int .i64 pe,.int .i64 fi,.int .i64 mo,.int .i64 sl,.int .i64 er,.bool ro] 422) (.cells #[.int .i64 0,.int .i64 0] 188)
 have k1:=hA2b w (.cells #[.slice A n c,.int .i64 wi,.int .i64 tqo,.int .i64 pe,.int .i64 fi,.int .i64 mo,.int .i64 sl,.int .i64 er,.bool ro] 422) (.cells #[.int .i64 0,.int .i64 0] 188)
 have HB:=Lib.hid hb0
 clear hb0
 go_enter Tryz.func308,Tryz.ntmps308
 go_upto_region 1 with (fail)
 generalize (w.alloc (.cells #[.slice A n c,.int .i64 wi,.int .i64 tqo,.int .i64 pe,.int .i64 fi,.int .i64 mo,.int .i64 sl,.int .i64 er,.bool ro] 422)).alloc (.cells #[.int .i64 0,.int .i64 0] 188)=w0 at *
 generalize hbw:w.heap.size=bw at *
 have HBW:=Lib.hid hbw
 clear hbw
 obtain ⟨c0,c1,c2,c3,c4,c5,c6,c7,c8⟩:_∧_∧_∧_∧_∧_∧_∧_∧_:=zdk k0
 clear k0 c0 c1 c3 c5 c6 c7 c8
 go_wp2_with (with_reducible refine zat 188 ?_)
 unfold Stp
 refine wpList_store_row rfl 188 _ _ rfl (bw+1) #[.int .i64 (fi+p),.int .i64 (fi+q+tqo - 1)] rfl rfl 188 _ k1 (by kernel_rfl) rfl (by kernel_rfl) ?_
 have kr:=setRow_heap w0 (bw+1) _ #[.int .i64 (fi+p),.int .i64 (fi+q+tqo - 1)] 188 (0,0) k1
 have hbr:Below bw w (w0.setRow (bw+1) #[.int .i64 (fi+p),.int .i64 (fi+q+tqo - 1)]):=below_setRow HB.out (by omega) _
 generalize w0.setRow (bw+1) #[.int .i64 (fi+p),.int .i64 (fi+q+tqo - 1)]=w2 at *
 go_wp2
 refine bodyPost_ret (v:=.agg #[.int .i64 (fi+p),.int .i64 (fi+q+tqo - 1)]) (results_cell_row rfl _ w2 (bw+1) 188 _ (0,0) _ rfl kr Tryz.underlying188 rfl (by kernel_rfl)) rfl ⟨rfl,by rw [HBW.out];exact hbr⟩
theorem zci (s:List Int):(zah (zdx s)).toArray.size=12:=by simp [zah,zdx]
theorem ze5 (l:List Int):(zah l).toArray.all (·.oneCell')=true:=Array.all_eq_true_iff_forall_mem.2 (fun v hv=>zdg l v (by simpa using hv))
theorem seenL_is (s:List Int) (h:s.length≤12):splice (List.replicate 12 (Value.int .i64 0)) 0 (zah s)=zah (zdx s):=by
 unfold splice zdx
 rw [List.take_zero,List.nil_append,zcz,Nat.zero_add]
 apply List.ext_getElem
 · simp [zah];omega
 · intro j h1 h2
   have hj:j<12:=by simpa [zah] using h2
   by_cases e:j<s.length
   · rw [List.getElem_append_left (by simpa [zah] using e)]
     simp [zah,List.getD_eq_getElem?_getD,e]
   · rw [List.getElem_append_right (by simpa [zah] using Nat.le_of_not_lt e)]
     have h9:∀ k (hk:k<(List.replicate 12 (Value.int .i64 0)).length),(List.replicate 12 (Value.int .i64 0))[k]=Value.int .i64 0:=fun k hk=>by rw [List.getElem_replicate]
     rw [List.getElem_drop,h9]
     simp [zah,List.getD_eq_getElem?_getD,List.getElem?_eq_none (Nat.le_of_not_lt e)]
theorem seen_any (v:VanV) (A2:Option Addr) (m c2 B:Nat) (s:List Int) (hs:s.length=m) (hm:m≤12) (w:World) (hr:Rd w B A2 (zah s)) (hB:B≤w.heap.size):Calls Tryz.prog 354 #[.agg (za6 v).toArray,.slice A2 m c2] w fun e w'=>e=.returned (.agg (zah (zdx s)).toArray)∧Below w.heap.size w w':=by
 obtain ⟨⟨A,n,c⟩,l,wi,tqo,pe,fi,mo,sl,er,ro⟩:=v
 show Calls Tryz.prog 354 #[.agg #[.slice A n c,.int .i64 wi,.int .i64 tqo,.int .i64 pe,.int .i64 fi,.int .i64 mo,.int .i64 sl,.int .i64 er,.bool ro],.slice A2 m c2] w _
 have hb0:Below w.heap.size w (((w.alloc (.cells #[.slice A n c,.int .i64 wi,.int .i64 tqo,.int .i64 pe,.int .i64 fi,.int .i64 mo,.int .i64 sl,.int .i64 er,.bool ro] 422)).alloc (.cells #[.int .i64 0,.int .i64 0,.int .i64 0,.int .i64 0,.int .i64 0,.int .i64 0,.int .i64 0,.int .i64 0,.int .i64 0,.int .i64 0,.int .i64 0,.int .i64 0] 459)).alloc (.cells #[.int .i64 0,.int .i64 0,.int .i64 0,.int .i64 0,.int .i64 0,.int .i64 0,.int .i64 0,.int .i64 0,.int .i64 0,.int .i64 0,.int .i64 0,.int .i64 0] 459)):=(((Below.refl _ _).alloc (Nat.le_refl _) _).alloc (by simp) _).alloc (by simp;omega) _
 have k1:(((w.alloc (.cells #[.slice A n c,.int .i64 wi,.int .i64 tqo,.int .i64 pe,.int .i64 fi,.int .i64 mo,.int .i64 sl,.int .i64 er,.bool ro] 422)).alloc (.cells #[.int .i64 0,.int .i64 0,.int .i64 0,.int .i64 0,.int .i64 0,.int .i64 0,.int .i64 0,.int .i64 0,.int .i64 0,.int .i64 0,.int .i64 0,.int .i64 0] 459)).alloc (.cells #[.int .i64 0,.int .i64 0,.int .i64 0,.int .i64 0,.int .i64 0,.int .i64 0,.int .i64 0,.int .i64 0,.int .i64 0,.int .i64 0,.int .i64 0,.int .i64 0] 459)).heap[w.heap.size+1]?=some (.cells #[.int .i64 0,.int .i64 0,.int .i64 0,.int .i64 0,.int .i64 0,.int .i64 0,.int .i64 0,.int .i64 0,.int .i64 0,.int .i64 0,.int .i64 0,.int .i64 0] 459 (0,0)):=by rw [zae,if_neg (by simp),zae,if_pos (by simp)]
 have k2:(((w.alloc (.cells #[.slice A n c,.int .i64 wi,.int .i64 tqo,.int .i64 pe,.int .i64 fi,.int .i64 mo,.int .i64 sl,.int .i64 er,.bool ro] 422)).alloc (.cells #[.int .i64 0,.int .i64 0,.int .i64 0,.int .i64 0,.int .i64 0,.int .i64 0,.int .i64 0,.int .i64 0,.int .i64 0,.int .i64 0,.int .i64 0,.int .i64 0] 459)).alloc (.cells #[.int .i64 0,.int .i64 0,.int .i64 0,.int .i64 0,.int .i64 0,.int .i64 0,.int .i64 0,.int .i64 0,.int .i64 0,.int .i64 0,.int .i64 0,.int .i64 0] 459)).heap[w.heap.size+2]?=some (.cells (List.replicate 12 (.int .i64 0)).toArray 459 (0,0)):=by rw [zae,if_pos (by simp)];rfl
 have hr0:=hr.below (hb0.mono hB)
 have HB:=Lib.hid hb0
 have HS:=Lib.hid hs
 clear hb0 hr hs
 go_enter Tryz.func354,Tryz.ntmps354
 go_upto_region 2 with (fail)
 generalize ((w.alloc (.cells #[.slice A n c,.int .i64 wi,.int .i64 tqo,.int .i64 pe,.int .i64 fi,.int .i64 mo,.int .i64 sl,.int .i64 er,.bool ro] 422)).alloc (.cells #[.int .i64 0,.int .i64 0,.int .i64 0,.int .i64 0,.int .i64 0,.int .i64 0,.int .i64 0,.int .i64 0,.int .i64 0,.int .i64 0,.int .i64 0,.int .i64 0] 459)).alloc (.cells #[.int .i64 0,.int .i64 0,.int .i64 0,.int .i64 0,.int .i64 0,.int .i64 0,.int .i64 0,.int .i64 0,.int .i64 0,.int .i64 0,.int .i64 0,.int .i64 0] 459)=w0 at *
 generalize hbw:w.heap.size=bw at *
 have HBW:=Lib.hid hbw
 clear hbw
 go_wp2_with (with_reducible refine stp_copy ?_)
 unfold Stp
 have hs3:(Tryz.prog.info? 3).map (·.size)=some 1:=by kernel_rfl
 refine wpList_copy_splice rfl (.tmp 6) (.tmp 7) 32 32 rfl 3 Tryz.underlying32 hs3 (some ⟨bw+1+1,0,none⟩) A2 12 12 m c2 ?d1 ?d2 (bw+1+1) 0 (List.replicate 12 (.int .i64 0)) 459 k2 (zah s) ?p1 ?p2 ?p3 (zdg s) (bw+2) w0 (Below.refl _ _) (by omega) ?_
 case d1=>rfl
 case d2=>rfl
 case p1=>rw [zcz,HS.out];exact (Nat.min_eq_left hm).symm
 case p2 =>
  intro hpos
  refine ⟨rfl,?_⟩
  obtain ⟨sb,so,rfl,_,_⟩:=hr0.at_ (k:=0) (u:=(zah s)[0]) (List.getElem?_eq_getElem hpos)
  refine ⟨_,rfl,fun j u hj=>?_⟩
  obtain ⟨sb',so',he,_,hc⟩:=hr0 j u hj
  cases he
  by_cases e0:j=0
  · subst e0;simpa [Addr.add] using hc
  · simpa [Addr.add,e0] using hc
 case p3=>rw [zcz,HS.out,List.length_replicate];omega
 intro w1 h2 hb1
 have e2:(splice (List.replicate 12 (Value.int .i64 0)) 0 (zah s)).toArray=(zah (zdx s)).toArray:=by rw [seenL_is s (by rw [HS.out];exact hm)]
 have h3:=h2.out
 rw [e2] at h3
 have k1r:=(hb1.block (bw+1) (by omega)).trans k1
 have HB1:=Lib.hid (HB.out.trans (hb1.mono (by omega)))
 clear h2 hb1 e2 k1 k2 hr0
 go_wp2_with (with_reducible refine zaz 459 ?_)
 unfold Stp
 refine wpList_load_row rfl 459 _ rfl (bw+1+1) rfl 459 _ (0,0) _ h3 Tryz.underlying459 rfl (by rw [zci];kernel_rfl) ?_
 go_wp2_with (with_reducible refine zat 459 ?_)
 unfold Stp
 refine wpList_store_row rfl 459 _ _ rfl (bw+1) (zah (zdx s)).toArray rfl rfl 459 _ k1r (by rw [zci];kernel_rfl) (by rw [zci];rfl) (ze5 _) ?_
 have kr:=setRow_heap w1 (bw+1) _ (zah (zdx s)).toArray 459 (0,0) k1r
 have hbr:Below bw w (w1.setRow (bw+1) (zah (zdx s)).toArray):=below_setRow HB1.out (by omega) _
 generalize w1.setRow (bw+1) (zah (zdx s)).toArray=w2 at *
 go_wp2
 refine bodyPost_ret (v:=.agg (zah (zdx s)).toArray) (results_cell_row rfl _ w2 (bw+1) 459 _ (0,0) _ rfl kr Tryz.underlying459 rfl (by rw [zci];kernel_rfl)) rfl ⟨rfl,by rw [HBW.out];exact hbr⟩
end Go.Proofs.YtfdmeojcopkaoaaGreatDoor
namespace Go.Proofs.YtfdmeojcopkaoaaGreatDoor
open Go.RowKit
def zkd (l:List Int) (i k:Nat):List Int:=(List.range 12).map fun j=>if j<k then l.getD ((i+j) % l.length) 0 else 0
theorem winK_len (l:List Int) (i k:Nat):(zkd l i k).length=12:=by simp [zkd]
theorem winK_zero (l:List Int) (i:Nat):zkd l i 0=List.replicate 12 0:=by simp [zkd,List.range,List.range.loop,List.replicate]
theorem winK_succ (l:List Int) (i k:Nat) (_:k<12):((zah (zkd l i k)).toArray.setIfInBounds k (.int .i64 (l.getD ((i+k) % l.length) 0)))=(zah (zkd l i (k+1))).toArray:=by
 apply Array.ext
 · simp [zah,zkd]
 · intro j h1 h2
   have hj:j<12:=by simpa [zah,zkd] using h2
   rw [Array.getElem_setIfInBounds (by simpa [zah,zkd] using hj)]
   simp only [zah,zkd,List.getElem_toArray,List.getElem_map,List.getElem_range]
   by_cases e:k=j
   · subst e
     simp
   · rw [if_neg e]
     have:(j<k+1)=(j<k):=by apply propext;omega
     simp [this]
theorem winL_is (v:VanV) (i m:Nat) (h:v.window=m):winL v i=zkd v.vanes i m:=by
 unfold winL zkd
 rw [h]
 congr 1
 funext k
 simp
theorem winK_at (l:List Int) (i k:Nat) (hk:k<12):(zah (zkd l i k)).toArray[k]?=some (.int .i64 0):=by simp [zah,zkd,hk]
def AtRel (w0:World) (bw:Nat) (l:List Int) (i m:Nat) (u10:Value) (wr:World):Prop:=∃ k:Nat,k≤m∧u10=.int .i64 k∧wr.heap[bw+2]?=some (.cells (zah (zkd l i k)).toArray 459 (0,0))∧Below (bw+2) w0 wr
theorem at_any (v:VanV) (B i m:Nat) (hm:v.window=m) (hm12:m≤12) (hi:i≤1000) (hl0:0<v.vanes.length) (hl1:v.vanes.length≤1000) (w:World) (h:zcs w B v.vs v.vanes.length (zah v.vanes)) (hB:B≤w.heap.size):Calls Tryz.prog 356 #[.agg (za6 v).toArray,.int .i64 (i:Int)] w fun e w'=>e=.returned (.agg (zah (winL v i)).toArray)∧Below w.heap.size w w':=by
 rw [winL_is v i m hm]
 obtain ⟨⟨A,n,c⟩,l,wi,tqo,pe,fi,mo,sl,er,ro⟩:=v
 show Calls Tryz.prog 356 #[.agg #[.slice A n c,.int .i64 wi,.int .i64 tqo,.int .i64 pe,.int .i64 fi,.int .i64 mo,.int .i64 sl,.int .i64 er,.bool ro],.int .i64 (i:Int)] w _
 simp only at hm hl0 hl1 h ⊢
 subst hm
 obtain ⟨hln,hr⟩:=h
 simp only at hln hr
 subst hln
 have hb0:Below w.heap.size w (((w.alloc (.cells #[.slice A l.length c,.int .i64 m,.int .i64 tqo,.int .i64 pe,.int .i64 fi,.int .i64 mo,.int .i64 sl,.int .i64 er,.bool ro] 422)).alloc (.cells #[.int .i64 0,.int .i64 0,.int .i64 0,.int .i64 0,.int .i64 0,.int .i64 0,.int .i64 0,.int .i64 0,.int .i64 0,.int .i64 0,.int .i64 0,.int .i64 0] 459)).alloc (.cells #[.int .i64 0,.int .i64 0,.int .i64 0,.int .i64 0,.int .i64 0,.int .i64 0,.int .i64 0,.int .i64 0,.int .i64 0,.int .i64 0,.int .i64 0,.int .i64 0] 459)):=(((Below.refl _ _).alloc (Nat.le_refl _) _).alloc (by simp) _).alloc (by simp;omega) _
 have k0:(((w.alloc (.cells #[.slice A l.length c,.int .i64 m,.int .i64 tqo,.int .i64 pe,.int .i64 fi,.int .i64 mo,.int .i64 sl,.int .i64 er,.bool ro] 422)).alloc (.cells #[.int .i64 0,.int .i64 0,.int .i64 0,.int .i64 0,.int .i64 0,.int .i64 0,.int .i64 0,.int .i64 0,.int .i64 0,.int .i64 0,.int .i64 0,.int .i64 0] 459)).alloc (.cells #[.int .i64 0,.int .i64 0,.int .i64 0,.int .i64 0,.int .i64 0,.int .i64 0,.int .i64 0,.int .i64 0,.int .i64 0,.int .i64 0,.int .i64 0,.int .i64 0] 459)).heap[w.heap.size]?=some (.cells #[.slice A l.length c,.int .i64 m,.int .i64 tqo,.int .i64 pe,.int .i64 fi,.int .i64 mo,.int .i64 sl,.int .i64 er,.bool ro] 422 (0,0)):=by rw [zae,if_neg (by simp;omega),zae,if_neg (by simp),zae,if_pos rfl]
 have k1:(((w.alloc (.cells #[.slice A l.length c,.int .i64 m,.int .i64 tqo,.int .i64 pe,.int .i64 fi,.int .i64 mo,.int .i64 sl,.int .i64 er,.bool ro] 422)).alloc (.cells #[.int .i64 0,.int .i64 0,.int .i64 0,.int .i64 0,.int .i64 0,.int .i64 0,.int .i64 0,.int .i64 0,.int .i64 0,.int .i64 0,.int .i64 0,.int .i64 0] 459)).alloc (.cells #[.int .i64 0,.int .i64 0,.int .i64 0,.int .i64 0,.int .i64 0,.int .i64 0,.int .i64 0,.int .i64 0,.int .i64 0,.int .i64 0,.int .i64 0,.int .i64 0] 459)).heap[w.heap.size+1]?=some (.cells #[.int .i64 0,.int .i64 0,.int .i64 0,.int .i64 0,.int .i64 0,.int .i64 0,.int .i64 0,.int .i64 0,.int .i64 0,.int .i64 0,.int .i64 0,.int .i64 0] 459 (0,0)):=by rw [zae,if_neg (by simp),zae,if_pos (by simp)]
 have k2:(((w.alloc (.cells #[.slice A l.length c,.int .i64 m,.int .i64 tqo,.int .i64 pe,.int .i64 fi,.int .i64 mo,.int .i64 sl,.int .i64 er,.bool ro] 422)).alloc (.cells #[.int .i64 0,.int .i64 0,.int .i64 0,.int .i64 0,.int .i64 0,.int .i64 0,.int .i64 0,.int .i64 0,.int .i64 0,.int .i64 0,.int .i64 0,.int .i64 0] 459)).alloc (.cells #[.int .i64 0,.int .i64 0,.int .i64 0,.int .i64 0,.int .i64 0,.int .i64 0,.int .i64 0,.int .i64 0,.int .i64 0,.int .i64 0,.int .i64 0,.int .i64 0] 459)).heap[w.heap.size+2]?=some (.cells (zah (zkd l i 0)).toArray 459 (0,0)):=by rw [zae,if_pos (by simp),winK_zero];rfl
 have hs0:w.heap.size+3≤(((w.alloc (.cells #[.slice A l.length c,.int .i64 m,.int .i64 tqo,.int .i64 pe,.int .i64 fi,.int .i64 mo,.int .i64 sl,.int .i64 er,.bool ro] 422)).alloc (.cells #[.int .i64 0,.int .i64 0,.int .i64 0,.int .i64 0,.int .i64 0,.int .i64 0,.int .i64 0,.int .i64 0,.int .i64 0,.int .i64 0,.int .i64 0,.int .i64 0] 459)).alloc (.cells #[.int .i64 0,.int .i64 0,.int .i64 0,.int .i64 0,.int .i64 0,.int .i64 0,.int .i64 0,.int .i64 0,.int .i64 0,.int .i64 0,.int .i64 0,.int .i64 0] 459)).heap.size:=by simp
 have hr0:=hr.below (hb0.mono hB)
 have HB:=Lib.hid hb0
 clear hb0 hr
 go_enter Tryz.func356,Tryz.ntmps356
 go_upto_region 2 with (fail)
 generalize ((w.alloc (.cells #[.slice A l.length c,.int .i64 m,.int .i64 tqo,.int .i64 pe,.int .i64 fi,.int .i64 mo,.int .i64 sl,.int .i64 er,.bool ro] 422)).alloc (.cells #[.int .i64 0,.int .i64 0,.int .i64 0,.int .i64 0,.int .i64 0,.int .i64 0,.int .i64 0,.int .i64 0,.int .i64 0,.int .i64 0,.int .i64 0,.int .i64 0] 459)).alloc (.cells #[.int .i64 0,.int .i64 0,.int .i64 0,.int .i64 0,.int .i64 0,.int .i64 0,.int .i64 0,.int .i64 0,.int .i64 0,.int .i64 0,.int .i64 0,.int .i64 0] 459)=w0 at *
 generalize hbw:w.heap.size=bw at *
 have HBW:=Lib.hid hbw
 clear hbw
 obtain ⟨c0,c1,_,_,_,_,_,_,_⟩:_∧_∧_∧_∧_∧_∧_∧_∧_:=zdk k0
 go_wp2
 go_loopw [10] (fun u10 wr=>AtRel w0 bw l i m u10 wr) (fun u10 _=>m - (intOf u10).toNat)
 case atStart=>exact ⟨0,Nat.zero_le _,rfl,k2,Below.refl _ _⟩
 case round =>
  obtain ⟨k,hk,rfl,h2,hb⟩:=hrel
  have HBR:=Lib.hid hb
  have hsr:=Nat.le_trans hs0 hb.size
  have kr:=(hb.block (bw+1) (by omega)).trans k1
  by_cases hlt:k<m
  · have hmod:(i+k) % l.length<l.length:=Nat.mod_lt _ hl0
    obtain ⟨vb,vo,rfl,hvb,z0⟩:=(hr0.below (hb.mono (by omega))).at_ (k:=(i+k) % l.length) (u:=.int .i64 (l.getD ((i+k) % l.length) 0)) (by simp only [zah,List.getElem?_map,List.getElem?_eq_getElem hmod,Option.map_some,List.getD_eq_getElem?_getD,Option.getD_some])
    obtain ⟨r,hr⟩:∃ r,(i+k) % l.length=r:=⟨_,rfl⟩
    rw [hr] at hmod z0
    have y0:=keptB hb (show bw<bw+2 by omega) c0
    have HN:=Lib.hid (winK_succ l i k (by omega))
    rw [hr] at HN
    generalize l.getD r 0=x at *
    have hmd:((i:Int)+(k:Int)).tmod (l.length:Int)=(r:Int):=by rw [← hr,← Int.natCast_add];exact (Int.ofNat_tmod _ _).symm
    clear hr
    generalize hln:l.length=n at *
    have HLN:=Lib.hid hln
    clear hln c0 c1 k0 k1 k2 hr0
    go_upto_region 5 with (fail)
    have x0:=fun y:Xt wr=>y.cell y0
    have x1:=fun y:Xt wr=>y.cell z0
    refine zaj [15] (fun w'=>∃ y:Xt wr,w'=y.1) (by kernel_rfl) ⟨⟨wr.drew,(Below.refl _ _).drew⟩,rfl⟩ ?_
    refine zao [0,1,2,3,4,5,6,7,8,9,10,11,12,13,14] 1 rfl (by kernel_rfl) ?_
    simp only [zad,zac,zaa,zX1,zX2,zX3]
    repeat (go_big_quiet_step (fail))
    refine wpQuiet_nil ?_
    have hbd:Below wr.heap.size wr wr.drew:=(Below.refl _ _).drew
    show wpE _ _ _ _ _ _ _ _ _ wr.drew
    generalize wr.drew=we at *
    clear x0 x1
    have h2e:=(hbd.block _ (lt_of_block h2)).trans h2
    have y2:=frozen_of_row we (bw+2) k _ _ h2e
    have y3:=(cell_of_row we (bw+2) k _ _ _ h2e).trans (winK_at l i k (by omega))
    have HK9:=Lib.hid ((zdw h2e k (.int .i64 x)).trans (by rw [HN.out]))
    have HB9:=Lib.hid ((HBR.out.trans (hbd.mono (by omega))).setCell (p:=⟨bw+2,k,none⟩) (Nat.le_refl _) (.int .i64 x))
    clear h2 h2e y0 z0 hmd hbd kr hb
    refine zau rfl (by kernel_rfl) ?_
    simp only [zad,zac,zaa,zX1,zX2,zX3]
    go_wp2
    refine zab ?_
    go_wp2
    go_roundw
    case rel=>exact ⟨k+1,hlt,by go_num,HK9.out,HB9.out⟩
    case measure=>simp [intOf];omega
  · obtain rfl:k=m:=by omega
    clear c0 c1 k0 k1 k2 hr0 hb
    have HL:=Lib.hid (winK_len l i k)
    have hsz:(zah (zkd l i k)).toArray.size=12:=by simp [zah,HL.out]
    have hca:=ze5 (zkd l i k)
    generalize hcae:(zah (zkd l i k)).toArray=ca at *
    have HCA:=Lib.hid hcae
    clear hcae
    go_wp2_with (with_reducible refine zaz 459 ?_)
    unfold Stp
    refine wpList_load_row rfl 459 _ rfl (bw+1+1) rfl 459 _ (0,0) _ h2 Tryz.underlying459 rfl (by rw [hsz];kernel_rfl) ?_
    go_wp2_with (with_reducible refine zat 459 ?_)
    unfold Stp
    refine wpList_store_row rfl 459 _ _ rfl (bw+1) ca rfl rfl 459 _ kr (by rw [hsz];kernel_rfl) (by rw [hsz];rfl) hca ?_
    have k9:=setRow_heap wr (bw+1) _ ca 459 (0,0) kr
    have hbr:Below bw w (wr.setRow (bw+1) ca):=below_setRow (HB.out.trans (HBR.out.mono (by omega))) (by omega) _
    generalize wr.setRow (bw+1) ca=w2 at *
    go_wp2
    refine bodyPost_ret (v:=.agg ca) (results_cell_row rfl _ w2 (bw+1) 459 _ (0,0) _ rfl k9 Tryz.underlying459 rfl (by rw [hsz];kernel_rfl)) rfl ⟨by rw [HCA.out],by rw [HBW.out];exact hbr⟩
end Go.Proofs.YtfdmeojcopkaoaaGreatDoor
namespace Go.Proofs.YtfdmeojcopkaoaaGreatDoor
open Go.RowKit
theorem loOpen_any (w:World) (B:Nat) (v:VanV) (h:zcs w B v.vs v.vanes.length (zah v.vanes)) (hB:B≤w.heap.size) (hn:v.vanes.length≤1000) :
 Calls Tryz.prog 351 #[.agg (za6 v).toArray] w fun e w'=>e=.returned (.tuple #[.agg (za6 v).toArray,.int .i64 (zja v)])∧Below w.heap.size w w':=by
 have hb0:∀ a b,Below w.heap.size w ((w.alloc a).alloc b):=fun a b=>((Below.refl _ _).alloc (Nat.le_refl _) _).alloc (by simp) _
 have CT:=fun a b=>zik ((w.alloc a).alloc b) B v (h.below ((hb0 a b).mono hB)) (Nat.le_trans hB (hb0 a b).size) hn
 obtain ⟨⟨A,n,c⟩,l,wi,tqo,pe,fi,mo,sl,er,ro⟩:=v
 show Calls Tryz.prog 351 #[.agg #[.slice A n c,.int .i64 wi,.int .i64 tqo,.int .i64 pe,.int .i64 fi,.int .i64 mo,.int .i64 sl,.int .i64 er,.bool ro]] w _
 generalize zja ⟨⟨A,n,c⟩,l,wi,tqo,pe,fi,mo,sl,er,ro⟩=E at *
 change ∀ a b,Calls Tryz.prog 18 #[.agg #[.slice A n c,.int .i64 wi,.int .i64 tqo,.int .i64 pe,.int .i64 fi,.int .i64 mo,.int .i64 sl,.int .i64 er,.bool ro]] _ _ at CT
 have k0:=hA2a w (.cells #[.slice A n c,.int .i64 wi,.int .i64 tqo,.int .i64 pe,.int .i64 fi,.int .i64 mo,.int .i64 sl,.int .i64 er,.bool ro] 34) (.cells #[.slice none 0 0,.int .i64 0,.int .i64 0,.int .i64 0,.int .i64 0,.int .i64 0,.int .i64 0,.int .i64 0,.bool false] 422)
 have k1:=hA2b w (.cells #[.slice A n c,.int .i64 wi,.int .i64 tqo,.int .i64 pe,.int .i64 fi,.int .i64 mo,.int .i64 sl,.int .i64 er,.bool ro] 34) (.cells #[.slice none 0 0,.int .i64 0,.int .i64 0,.int .i64 0,.int .i64 0,.int .i64 0,.int .i64 0,.int .i64 0,.bool false] 422)
 have HB:=Lib.hid (hb0 (.cells #[.slice A n c,.int .i64 wi,.int .i64 tqo,.int .i64 pe,.int .i64 fi,.int .i64 mo,.int .i64 sl,.int .i64 er,.bool ro] 34) (.cells #[.slice none 0 0,.int .i64 0,.int .i64 0,.int .i64 0,.int .i64 0,.int .i64 0,.int .i64 0,.int .i64 0,.bool false] 422))
 replace CT:=CT (.cells #[.slice A n c,.int .i64 wi,.int .i64 tqo,.int .i64 pe,.int .i64 fi,.int .i64 mo,.int .i64 sl,.int .i64 er,.bool ro] 34) (.cells #[.slice none 0 0,.int .i64 0,.int .i64 0,.int .i64 0,.int .i64 0,.int .i64 0,.int .i64 0,.int .i64 0,.bool false] 422)
 have hs0:=hS2 w (.cells #[.slice A n c,.int .i64 wi,.int .i64 tqo,.int .i64 pe,.int .i64 fi,.int .i64 mo,.int .i64 sl,.int .i64 er,.bool ro] 34) (.cells #[.slice none 0 0,.int .i64 0,.int .i64 0,.int .i64 0,.int .i64 0,.int .i64 0,.int .i64 0,.int .i64 0,.bool false] 422)
 clear hb0 h hB hn
 show Calls Tryz.prog 351 #[.agg #[.slice A n c,.int .i64 wi,.int .i64 tqo,.int .i64 pe,.int .i64 fi,.int .i64 mo,.int .i64 sl,.int .i64 er,.bool ro]] w fun e w'=>e=.returned (.tuple #[.agg #[.slice A n c,.int .i64 wi,.int .i64 tqo,.int .i64 pe,.int .i64 fi,.int .i64 mo,.int .i64 sl,.int .i64 er,.bool ro],.int .i64 E])∧Below w.heap.size w w'
 go_enter Tryz.func351,Tryz.ntmps351
 go_upto_region 1 with (fail)
 generalize (w.alloc (.cells #[.slice A n c,.int .i64 wi,.int .i64 tqo,.int .i64 pe,.int .i64 fi,.int .i64 mo,.int .i64 sl,.int .i64 er,.bool ro] 34)).alloc (.cells #[.slice none 0 0,.int .i64 0,.int .i64 0,.int .i64 0,.int .i64 0,.int .i64 0,.int .i64 0,.int .i64 0,.bool false] 422)=w0 at *
 generalize hbw:w.heap.size=bw at *
 have HBW:=Lib.hid hbw
 clear hbw
 go_wp2_with (with_reducible refine zaz 34 ?_)
 unfold Stp
 refine wpList_load_row rfl 34 _ rfl bw rfl 34 _ (0,0) _ k0 Tryz.underlying34 rfl (by kernel_rfl) ?_
 go_wp2_with (first | (go_at_call 18;refine CT.mono ?_;rintro e w1 ⟨i,rfl,hb1⟩) | (with_reducible refine zaz 34 ?_))
 unfold Stp
 refine wpList_load_row rfl 34 _ rfl bw rfl 34 _ (0,0) _ (blk hb1 k0) Tryz.underlying34 rfl (by kernel_rfl) ?_
 go_wp2_with (with_reducible refine zat 422 ?_)
 unfold Stp
 refine wpList_store_row rfl 422 _ _ rfl (bw+1) #[.slice A n c,.int .i64 wi,.int .i64 tqo,.int .i64 pe,.int .i64 fi,.int .i64 mo,.int .i64 sl,.int .i64 er,.bool ro] rfl rfl 422 _ (blk hb1 k1) (by kernel_rfl) rfl (by kernel_rfl) ?_
 have kr:=setRow_heap w1 (bw+1) _ #[.slice A n c,.int .i64 wi,.int .i64 tqo,.int .i64 pe,.int .i64 fi,.int .i64 mo,.int .i64 sl,.int .i64 er,.bool ro] 422 (0,0) (blk hb1 k1)
 have hbr:Below bw w (w1.setRow (bw+1) #[.slice A n c,.int .i64 wi,.int .i64 tqo,.int .i64 pe,.int .i64 fi,.int .i64 mo,.int .i64 sl,.int .i64 er,.bool ro]):=below_setRow (HB.out.trans (hb1.mono (by omega))) (by omega) _
 generalize w1.setRow (bw+1) #[.slice A n c,.int .i64 wi,.int .i64 tqo,.int .i64 pe,.int .i64 fi,.int .i64 mo,.int .i64 sl,.int .i64 er,.bool ro]=w2 at *
 go_wp2
 obtain ⟨c0,c1,c2,c3,c4,c5,c6,c7,c8⟩:_∧_∧_∧_∧_∧_∧_∧_∧_:=zdk kr
 refine bodyPost_ret (v:=.tuple #[.agg #[.slice A n c,.int .i64 wi,.int .i64 tqo,.int .i64 pe,.int .i64 fi,.int .i64 mo,.int .i64 sl,.int .i64 er,.bool ro],.int .i64 E]) (by simp [results,Tryz.results351,go_sem,c0,c1,c2,c3,c4,c5,c6,c7,c8]) rfl ⟨rfl,by rw [HBW.out];exact hbr⟩
end Go.Proofs.YtfdmeojcopkaoaaGreatDoor
namespace Go.Proofs.YtfdmeojcopkaoaaGreatDoor
open Go.RowKit
theorem zla (A:Option Addr) (n c B:Nat) (l:List Int) (w:World) (hn:n≤1000000000) (hl:l.length=n) (h:Rd w B A (zah l)) :
 Calls Tryz.prog 76 #[.slice A n c,.func (.func 352) #[] #[]] w fun e w'=>e=.returned (.int .i64 (za0 (fun x=>!zh6 x) l 0))∧w=w':=by
 have HL:=Lib.hid hl;clear hl
 go_enter Tryz.func76,Tryz.ntmps76
 go_wp2
 go_loop [5,8] (fun _ i=>∃ k:Nat,k≤n∧i=.int .i64 k∧za0 (fun x=>!zh6 x) (l.drop k) k=za0 (fun x=>!zh6 x) l 0) (fun _ i=>n - (intOf i).toNat)
 case atStart=>exact ⟨0,Nat.zero_le _,rfl,rfl⟩
 case round =>
  obtain ⟨k,hk,rfl,he⟩:=hrel
  have HE:=Lib.hid he;clear he
  by_cases hlt:k<n
  · have hkl:k<l.length:=by rw [HL.out];exact hlt
    obtain ⟨b,off,rfl,_,hc⟩:=h.at_ (k:=k) (u:=.int .i64 (l[k]?.getD 0)) (by simp [zah,hkl])
    have HS:=Lib.hid (zfa l 0 k hkl)
    clear hkl
    generalize l[k]?.getD 0=x at *
    cases hx:zh6 x with
    | false =>
     have HX:=Lib.hid hx
     have I:=fun W=>zig x false hx W
     clear hx
     go_wp2_with (go_at_call 352;refine (I _).mono ?_;rintro e w' ⟨rfl,rfl⟩)
     go_ret
     exact ⟨by rw [← HE.out,HS.out,za0,HX.out];rfl,rfl⟩
    | true =>
     have HX:=Lib.hid hx
     have I:=fun W=>zig x true hx W
     clear hx
     go_wp2_with (go_at_call 352;refine (I _).mono ?_;rintro e w' ⟨rfl,rfl⟩)
     go_round
     case rel=>exact ⟨k+1,by omega,by go_num,by rw [← HE.out,HS.out,za0,HX.out];rfl⟩
     case measure=>simp [intOf];omega
  · go_wp2
    go_ret
    have:l.drop k=[]:=by rw [List.drop_eq_nil_iff];rw [HL.out];omega
    exact ⟨by rw [← HE.out,this];rfl,rfl⟩
theorem zhu (A:Option Addr) (n c B:Nat) (l:List Int) (b:Bool) (hb:l.all zh6=b) (w:World) (hn:n≤1000000000) (hl:l.length=n) (h:Rd w B A (zah l)) :
 Calls Tryz.prog 209 #[.slice A n c,.func (.func 352) #[] #[]] w fun e w'=>e=.returned (.bool (!b))∧w=w':=by
 have HV:Hid (decide (0≤za0 (fun x=>!zh6 x) l 0)=!b):=by rw [Hid,zbv,← hb,List.not_all_eq_any_not]
 have IX:=zla A n c B l w hn hl h
 clear hb h
 generalize za0 (fun x=>!zh6 x) l 0=ix at *
 go_enter Tryz.func209,Tryz.ntmps209
 go_wp2_with (go_at_call 76;refine IX.mono ?_;rintro e w9 ⟨rfl,rfl⟩)
 go_ret
 exact ⟨by rw [← HV.out];rfl,rfl⟩
def zg5 (v:VanV) (s:List Int):Int:=zam [zja v,zaf (decide ((s.length:Int)=v.window)) 10,zaf (s.all zh6) 15]
theorem openSeen_any (w:World) (B:Nat) (v:VanV) (A2:Option Addr) (m c2:Nat) (s:List Int) (h:zcs w B v.vs v.vanes.length (zah v.vanes)) (hB:B≤w.heap.size) (hn:v.vanes.length≤1000) (hs:s.length=m) (hm:m≤1000) (hr:Rd w w.heap.size A2 (zah s)) :
 Calls Tryz.prog 306 #[.agg (za6 v).toArray,.slice A2 m c2] w fun e w'=>e=.returned (.tuple #[.agg (za6 v).toArray,.int .i64 (zg5 v s)])∧Below w.heap.size w w':=by
 have hb0:∀ a b,Below w.heap.size w ((w.alloc a).alloc b):=fun a b=>((Below.refl _ _).alloc (Nat.le_refl _) _).alloc (by simp) _
 have OT:=fun a b=>loOpen_any ((w.alloc a).alloc b) B v (h.below ((hb0 a b).mono hB)) (Nat.le_trans hB (hb0 a b).size) hn
 obtain ⟨⟨A,n,c⟩,l,wi,tqo,pe,fi,mo,sl,er,ro⟩:=v
 show Calls Tryz.prog 306 #[.agg #[.slice A n c,.int .i64 wi,.int .i64 tqo,.int .i64 pe,.int .i64 fi,.int .i64 mo,.int .i64 sl,.int .i64 er,.bool ro],.slice A2 m c2] w fun e w'=>e=.returned (.tuple #[.agg #[.slice A n c,.int .i64 wi,.int .i64 tqo,.int .i64 pe,.int .i64 fi,.int .i64 mo,.int .i64 sl,.int .i64 er,.bool ro],_])∧_
 obtain ⟨q1,hq1⟩:∃ b,decide ((m:Int)=wi)=b:=⟨_,rfl⟩
 obtain ⟨q2,hq2⟩:∃ b,s.all zh6=b:=⟨_,rfl⟩
 obtain ⟨e1,he1⟩:∃ e,zaf q1 10=e:=⟨_,rfl⟩
 obtain ⟨e2,he2⟩:∃ e,zaf q2 15=e:=⟨_,rfl⟩
 have U1:=fun W=>zd7 q1 10 e1 he1 W
 have U2:=fun W=>zd7 q2 15 e2 he2 W
 have HE:Hid (zg5 ⟨⟨A,n,c⟩,l,wi,tqo,pe,fi,mo,sl,er,ro⟩ s=zam [zja ⟨⟨A,n,c⟩,l,wi,tqo,pe,fi,mo,sl,er,ro⟩,e1,e2]):=by
  rw [Hid,zg5,← he1,← he2,← hq1,← hq2,← hs]
 generalize zja ⟨⟨A,n,c⟩,l,wi,tqo,pe,fi,mo,sl,er,ro⟩=E at *
 rw [HE.out]
 change ∀ a b,Calls Tryz.prog 351 #[.agg #[.slice A n c,.int .i64 wi,.int .i64 tqo,.int .i64 pe,.int .i64 fi,.int .i64 mo,.int .i64 sl,.int .i64 er,.bool ro]] _ (fun e w'=>e=.returned (.tuple #[.agg #[.slice A n c,.int .i64 wi,.int .i64 tqo,.int .i64 pe,.int .i64 fi,.int .i64 mo,.int .i64 sl,.int .i64 er,.bool ro],_])∧_) at OT
 have CS:=fun W (hW:Below w.heap.size w W)=>zhu A2 m c2 w.heap.size s q2 hq2 W (by omega) hs (hr.below hW)
 have k0:=hA2a w (.cells #[.slice A n c,.int .i64 wi,.int .i64 tqo,.int .i64 pe,.int .i64 fi,.int .i64 mo,.int .i64 sl,.int .i64 er,.bool ro] 34) (.cells #[.slice none 0 0,.int .i64 0,.int .i64 0,.int .i64 0,.int .i64 0,.int .i64 0,.int .i64 0,.int .i64 0,.bool false] 422)
 have k1:=hA2b w (.cells #[.slice A n c,.int .i64 wi,.int .i64 tqo,.int .i64 pe,.int .i64 fi,.int .i64 mo,.int .i64 sl,.int .i64 er,.bool ro] 34) (.cells #[.slice none 0 0,.int .i64 0,.int .i64 0,.int .i64 0,.int .i64 0,.int .i64 0,.int .i64 0,.int .i64 0,.bool false] 422)
 have HB:=Lib.hid (hb0 (.cells #[.slice A n c,.int .i64 wi,.int .i64 tqo,.int .i64 pe,.int .i64 fi,.int .i64 mo,.int .i64 sl,.int .i64 er,.bool ro] 34) (.cells #[.slice none 0 0,.int .i64 0,.int .i64 0,.int .i64 0,.int .i64 0,.int .i64 0,.int .i64 0,.int .i64 0,.bool false] 422))
 replace OT:=OT (.cells #[.slice A n c,.int .i64 wi,.int .i64 tqo,.int .i64 pe,.int .i64 fi,.int .i64 mo,.int .i64 sl,.int .i64 er,.bool ro] 34) (.cells #[.slice none 0 0,.int .i64 0,.int .i64 0,.int .i64 0,.int .i64 0,.int .i64 0,.int .i64 0,.int .i64 0,.bool false] 422)
 have hs0:=hS2 w (.cells #[.slice A n c,.int .i64 wi,.int .i64 tqo,.int .i64 pe,.int .i64 fi,.int .i64 mo,.int .i64 sl,.int .i64 er,.bool ro] 34) (.cells #[.slice none 0 0,.int .i64 0,.int .i64 0,.int .i64 0,.int .i64 0,.int .i64 0,.int .i64 0,.int .i64 0,.bool false] 422)
 have hq1b:((m:Int) == wi)=q1:=by rw [← hq1];by_cases h9:(m:Int)=wi <;> simp [h9]
 clear hb0 h hB hn hr hs hq1 hq2 he1 he2
 go_enter Tryz.func306,Tryz.ntmps306
 go_upto_region 1 with (fail)
 generalize (w.alloc (.cells #[.slice A n c,.int .i64 wi,.int .i64 tqo,.int .i64 pe,.int .i64 fi,.int .i64 mo,.int .i64 sl,.int .i64 er,.bool ro] 34)).alloc (.cells #[.slice none 0 0,.int .i64 0,.int .i64 0,.int .i64 0,.int .i64 0,.int .i64 0,.int .i64 0,.int .i64 0,.bool false] 422)=w0 at *
 generalize hbw:w.heap.size=bw at *
 have HBW:=Lib.hid hbw
 clear hbw
 go_wp2_with (with_reducible refine zaz 34 ?_)
 unfold Stp
 refine wpList_load_row rfl 34 _ rfl bw rfl 34 _ (0,0) _ k0 Tryz.underlying34 rfl (by kernel_rfl) ?_
 go_wp2_with (first | (go_at_call 351;refine OT.mono ?_;rintro e w1 ⟨rfl,hb1⟩) | (with_reducible refine zat 422 ?_))
 have hba:=hB1 w1 (.cells #[.slice none 0 0,.int .i64 0,.int .i64 0,.int .i64 0,.int .i64 0,.int .i64 0,.int .i64 0,.int .i64 0,.bool false] 422)
 have k3:=hA1 w1 (.cells #[.slice none 0 0,.int .i64 0,.int .i64 0,.int .i64 0,.int .i64 0,.int .i64 0,.int .i64 0,.int .i64 0,.bool false] 422)
 unfold Stp
 refine wpList_store_row rfl 422 _ _ rfl w1.heap.size #[.slice A n c,.int .i64 wi,.int .i64 tqo,.int .i64 pe,.int .i64 fi,.int .i64 mo,.int .i64 sl,.int .i64 er,.bool ro] rfl rfl 422 _ k3 (by kernel_rfl) rfl (by kernel_rfl) ?_
 have k4:=setRow_heap _ w1.heap.size _ #[.slice A n c,.int .i64 wi,.int .i64 tqo,.int .i64 pe,.int .i64 fi,.int .i64 mo,.int .i64 sl,.int .i64 er,.bool ro] 422 (0,0) k3
 have hb4:Below w0.heap.size w0 ((w1.alloc (.cells #[.slice none 0 0,.int .i64 0,.int .i64 0,.int .i64 0,.int .i64 0,.int .i64 0,.int .i64 0,.int .i64 0,.bool false] 422)).setRow w1.heap.size #[.slice A n c,.int .i64 wi,.int .i64 tqo,.int .i64 pe,.int .i64 fi,.int .i64 mo,.int .i64 sl,.int .i64 er,.bool ro]):=below_setRow (hb1.trans (hba.mono hb1.size)) hb1.size _
 clear OT hba k3
 go_upto_region 2 with (fail)
 generalize (w1.alloc (.cells #[.slice none 0 0,.int .i64 0,.int .i64 0,.int .i64 0,.int .i64 0,.int .i64 0,.int .i64 0,.int .i64 0,.bool false] 422)).setRow w1.heap.size #[.slice A n c,.int .i64 wi,.int .i64 tqo,.int .i64 pe,.int .i64 fi,.int .i64 mo,.int .i64 sl,.int .i64 er,.bool ro]=w2 at *
 generalize w1.heap.size=y at *
 have hb5:=HB.out.trans (hb4.mono (by omega))
 have CS2:=CS w2 hb5
 clear CS
 go_upto_region 3 with (go_at_call 209;refine CS2.mono ?_;rintro e w' ⟨rfl,rfl⟩)
 obtain ⟨c0,c1,c2,c3,c4,c5,c6,c7,c8⟩:_∧_∧_∧_∧_∧_∧_∧_∧_:=zdk k4
 obtain ⟨_,d1,_,_,_,_,_,_,_⟩:_∧_∧_∧_∧_∧_∧_∧_∧_:=zdk (blk hb4 k0)
 have x0:=fun y:Xt w2=>y.cell c0
 have x1:=fun y:Xt w2=>y.cell c1
 have x2:=fun y:Xt w2=>y.cell c2
 have x3:=fun y:Xt w2=>y.cell c3
 have x4:=fun y:Xt w2=>y.cell c4
 have x5:=fun y:Xt w2=>y.cell c5
 have x6:=fun y:Xt w2=>y.cell c6
 have x7:=fun y:Xt w2=>y.cell c7
 have x8:=fun y:Xt w2=>y.cell c8
 have x9:=fun y:Xt w2=>y.cell d1
 refine zaj [13,14] (fun w'=>∃ y:Xt w2,w'=y.1) (by kernel_rfl) ⟨⟨w2.drew,(Below.refl _ _).drew⟩,rfl⟩ ?_
 refine zao [0,1,2,3,4,5,6,8,9] 6 rfl (by kernel_rfl) ?_
 simp only [zad,zac,zaa,zX1,zX2,zX3]
 repeat (go_big_quiet_step (fail))
 refine wpQuiet_nil ?_
 have hbd:Below w2.heap.size w2 w2.drew:=(Below.refl _ _).drew
 show wpE _ _ _ _ _ _ _ _ _ w2.drew
 generalize w2.drew=wd at *
 clear x0 x1 x2 x3 x4 x5 x6 x7 x8 x9 c0 c1 c2 c3 c4 c5 c6 c7 c8 d1
 refine zak (i:=7) rfl (by kernel_rfl) rfl ?_
 unfold zap
 simp only [zad,zac,zaa,zX1,zX2,zX3]
 go_wp2_with (go_at_call 74;refine (U1 _).mono ?_;rintro e w' ⟨rfl,rfl⟩)
 refine zab ⟨⟨⟨_,hbd⟩,rfl⟩,?_⟩
 refine zak (i:=10) rfl (by kernel_rfl) rfl ?_
 unfold zap
 simp only [zad,zac,zaa,zX1,zX2,zX3]
 go_wp2_with (go_at_call 74;refine (U2 _).mono ?_;rintro e w' ⟨rfl,rfl⟩)
 refine zab ⟨⟨⟨_,hbd⟩,rfl⟩,?_⟩
 refine zak (i:=11) rfl (by kernel_rfl) rfl ?_
 unfold zap
 simp only [zad,zac,zaa,zX1,zX2,zX3]
 go_wp2
 have hbn:=hB1 wd (.cells #[.int .i64 E,.int .i64 e1,.int .i64 e2] 50)
 have kA:=hA1 wd (.cells #[.int .i64 E,.int .i64 e1,.int .i64 e2] 50)
 have hbe:=hbd.trans (hbn.mono hbd.size)
 refine zab ⟨⟨⟨_,hbe⟩,rfl⟩,?_⟩
 refine zak (i:=12) rfl (by kernel_rfl) rfl ?_
 unfold zap
 simp only [zad,zac,zaa,zX1,zX2,zX3]
 go_wp2_with (go_at_call 73;refine (zky _ _ _ _).mono ?_;rintro e w' ⟨rfl,rfl⟩)
 refine zab ⟨⟨⟨_,hbe⟩,rfl⟩,?_⟩
 refine zau rfl (by kernel_rfl) ?_
 simp only [zad,zac,zaa,zX1,zX2,zX3]
 have k5:=blk hbe (blk hb4 k1)
 refine wpList_store_row rfl 422 _ _ rfl (bw+1) #[.slice A n c,.int .i64 wi,.int .i64 tqo,.int .i64 pe,.int .i64 fi,.int .i64 mo,.int .i64 sl,.int .i64 er,.bool ro] rfl rfl 422 _ k5 (by kernel_rfl) rfl (by kernel_rfl) ?_
 have kr:=setRow_heap (wd.alloc (.cells #[.int .i64 E,.int .i64 e1,.int .i64 e2] 50)) (bw+1) _ #[.slice A n c,.int .i64 wi,.int .i64 tqo,.int .i64 pe,.int .i64 fi,.int .i64 mo,.int .i64 sl,.int .i64 er,.bool ro] 422 (0,0) k5
 have hbr:Below bw w ((wd.alloc (.cells #[.int .i64 E,.int .i64 e1,.int .i64 e2] 50)).setRow (bw+1) #[.slice A n c,.int .i64 wi,.int .i64 tqo,.int .i64 pe,.int .i64 fi,.int .i64 mo,.int .i64 sl,.int .i64 er,.bool ro]):=below_setRow (hb5.trans (hbe.mono (by have:=hb4.size;omega))) (by omega) _
 generalize (wd.alloc (.cells #[.int .i64 E,.int .i64 e1,.int .i64 e2] 50)).setRow (bw+1) #[.slice A n c,.int .i64 wi,.int .i64 tqo,.int .i64 pe,.int .i64 fi,.int .i64 mo,.int .i64 sl,.int .i64 er,.bool ro]=w7 at *
 go_wp2
 refine zab ?_
 go_wp2
 obtain ⟨c0,c1,c2,c3,c4,c5,c6,c7,c8⟩:_∧_∧_∧_∧_∧_∧_∧_∧_:=zdk kr
 refine bodyPost_ret (v:=.tuple #[.agg #[.slice A n c,.int .i64 wi,.int .i64 tqo,.int .i64 pe,.int .i64 fi,.int .i64 mo,.int .i64 sl,.int .i64 er,.bool ro],.int .i64 (zam [E,e1,e2])]) (by simp [results,Tryz.results306,go_sem,c0,c1,c2,c3,c4,c5,c6,c7,c8]) rfl ⟨rfl,by rw [HBW.out];exact hbr⟩
end Go.Proofs.YtfdmeojcopkaoaaGreatDoor
