import Derived.Test.YtoodbfkbbchjiaaGreatDoorf3Y1
set_option maxRecDepth 100000
set_option maxHeartbeats 16000000
namespace Go.Proofs.YtoodbfkbbchjiaaGreatDoor
open Go.RowKit
def zge (l:List ByteArray) (most:Nat):Bool:=decide (l.length≤most+2) && l.all fun s=>decide (s.size≤20)
theorem zgz (A:Option Addr) (n c B:Nat) (l:List ByteArray) (most:Nat) (b:Bool) (hb:zge l most=b) (w:World) (hm:most≤100) (hn:n≤9223372036854775807) (hl:l.length=n) (h:Rd w B A (strCells l)) :
 Calls Tryz.prog 20 #[.slice A n c,.int .i64 most] w fun e w'=>e=.returned (.bool b)∧w=w':=by
 have HL:=Lib.hid hl
 have HB:=Lib.hid hb
 clear hl hb
 by_cases hbig:(most:Int)+2<(n:Int)
 · have HV:Hid (b=false):=by
    have g:¬ l.length≤most+2:=by rw [HL.out];omega
    rw [Hid,← HB.out,zge]
    simp [g]
   go_enter Tryz.func20,Tryz.ntmps20
   go_wp2
   go_ret
   exact ⟨by rw [HV.out];rfl,rfl⟩
 have HG:Hid (l.all (fun s=>decide (s.size≤20))=b):=by
  have g:l.length≤most+2:=by rw [HL.out];omega
  rw [Hid,← HB.out,zge]
  simp [g]
 clear HB
 go_enter Tryz.func20,Tryz.ntmps20
 go_wp2
 go_loop [5] (fun i=>∃ k:Nat,k≤n∧i=.int .i64 k∧(l.drop k).all (fun s=>decide (s.size≤20))=b) (fun i=>n - (intOf i).toNat)
 case atStart=>exact ⟨0,Nat.zero_le _,rfl,HG.out⟩
 case round =>
  clear HG
  obtain ⟨k,hk,rfl,he⟩:=hrel
  have HE:=Lib.hid he;clear he
  by_cases hlt:k<n
  · have hkl:k<l.length:=by rw [HL.out];exact hlt
    obtain ⟨bb,off,rfl,_,hc⟩:=h.at_ (k:=k) (u:=.string (l[k]?.getD ⟨#[]⟩)) (by simp [strCells,hkl])
    have HS:=Lib.hid (zfq l ⟨#[]⟩ k hkl)
    clear hkl
    generalize l[k]?.getD ⟨#[]⟩=x at *
    by_cases hx:(20:Int)<(x.size:Int)
    · have HV:Hid (b=false):=by
       have g:¬ x.size≤20:=by omega
       rw [Hid,← HE.out,HS.out,List.all_cons]
       simp [g]
      go_wp2
      go_ret
      exact ⟨by rw [HV.out];rfl,rfl⟩
    · have HN:Hid ((l.drop (k+1)).all (fun s=>decide (s.size≤20))=b):=by
       have g:x.size≤20:=by omega
       have h9:=HE.out
       rw [HS.out,List.all_cons] at h9
       rw [Hid]
       simpa [g] using h9
      go_wp2
      go_round
      case rel=>exact ⟨k+1,by omega,by go_num,HN.out⟩
      case measure=>simp [intOf];omega
  · have HV:Hid (b=true):=by
     rw [Hid,← HE.out,List.drop_eq_nil_iff.2 (by rw [HL.out];omega)]
     rfl
    go_wp2
    go_ret
    exact ⟨by rw [HV.out];rfl,rfl⟩
theorem zed {l:List ByteArray} {most:Nat} (hm:most≤100) (h:zge l most=true):l.length≤1000∧∀ s∈l,s.size≤1000:=by
 simp only [zge,Bool.and_eq_true,decide_eq_true_eq,List.all_eq_true] at h
 exact ⟨by omega,fun s hs=>by have:=h.2 s hs;omega⟩
structure HouseW (h:HouseV):Prop where
 a1:h.plant.ss.n≤9223372036854775807
 a2:h.plant.ts.n≤9223372036854775807
 a3:h.plant.ws.n≤9223372036854775807
 a4:h.plant.rs.n≤9223372036854775807
 a5:h.net.ss.n≤9223372036854775807
 a6:h.net.fs.n≤9223372036854775807
 a7:h.net.ts.n≤9223372036854775807
 a8:h.vanes.vs.n≤9223372036854775807
 a9:h.ps.n≤9223372036854775807
 b1:h.es.n≤9223372036854775807
 b2:h.acs.n≤9223372036854775807
 b3:h.ms.n≤9223372036854775807
 b4:h.pp.n≤9223372036854775807
 r:∀ r∈h.plant.rts,r.s.n≤9223372036854775807∧r.d.n≤9223372036854775807
 t:∀ t∈h.net.tns,t.s.n≤9223372036854775807
def FewPost (w:World) (h:HouseV) (e:Ending) (w':World):Prop:=∃ b:Bool,e=.returned (.bool b)∧(b=true→HouseS h∧∀ s∈h.evs,s.size≤20)∧Below w.heap.size w w'
def fewFr (bw:Nat) (As At Aw Ar Am Af An Ae Ak Ap:Option Addr) (ns cs nt ct nw cw nr cr nm cm nf cf nn cn ne ce nk ck np cp:Nat) (vanes:VanV) (tn:ByteArray) (ps:SlV) (sys:Sy) (acs:SlV) (e3 e4:Value):Go.Act:=⟨#[.agg #[.slice As ns cs,.slice At nt ct,.slice Aw nw cw,.slice Ar nr cr,.slice Am nm cm,.slice Af nf cf,.slice An nn cn,.slice vanes.vs.A vanes.vs.n vanes.vs.c,.int .i64 vanes.window,.int .i64 vanes.tooth,.int .i64 vanes.per,.int .i64 vanes.first,.int .i64 vanes.modulus,.int .i64 vanes.slack,.int .i64 vanes.errors,.bool vanes.round,.string tn,.slice ps.A ps.n ps.c,.int .i64 sys.brake,.int .i64 sys.drag,.int .i64 sys.drive,.slice Ae ne ce,.slice acs.A acs.n acs.c,.slice Ak nk ck,.slice Ap np cp],.pointer (some ⟨bw,0,none⟩),.bool false,e3,e4,undef,undef,undef,undef,undef,.pointer (some ⟨bw,0,none⟩),.agg #[.slice As ns cs,.slice At nt ct,.slice Aw nw cw,.slice Ar nr cr],.pointer (some ⟨bw,4,none⟩),.agg #[.slice Am nm cm,.slice Af nf cf,.slice An nn cn],undef,undef,undef,undef,undef,undef,undef,undef,undef,undef,undef,undef,undef,undef,undef,undef,undef,undef,undef,undef,undef,undef,undef,undef,undef,undef,undef,undef,undef,undef,undef,undef,undef,undef,undef,undef,undef,undef,undef,undef,undef,undef,undef,undef,undef,undef,undef,undef,undef,undef,undef,undef,undef,undef,undef,undef,undef,undef,undef,undef,undef,undef,undef,undef,undef,undef,undef,undef,undef,undef,undef,undef,undef,undef,undef,undef,undef,undef,undef,undef,undef,undef,undef,undef,undef,undef,undef,undef,undef,undef,undef,undef,undef,undef,undef,undef,undef,undef,undef,undef,undef,undef,undef,undef,undef,undef,undef,undef,undef,undef,undef,undef,undef,undef,undef,undef,undef,undef,undef,undef,undef,undef,undef,undef,undef,undef,undef,undef,undef,undef,undef,undef,undef,undef,undef,undef,undef,undef,undef,undef,undef,undef,undef,undef,undef,undef,undef,undef,undef,undef,undef,undef,undef,undef,undef,undef,undef,undef,undef,undef,undef,undef,undef,undef,undef,undef,undef,undef,undef,undef,undef,undef,undef,undef,undef,undef,undef,undef,undef,undef,undef,undef,undef,undef,undef,undef,undef,undef],[]⟩
def FewI (bw:Nat) (As At Aw Ar Am Af An Ae Ak Ap:Option Addr) (ns cs nt ct nw cw nr cr nm cm nf cf nn cn ne ce nk ck np cp:Nat) (vanes:VanV) (tn:ByteArray) (ps:SlV) (sys:Sy) (acs:SlV) (w0:World) (L:Nat→Bool) (a:Go.Act) (w:World):Prop:=
 ∃ e3 e4,a=fewFr bw As At Aw Ar Am Af An Ae Ak Ap ns cs nt ct nw cw nr cr nm cm nf cf nn cn ne ce nk ck np cp vanes tn ps sys acs e3 e4∧Below w0.heap.size w0 w∧(L 6=true→L 4=true)∧(L 4=true→BlAt w w0.heap.size (.cells (if L 6=true then #[.slice As ns cs,.slice At nt ct,.slice Aw nw cw,.slice Ar nr cr] else #[.slice none 0 0,.slice none 0 0,.slice none 0 0,.slice none 0 0]) 26 (0,0)) e3)∧(L 5=true→BlAt w w0.heap.size (.cells #[.slice none 0 0,.slice none 0 0,.slice none 0 0] 31 (0,0)) e4)
theorem zha {α:Type} {P:α→Prop} {l:List α} {k:Nat} {x:α} (h:∀ a∈l.take k,P a) (hx:l[k]?=some x) (hp:P x):∀ a∈l.take (k+1),P a:=by
 intro a ha
 rw [List.take_add_one,hx] at ha
 rcases List.mem_append.1 ha with h1 | h1
 · exact h a h1
 · have:a=x:=by simpa using h1
   rw [this]
   exact hp
theorem few_any (w:World) (B:Nat) (h:HouseV) (H:HouseAt w B h) (hW:HouseW h) (hB:B≤w.heap.size):Calls Tryz.prog 5 #[.agg (zah h).toArray] w (FewPost w h):=by
 obtain ⟨⟨⟨As,ns,cs⟩,secs,⟨At,nt,ct⟩,trains,⟨Aw,nw,cw⟩,sws,⟨Ar,nr,cr⟩,rts⟩,⟨⟨Am,nm,cm⟩,sts,⟨Af,nf,cf⟩,fss,⟨An,nn,cn⟩,tns⟩,vanes,tn,ps,pcs,sys,⟨Ae,ne,ce⟩,evs,acs,acts,⟨Ak,nk,ck⟩,masts,⟨Ap,np,cp⟩,people⟩:=h
 show Calls Tryz.prog 5 #[.agg #[.slice As ns cs,.slice At nt ct,.slice Aw nw cw,.slice Ar nr cr,.slice Am nm cm,.slice Af nf cf,.slice An nn cn,.slice vanes.vs.A vanes.vs.n vanes.vs.c,.int .i64 vanes.window,.int .i64 vanes.tooth,.int .i64 vanes.per,.int .i64 vanes.first,.int .i64 vanes.modulus,.int .i64 vanes.slack,.int .i64 vanes.errors,.bool vanes.round,.string tn,.slice ps.A ps.n ps.c,.int .i64 sys.brake,.int .i64 sys.drag,.int .i64 sys.drive,.slice Ae ne ce,.slice acs.A acs.n acs.c,.slice Ak nk ck,.slice Ap np cp]] w _
 have k0:=hA1 w (.cells #[.slice As ns cs,.slice At nt ct,.slice Aw nw cw,.slice Ar nr cr,.slice Am nm cm,.slice Af nf cf,.slice An nn cn,.slice vanes.vs.A vanes.vs.n vanes.vs.c,.int .i64 vanes.window,.int .i64 vanes.tooth,.int .i64 vanes.per,.int .i64 vanes.first,.int .i64 vanes.modulus,.int .i64 vanes.slack,.int .i64 vanes.errors,.bool vanes.round,.string tn,.slice ps.A ps.n ps.c,.int .i64 sys.brake,.int .i64 sys.drag,.int .i64 sys.drive,.slice Ae ne ce,.slice acs.A acs.n acs.c,.slice Ak nk ck,.slice Ap np cp] 45)
 have hb0:=hB1 w (.cells #[.slice As ns cs,.slice At nt ct,.slice Aw nw cw,.slice Ar nr cr,.slice Am nm cm,.slice Af nf cf,.slice An nn cn,.slice vanes.vs.A vanes.vs.n vanes.vs.c,.int .i64 vanes.window,.int .i64 vanes.tooth,.int .i64 vanes.per,.int .i64 vanes.first,.int .i64 vanes.modulus,.int .i64 vanes.slack,.int .i64 vanes.errors,.bool vanes.round,.string tn,.slice ps.A ps.n ps.c,.int .i64 sys.brake,.int .i64 sys.drag,.int .i64 sys.drive,.slice Ae ne ce,.slice acs.A acs.n acs.c,.slice Ak nk ck,.slice Ap np cp] 45)
 have hs:=hS1 w (.cells #[.slice As ns cs,.slice At nt ct,.slice Aw nw cw,.slice Ar nr cr,.slice Am nm cm,.slice Af nf cf,.slice An nn cn,.slice vanes.vs.A vanes.vs.n vanes.vs.c,.int .i64 vanes.window,.int .i64 vanes.tooth,.int .i64 vanes.per,.int .i64 vanes.first,.int .i64 vanes.modulus,.int .i64 vanes.slack,.int .i64 vanes.errors,.bool vanes.round,.string tn,.slice ps.A ps.n ps.c,.int .i64 sys.brake,.int .i64 sys.drag,.int .i64 sys.drive,.slice Ae ne ce,.slice acs.A acs.n acs.c,.slice Ak nk ck,.slice Ap np cp] 45)
 have HH:=Lib.hid ((H.keep hb0).mono hB)
 obtain ⟨a1,a2,a3,a4,a5,a6,a7,a8,a9,b1,b2,b3,b4,hr9,ht9⟩:=hW
 simp only at a1 a2 a3 a4 a5 a6 a7 a8 a9 b1 b2 b3 b4 hr9 ht9
 have HR9:=Lib.hid hr9
 have HT9:=Lib.hid ht9
 have HB:=Lib.hid hb0
 clear hb0 H hr9 ht9
 go_enter Tryz.func5,Tryz.ntmps5
 go_upto_region 1 with (fail)
 generalize (w.alloc (.cells #[.slice As ns cs,.slice At nt ct,.slice Aw nw cw,.slice Ar nr cr,.slice Am nm cm,.slice Af nf cf,.slice An nn cn,.slice vanes.vs.A vanes.vs.n vanes.vs.c,.int .i64 vanes.window,.int .i64 vanes.tooth,.int .i64 vanes.per,.int .i64 vanes.first,.int .i64 vanes.modulus,.int .i64 vanes.slack,.int .i64 vanes.errors,.bool vanes.round,.string tn,.slice ps.A ps.n ps.c,.int .i64 sys.brake,.int .i64 sys.drag,.int .i64 sys.drive,.slice Ae ne ce,.slice acs.A acs.n acs.c,.slice Ak nk ck,.slice Ap np cp] 45))=w0 at *
 generalize hbw:w.heap.size=bw at *
 have HBW:=Lib.hid hbw
 clear hbw
 have d0:=(cell_of_row w0 _ 0 _ _ _ k0).trans (by rfl:_=some (.slice As ns cs))
 have d1:=(cell_of_row w0 _ 1 _ _ _ k0).trans (by rfl:_=some (.slice At nt ct))
 have d2:=(cell_of_row w0 _ 2 _ _ _ k0).trans (by rfl:_=some (.slice Aw nw cw))
 have d3:=(cell_of_row w0 _ 3 _ _ _ k0).trans (by rfl:_=some (.slice Ar nr cr))
 have d4:=(cell_of_row w0 _ 4 _ _ _ k0).trans (by rfl:_=some (.slice Am nm cm))
 have d5:=(cell_of_row w0 _ 5 _ _ _ k0).trans (by rfl:_=some (.slice Af nf cf))
 have d6:=(cell_of_row w0 _ 6 _ _ _ k0).trans (by rfl:_=some (.slice An nn cn))
 have d7:=(cell_of_row w0 _ 7 _ _ _ k0).trans (by rfl:_=some (.slice vanes.vs.A vanes.vs.n vanes.vs.c))
 have d8:=(cell_of_row w0 _ 8 _ _ _ k0).trans (by rfl:_=some (.int .i64 vanes.window))
 have d9:=(cell_of_row w0 _ 9 _ _ _ k0).trans (by rfl:_=some (.int .i64 vanes.tooth))
 have d10:=(cell_of_row w0 _ 10 _ _ _ k0).trans (by rfl:_=some (.int .i64 vanes.per))
 have d11:=(cell_of_row w0 _ 11 _ _ _ k0).trans (by rfl:_=some (.int .i64 vanes.first))
 have d12:=(cell_of_row w0 _ 12 _ _ _ k0).trans (by rfl:_=some (.int .i64 vanes.modulus))
 have d13:=(cell_of_row w0 _ 13 _ _ _ k0).trans (by rfl:_=some (.int .i64 vanes.slack))
 have d14:=(cell_of_row w0 _ 14 _ _ _ k0).trans (by rfl:_=some (.int .i64 vanes.errors))
 have d15:=(cell_of_row w0 _ 15 _ _ _ k0).trans (by rfl:_=some (.bool vanes.round))
 have d16:=(cell_of_row w0 _ 16 _ _ _ k0).trans (by rfl:_=some (.string tn))
 have d17:=(cell_of_row w0 _ 17 _ _ _ k0).trans (by rfl:_=some (.slice ps.A ps.n ps.c))
 have d18:=(cell_of_row w0 _ 18 _ _ _ k0).trans (by rfl:_=some (.int .i64 sys.brake))
 have d19:=(cell_of_row w0 _ 19 _ _ _ k0).trans (by rfl:_=some (.int .i64 sys.drag))
 have d20:=(cell_of_row w0 _ 20 _ _ _ k0).trans (by rfl:_=some (.int .i64 sys.drive))
 have d21:=(cell_of_row w0 _ 21 _ _ _ k0).trans (by rfl:_=some (.slice Ae ne ce))
 have d22:=(cell_of_row w0 _ 22 _ _ _ k0).trans (by rfl:_=some (.slice acs.A acs.n acs.c))
 have d23:=(cell_of_row w0 _ 23 _ _ _ k0).trans (by rfl:_=some (.slice Ak nk ck))
 have d24:=(cell_of_row w0 _ 24 _ _ _ k0).trans (by rfl:_=some (.slice Ap np cp))
 have x0:=fun y:Xt w0=>y.cell d0
 have x1:=fun y:Xt w0=>y.cell d1
 have x2:=fun y:Xt w0=>y.cell d2
 have x3:=fun y:Xt w0=>y.cell d3
 have x4:=fun y:Xt w0=>y.cell d4
 have x5:=fun y:Xt w0=>y.cell d5
 have x6:=fun y:Xt w0=>y.cell d6
 refine zak [7] (fun w'=>∃ y:Xt w0,w'=y.1) (by kernel_rfl) ⟨⟨w0.drew,(Below.refl _ _).drew⟩,rfl⟩ ?_
 refine zdx [0,1,2,3] 4 rfl (by kernel_rfl) ?_
 simp only [zad,zac,zaa,zX1,zX2,zX3]
 repeat (go_big_quiet_step (fail))
 refine wpQuiet_nil ?_
 have hbd:Below w0.heap.size w0 w0.drew:=(Below.refl _ _).drew
 show wpE _ _ _ _ _ _ _ _ _ w0.drew
 generalize w0.drew=wd at *
 clear x0 x1 x2 x3 x4 x5 x6
 refine zdt (g:=1) [4,5,6] (FewI bw As At Aw Ar Am Af An Ae Ak Ap ns cs nt ct nw cw nr cr nm cm nf cf nn cn ne ce nk ck np cp vanes tn ps sys acs w0) rfl (by kernel_rfl) ?_ ?_ ?_
 · exact ⟨undef,undef,rfl,hbd,fun h=>absurd (show false=true from h) (by decide),fun h=>absurd (show false=true from h) (by decide),fun h=>absurd (show false=true from h) (by decide)⟩
 rotate_left
 · intro i hi L a w8 hL hd hS8 hI
   obtain ⟨e3,e4,rfl,hb8,hcl,hB3,hB4⟩:=hI
   simp only [List.mem_cons,List.not_mem_nil,or_false] at hi
   rcases hi with rfl | rfl | rfl
   · have h6:L 6=false:=by
      cases h:L 6 with
      | false=>rfl
      | true=>exact absurd (hcl h) (by rw [hL];decide)
     unfold zar
     simp only [zad,zac,zaa,zX1,zX2,zX3]
     unfold fewFr
     go_wp2
     have hbn:=hB1 w8 (.cells #[.slice none 0 0,.slice none 0 0,.slice none 0 0,.slice none 0 0] 26)
     have hbx:=hb8.trans (hbn.mono hb8.size)
     exact zab ⟨⟨⟨_,hbx⟩,rfl⟩,⟨_,e4,rfl,hbx,fun _=>rfl,fun _=>⟨w8.heap.size,rfl,hb8.size,by show _=some (Obj.cells (if L 6=true then _ else _) 26 (0,0));rw [zae,if_pos rfl,h6];rfl⟩,fun h=>(hB4 h).keep hbn⟩⟩
   · unfold zar
     simp only [zad,zac,zaa,zX1,zX2,zX3]
     unfold fewFr
     go_wp2
     have hbn:=hB1 w8 (.cells #[.slice none 0 0,.slice none 0 0,.slice none 0 0] 31)
     have hbx:=hb8.trans (hbn.mono hb8.size)
     exact zab ⟨⟨⟨_,hbx⟩,rfl⟩,⟨e3,_,rfl,hbx,hcl,fun h=>(hB3 h).keep hbn,fun _=>⟨w8.heap.size,rfl,hb8.size,by rw [zae,if_pos rfl]⟩⟩⟩
   · obtain ⟨p3,rfl,hx3,hk3⟩:=hB3 (hd 4 (by kernel_rfl))
     rw [if_neg (by rw [hL];decide)] at hk3
     unfold zar
     simp only [zad,zac,zaa,zX1,zX2,zX3]
     unfold fewFr
     refine wpList_store_row rfl 26 _ _ rfl p3 #[.slice As ns cs,.slice At nt ct,.slice Aw nw cw,.slice Ar nr cr] rfl rfl 26 _ hk3 (by kernel_rfl) rfl (by kernel_rfl) ?_
     go_wp2
     have hbx:=below_setRow hb8 hx3 #[.slice As ns cs,.slice At nt ct,.slice Aw nw cw,.slice Ar nr cr]
     exact zab ⟨⟨⟨_,hbx⟩,rfl⟩,⟨_,e4,rfl,hbx,fun _=>hd 4 (by kernel_rfl),fun _=>⟨p3,rfl,hx3,setRow_heap w8 p3 _ #[.slice As ns cs,.slice At nt ct,.slice Aw nw cw,.slice Ar nr cr] 26 (0,0) hk3⟩,fun h=>by
      obtain ⟨p4,h1,h2,h3⟩:=hB4 h
      exact ⟨p4,h1,h2,(setRow_other w8 p3 p4 _ (zct h3 hk3 (by decide))).trans h3⟩⟩⟩
 · intro a w8 hS8 hI
   obtain ⟨e3,e4,rfl,hb8,hcl,hB3,hB4⟩:=hI
   obtain ⟨p3,rfl,hx3,hk3⟩:=hB3 (by kernel_rfl)
   obtain ⟨p4,rfl,hx4,hk4⟩:=hB4 (by kernel_rfl)
   rw [if_pos (by kernel_rfl)] at hk3
   have hne:=zct hk3 hk4 (by decide)
   refine zau rfl (by kernel_rfl) ?_
   simp only [zad,zac,zaa,zX1,zX2,zX3]
   unfold fewFr
   refine wpList_store_row rfl 31 _ _ rfl p4 #[.slice Am nm cm,.slice Af nf cf,.slice An nn cn] rfl rfl 31 _ hk4 (by kernel_rfl) rfl (by kernel_rfl) ?_
   go_wp2
   refine zab ?_
   have j3:=(setRow_other w8 p4 p3 #[.slice Am nm cm,.slice Af nf cf,.slice An nn cn] hne).trans hk3
   have j4:=setRow_heap w8 p4 _ #[.slice Am nm cm,.slice Af nf cf,.slice An nn cn] 31 (0,0) hk4
   have hb9:=below_setRow hb8 hx4 #[.slice Am nm cm,.slice Af nf cf,.slice An nn cn]
   clear hk3 hk4 hb8 hS8 hbd
   generalize w8.setRow p4 #[.slice Am nm cm,.slice Af nf cf,.slice An nn cn]=w9 at *
   replace HH:=Lib.hid (HH.out.belowC (hb9.mono (by omega)))
   have HB9:=Lib.hid (HB.out.trans (hb9.mono (by omega)))
   replace d7:=zat hb9 d7
   replace d8:=zat hb9 d8
   replace d9:=zat hb9 d9
   replace d10:=zat hb9 d10
   replace d11:=zat hb9 d11
   replace d12:=zat hb9 d12
   replace d13:=zat hb9 d13
   replace d14:=zat hb9 d14
   replace d15:=zat hb9 d15
   replace d16:=zat hb9 d16
   replace d17:=zat hb9 d17
   replace d18:=zat hb9 d18
   replace d19:=zat hb9 d19
   replace d20:=zat hb9 d20
   replace d21:=zat hb9 d21
   replace d22:=zat hb9 d22
   replace d23:=zat hb9 d23
   replace d24:=zat hb9 d24
   clear d0 d1 d2 d3 d4 d5 d6 hb9 HB k0
   obtain ⟨p0,p1,p2,p3'⟩:_∧_∧_∧_:=zbo j3
   obtain ⟨q0,q1,q2⟩:_∧_∧_:=zba j4
   clear j3 j4
   obtain ⟨v1,hv1⟩:∃ b,zge secs 3=b:=⟨_,rfl⟩
   obtain ⟨v2,hv2⟩:∃ b,zge trains 3=b:=⟨_,rfl⟩
   obtain ⟨v3,hv3⟩:∃ b,zge evs 16=b:=⟨_,rfl⟩
   obtain ⟨v4,hv4⟩:∃ b,zge masts 6=b:=⟨_,rfl⟩
   have M1:=fun c=>zgz As ns c bw secs 3 v1 hv1 w9 (by omega) a1 HH.out.plant.secs.1 HH.out.plant.secs.2
   have M2:=fun c=>zgz At nt c bw trains 3 v2 hv2 w9 (by omega) a2 HH.out.plant.trains.1 HH.out.plant.trains.2
   have M3:=fun c=>zgz Ae ne c bw evs 16 v3 hv3 w9 (by omega) b1 HH.out.evs.1 HH.out.evs.2
   have M4:=fun c=>zgz Ak nk c bw masts 6 v4 hv4 w9 (by omega) b3 HH.out.masts.1 HH.out.masts.2
   have HV1:=Lib.hid hv1
   have HV2:=Lib.hid hv2
   have HV3:=Lib.hid hv3
   have HV4:=Lib.hid hv4
   clear hv1 hv2 hv3 hv4
   go_upto_region 2 with (fail)
   cases v1 with
   | false =>
    go_wp2_with (first | (go_at_call_of 20 (Value.slice As ns cs);refine (M1 _).mono ?_;rintro e w' ⟨rfl,rfl⟩) | (go_at_call_of 20 (Value.slice At nt ct);refine (M2 _).mono ?_;rintro e w' ⟨rfl,rfl⟩) | (go_at_call_of 20 (Value.slice Ae ne ce);refine (M3 _).mono ?_;rintro e w' ⟨rfl,rfl⟩) | (go_at_call_of 20 (Value.slice Ak nk ck);refine (M4 _).mono ?_;rintro e w' ⟨rfl,rfl⟩))
    go_ret
    exact ⟨false,rfl,fun h=>absurd h (by decide),by rw [HBW.out];exact HB9.out⟩
   | true =>
   cases v2 with
   | false =>
    go_wp2_with (first | (go_at_call_of 20 (Value.slice As ns cs);refine (M1 _).mono ?_;rintro e w' ⟨rfl,rfl⟩) | (go_at_call_of 20 (Value.slice At nt ct);refine (M2 _).mono ?_;rintro e w' ⟨rfl,rfl⟩) | (go_at_call_of 20 (Value.slice Ae ne ce);refine (M3 _).mono ?_;rintro e w' ⟨rfl,rfl⟩) | (go_at_call_of 20 (Value.slice Ak nk ck);refine (M4 _).mono ?_;rintro e w' ⟨rfl,rfl⟩))
    go_ret
    exact ⟨false,rfl,fun h=>absurd h (by decide),by rw [HBW.out];exact HB9.out⟩
   | true =>
   by_cases f1:(6:Int)<(nw:Int)
   · go_wp2_with (first | (go_at_call_of 20 (Value.slice As ns cs);refine (M1 _).mono ?_;rintro e w' ⟨rfl,rfl⟩) | (go_at_call_of 20 (Value.slice At nt ct);refine (M2 _).mono ?_;rintro e w' ⟨rfl,rfl⟩) | (go_at_call_of 20 (Value.slice Ae ne ce);refine (M3 _).mono ?_;rintro e w' ⟨rfl,rfl⟩) | (go_at_call_of 20 (Value.slice Ak nk ck);refine (M4 _).mono ?_;rintro e w' ⟨rfl,rfl⟩))
     go_ret
     exact ⟨false,rfl,fun h=>absurd h (by decide),by rw [HBW.out];exact HB9.out⟩
   by_cases f2:(12:Int)<(nr:Int)
   · go_wp2_with (first | (go_at_call_of 20 (Value.slice As ns cs);refine (M1 _).mono ?_;rintro e w' ⟨rfl,rfl⟩) | (go_at_call_of 20 (Value.slice At nt ct);refine (M2 _).mono ?_;rintro e w' ⟨rfl,rfl⟩) | (go_at_call_of 20 (Value.slice Ae ne ce);refine (M3 _).mono ?_;rintro e w' ⟨rfl,rfl⟩) | (go_at_call_of 20 (Value.slice Ak nk ck);refine (M4 _).mono ?_;rintro e w' ⟨rfl,rfl⟩))
     go_ret
     exact ⟨false,rfl,fun h=>absurd h (by decide),by rw [HBW.out];exact HB9.out⟩
   go_upto_region 4 with (first | (go_at_call_of 20 (Value.slice As ns cs);refine (M1 _).mono ?_;rintro e w' ⟨rfl,rfl⟩) | (go_at_call_of 20 (Value.slice At nt ct);refine (M2 _).mono ?_;rintro e w' ⟨rfl,rfl⟩) | (go_at_call_of 20 (Value.slice Ae ne ce);refine (M3 _).mono ?_;rintro e w' ⟨rfl,rfl⟩) | (go_at_call_of 20 (Value.slice Ak nk ck);refine (M4 _).mono ?_;rintro e w' ⟨rfl,rfl⟩))
   clear M1 M2
   go_wp2
   go_loop [5] (fun i=>∃ k:Nat,k≤nw∧i=.int .i64 k∧∀ x∈sws.take k,x.1.size≤20) (fun i=>nw - (intOf i).toNat)
   case atStart=>exact ⟨0,Nat.zero_le _,rfl,fun x hx=>absurd hx (by simp)⟩
   case round =>
    obtain ⟨k,hk,rfl,he⟩:=hrel
    have HE:=Lib.hid he;clear he
    by_cases hlt:k<nw
    · have hkl:k<sws.length:=by rw [show sws.length=nw from HH.out.plant.sws.1];exact hlt
      obtain ⟨x,hev⟩:∃ ev,sws[k]?=some ev:=⟨_,List.getElem?_eq_getElem hkl⟩
      obtain ⟨bb,off,rfl,hbB,z0,z1⟩:=Rd.sw HH.out.plant.sws.2 hev
      have HEV:=Lib.hid hev
      clear hkl hev
      by_cases c0:(20:Int)<(x.1.size:Int)
      · go_wp2
        go_ret
        exact ⟨false,rfl,fun h=>absurd h (by decide),by rw [HBW.out];exact HB9.out⟩
      have HN:=Lib.hid (zha HE.out HEV.out (show x.1.size≤20 by omega))
      clear HE
      go_wp2
      go_round
      case rel=>exact ⟨k+1,by omega,by go_num,HN.out⟩
      case measure=>simp [intOf];omega
    · have HF5:=Lib.hid (fun x (hx:x∈sws)=>HE.out x (by rw [List.take_of_length_le (by rw [show sws.length=nw from HH.out.plant.sws.1];omega)];exact hx))
      clear HE
      go_wp2
      go_loop [6] (fun i=>∃ k:Nat,k≤nr∧i=.int .i64 k∧∀ x∈rts.take k,x.nm.size≤20∧x.s.n≤10∧x.d.n≤10) (fun i=>nr - (intOf i).toNat)
      case atStart=>exact ⟨0,Nat.zero_le _,rfl,fun x hx=>absurd hx (by simp)⟩
      case round =>
       obtain ⟨k,hk,rfl,he⟩:=hrel
       have HE:=Lib.hid he;clear he
       by_cases hlt:k<nr
       · have hkl:k<rts.length:=by rw [show rts.length=nr from HH.out.plant.rts.1];exact hlt
         obtain ⟨x,hev⟩:∃ ev,rts[k]?=some ev:=⟨_,List.getElem?_eq_getElem hkl⟩
         obtain ⟨bb,off,rfl,hbB,z0,z1,z2⟩:=Rd.rt HH.out.plant.rts.2 hev
         have HEV:=Lib.hid hev
         obtain ⟨hra,hrb⟩:=HR9.out x (List.mem_of_getElem? hev)
         clear hkl hev
         by_cases c0:(20:Int)<(x.nm.size:Int)
         · go_wp2
           go_ret
           exact ⟨false,rfl,fun h=>absurd h (by decide),by rw [HBW.out];exact HB9.out⟩
         by_cases c1:(10:Int)<(x.s.n:Int)
         · go_wp2
           go_ret
           exact ⟨false,rfl,fun h=>absurd h (by decide),by rw [HBW.out];exact HB9.out⟩
         by_cases c2:(10:Int)<(x.d.n:Int)
         · go_wp2
           go_ret
           exact ⟨false,rfl,fun h=>absurd h (by decide),by rw [HBW.out];exact HB9.out⟩
         have HN:=Lib.hid (zha HE.out HEV.out ⟨by omega,by omega,by omega⟩)
         clear HE
         go_wp2
         go_round
         case rel=>exact ⟨k+1,by omega,by go_num,HN.out⟩
         case measure=>simp [intOf];omega
       · have HF6:=Lib.hid (fun x (hx:x∈rts)=>HE.out x (by rw [List.take_of_length_le (by rw [show rts.length=nr from HH.out.plant.rts.1];omega)];exact hx))
         clear HE
         go_upto_region 14 with (fail)
         by_cases em:(4:Int)<(nm:Int)
         · go_wp2
           go_ret
           exact ⟨false,rfl,fun h=>absurd h (by decide),by rw [HBW.out];exact HB9.out⟩
         by_cases ef:(4:Int)<(nf:Int)
         · go_wp2
           go_ret
           exact ⟨false,rfl,fun h=>absurd h (by decide),by rw [HBW.out];exact HB9.out⟩
         by_cases en:(4:Int)<(nn:Int)
         · go_wp2
           go_ret
           exact ⟨false,rfl,fun h=>absurd h (by decide),by rw [HBW.out];exact HB9.out⟩
         go_wp2
         go_loop [7] (fun i=>∃ k:Nat,k≤nm∧i=.int .i64 k∧∀ x∈sts.take k,x.1.size≤20) (fun i=>nm - (intOf i).toNat)
         case atStart=>exact ⟨0,Nat.zero_le _,rfl,fun x hx=>absurd hx (by simp)⟩
         case round =>
          obtain ⟨k,hk,rfl,he⟩:=hrel
          have HE:=Lib.hid he;clear he
          by_cases hlt:k<nm
          · have hkl:k<sts.length:=by rw [show sts.length=nm from HH.out.net.sts.1];exact hlt
            obtain ⟨x,hev⟩:∃ ev,sts[k]?=some ev:=⟨_,List.getElem?_eq_getElem hkl⟩
            obtain ⟨bb,off,rfl,hbB,z0,z1,z2⟩:=Rd.st HH.out.net.sts.2 hev
            have HEV:=Lib.hid hev
            clear hkl hev
            by_cases c0:(20:Int)<(x.1.size:Int)
            · go_wp2
              go_ret
              exact ⟨false,rfl,fun h=>absurd h (by decide),by rw [HBW.out];exact HB9.out⟩
            have HN:=Lib.hid (zha HE.out HEV.out (show x.1.size≤20 by omega))
            clear HE
            go_wp2
            go_round
            case rel=>exact ⟨k+1,by omega,by go_num,HN.out⟩
            case measure=>simp [intOf];omega
          · have HF7:=Lib.hid (fun x (hx:x∈sts)=>HE.out x (by rw [List.take_of_length_le (by rw [show sts.length=nm from HH.out.net.sts.1];omega)];exact hx))
            clear HE
            go_wp2
            go_loop [8] (fun i=>∃ k:Nat,k≤nn∧i=.int .i64 k∧∀ x∈tns.take k,x.nm.size≤20∧x.s.n≤14) (fun i=>nn - (intOf i).toNat)
            case atStart=>exact ⟨0,Nat.zero_le _,rfl,fun x hx=>absurd hx (by simp)⟩
            case round =>
             obtain ⟨k,hk,rfl,he⟩:=hrel
             have HE:=Lib.hid he;clear he
             by_cases hlt:k<nn
             · have hkl:k<tns.length:=by rw [show tns.length=nn from HH.out.net.tns.1];exact hlt
               obtain ⟨x,hev⟩:∃ ev,tns[k]?=some ev:=⟨_,List.getElem?_eq_getElem hkl⟩
               obtain ⟨bb,off,rfl,hbB,z0,z1,z2,z3⟩:=Rd.tn HH.out.net.tns.2 hev
               have HEV:=Lib.hid hev
               have htb:=HT9.out x (List.mem_of_getElem? hev)
               clear hkl hev
               by_cases c0:(20:Int)<(x.nm.size:Int)
               · go_wp2
                 go_ret
                 exact ⟨false,rfl,fun h=>absurd h (by decide),by rw [HBW.out];exact HB9.out⟩
               by_cases c1:(14:Int)<(x.s.n:Int)
               · go_wp2
                 go_ret
                 exact ⟨false,rfl,fun h=>absurd h (by decide),by rw [HBW.out];exact HB9.out⟩
               have HN:=Lib.hid (zha HE.out HEV.out ⟨by omega,by omega⟩)
               clear HE
               go_wp2
               go_round
               case rel=>exact ⟨k+1,by omega,by go_num,HN.out⟩
               case measure=>simp [intOf];omega
             · have HF8:=Lib.hid (fun x (hx:x∈tns)=>HE.out x (by rw [List.take_of_length_le (by rw [show tns.length=nn from HH.out.net.tns.1];omega)];exact hx))
               clear HE
               go_upto_region 26 with (fail)
               by_cases gvanesvsn:(16:Int)<(vanes.vs.n:Int)
               · go_wp2_with (first | (go_at_call_of 20 (Value.slice As ns cs);refine (M1 _).mono ?_;rintro e w' ⟨rfl,rfl⟩) | (go_at_call_of 20 (Value.slice At nt ct);refine (M2 _).mono ?_;rintro e w' ⟨rfl,rfl⟩) | (go_at_call_of 20 (Value.slice Ae ne ce);refine (M3 _).mono ?_;rintro e w' ⟨rfl,rfl⟩) | (go_at_call_of 20 (Value.slice Ak nk ck);refine (M4 _).mono ?_;rintro e w' ⟨rfl,rfl⟩))
                 go_ret
                 exact ⟨false,rfl,fun h=>absurd h (by decide),by rw [HBW.out];exact HB9.out⟩
               by_cases gtnsize:(20:Int)<(tn.size:Int)
               · go_wp2_with (first | (go_at_call_of 20 (Value.slice As ns cs);refine (M1 _).mono ?_;rintro e w' ⟨rfl,rfl⟩) | (go_at_call_of 20 (Value.slice At nt ct);refine (M2 _).mono ?_;rintro e w' ⟨rfl,rfl⟩) | (go_at_call_of 20 (Value.slice Ae ne ce);refine (M3 _).mono ?_;rintro e w' ⟨rfl,rfl⟩) | (go_at_call_of 20 (Value.slice Ak nk ck);refine (M4 _).mono ?_;rintro e w' ⟨rfl,rfl⟩))
                 go_ret
                 exact ⟨false,rfl,fun h=>absurd h (by decide),by rw [HBW.out];exact HB9.out⟩
               by_cases gpsn:(14:Int)<(ps.n:Int)
               · go_wp2_with (first | (go_at_call_of 20 (Value.slice As ns cs);refine (M1 _).mono ?_;rintro e w' ⟨rfl,rfl⟩) | (go_at_call_of 20 (Value.slice At nt ct);refine (M2 _).mono ?_;rintro e w' ⟨rfl,rfl⟩) | (go_at_call_of 20 (Value.slice Ae ne ce);refine (M3 _).mono ?_;rintro e w' ⟨rfl,rfl⟩) | (go_at_call_of 20 (Value.slice Ak nk ck);refine (M4 _).mono ?_;rintro e w' ⟨rfl,rfl⟩))
                 go_ret
                 exact ⟨false,rfl,fun h=>absurd h (by decide),by rw [HBW.out];exact HB9.out⟩
               cases v3 with
               | false =>
                go_wp2_with (first | (go_at_call_of 20 (Value.slice As ns cs);refine (M1 _).mono ?_;rintro e w' ⟨rfl,rfl⟩) | (go_at_call_of 20 (Value.slice At nt ct);refine (M2 _).mono ?_;rintro e w' ⟨rfl,rfl⟩) | (go_at_call_of 20 (Value.slice Ae ne ce);refine (M3 _).mono ?_;rintro e w' ⟨rfl,rfl⟩) | (go_at_call_of 20 (Value.slice Ak nk ck);refine (M4 _).mono ?_;rintro e w' ⟨rfl,rfl⟩))
                go_ret
                exact ⟨false,rfl,fun h=>absurd h (by decide),by rw [HBW.out];exact HB9.out⟩
               | true =>
               by_cases g32:(32:Int)<(acs.n:Int)
               · go_wp2_with (first | (go_at_call_of 20 (Value.slice As ns cs);refine (M1 _).mono ?_;rintro e w' ⟨rfl,rfl⟩) | (go_at_call_of 20 (Value.slice At nt ct);refine (M2 _).mono ?_;rintro e w' ⟨rfl,rfl⟩) | (go_at_call_of 20 (Value.slice Ae ne ce);refine (M3 _).mono ?_;rintro e w' ⟨rfl,rfl⟩) | (go_at_call_of 20 (Value.slice Ak nk ck);refine (M4 _).mono ?_;rintro e w' ⟨rfl,rfl⟩))
                 go_ret
                 exact ⟨false,rfl,fun h=>absurd h (by decide),by rw [HBW.out];exact HB9.out⟩
               cases v4 with
               | false =>
                go_wp2_with (first | (go_at_call_of 20 (Value.slice As ns cs);refine (M1 _).mono ?_;rintro e w' ⟨rfl,rfl⟩) | (go_at_call_of 20 (Value.slice At nt ct);refine (M2 _).mono ?_;rintro e w' ⟨rfl,rfl⟩) | (go_at_call_of 20 (Value.slice Ae ne ce);refine (M3 _).mono ?_;rintro e w' ⟨rfl,rfl⟩) | (go_at_call_of 20 (Value.slice Ak nk ck);refine (M4 _).mono ?_;rintro e w' ⟨rfl,rfl⟩))
                go_ret
                exact ⟨false,rfl,fun h=>absurd h (by decide),by rw [HBW.out];exact HB9.out⟩
               | true =>
               by_cases g14:(14:Int)<(np:Int)
               · go_wp2_with (first | (go_at_call_of 20 (Value.slice As ns cs);refine (M1 _).mono ?_;rintro e w' ⟨rfl,rfl⟩) | (go_at_call_of 20 (Value.slice At nt ct);refine (M2 _).mono ?_;rintro e w' ⟨rfl,rfl⟩) | (go_at_call_of 20 (Value.slice Ae ne ce);refine (M3 _).mono ?_;rintro e w' ⟨rfl,rfl⟩) | (go_at_call_of 20 (Value.slice Ak nk ck);refine (M4 _).mono ?_;rintro e w' ⟨rfl,rfl⟩))
                 go_ret
                 exact ⟨false,rfl,fun h=>absurd h (by decide),by rw [HBW.out];exact HB9.out⟩
               go_upto_region 28 with (first | (go_at_call_of 20 (Value.slice As ns cs);refine (M1 _).mono ?_;rintro e w' ⟨rfl,rfl⟩) | (go_at_call_of 20 (Value.slice At nt ct);refine (M2 _).mono ?_;rintro e w' ⟨rfl,rfl⟩) | (go_at_call_of 20 (Value.slice Ae ne ce);refine (M3 _).mono ?_;rintro e w' ⟨rfl,rfl⟩) | (go_at_call_of 20 (Value.slice Ak nk ck);refine (M4 _).mono ?_;rintro e w' ⟨rfl,rfl⟩))
               clear M3 M4
               go_wp2
               go_loop [9] (fun i=>∃ k:Nat,k≤np∧i=.int .i64 k∧∀ x∈people.take k,x.1.size≤20) (fun i=>np - (intOf i).toNat)
               case atStart=>exact ⟨0,Nat.zero_le _,rfl,fun x hx=>absurd hx (by simp)⟩
               case round =>
                obtain ⟨k,hk,rfl,he⟩:=hrel
                have HE:=Lib.hid he;clear he
                by_cases hlt:k<np
                · have hkl:k<people.length:=by rw [show people.length=np from HH.out.people.1];exact hlt
                  obtain ⟨x,hev⟩:∃ ev,people[k]?=some ev:=⟨_,List.getElem?_eq_getElem hkl⟩
                  obtain ⟨bb,off,rfl,hbB,z0,z1⟩:=Rd.sw HH.out.people.2 hev
                  have HEV:=Lib.hid hev
                  clear hkl hev
                  by_cases c0:(20:Int)<(x.1.size:Int)
                  · go_wp2
                    go_ret
                    exact ⟨false,rfl,fun h=>absurd h (by decide),by rw [HBW.out];exact HB9.out⟩
                  have HN:=Lib.hid (zha HE.out HEV.out (show x.1.size≤20 by omega))
                  clear HE
                  go_wp2
                  go_round
                  case rel=>exact ⟨k+1,by omega,by go_num,HN.out⟩
                  case measure=>simp [intOf];omega
                · have HF9:=Lib.hid (fun x (hx:x∈people)=>HE.out x (by rw [List.take_of_length_le (by rw [show people.length=np from HH.out.people.1];omega)];exact hx))
                  clear HE
                  go_wp2
                  go_ret
                  exact ⟨true,rfl,fun _=>⟨⟨⟨zed (by omega) HV1.out,zed (by omega) HV2.out,⟨by rw [show sws.length=nw from HH.out.plant.sws.1];omega,fun x hx=>by have:=HF5.out x hx;omega⟩,⟨by rw [show rts.length=nr from HH.out.plant.rts.1];omega,fun x hx=>by have h1:=HF6.out x hx;have h2:=(HH.out.plant.rt x hx).1.1;have h3:=(HH.out.plant.rt x hx).2.1;omega⟩⟩,⟨⟨by rw [show sts.length=nm from HH.out.net.sts.1];omega,fun x hx=>by have:=HF7.out x hx;omega⟩,by rw [show fss.length=nf from HH.out.net.fss.1];omega,⟨by rw [show tns.length=nn from HH.out.net.tns.1];omega,fun x hx=>by have h1:=HF8.out x hx;have h2:=(HH.out.net.tn x hx).1;omega⟩⟩,by have h2:vanes.vanes.length=vanes.vs.n:=HH.out.vanes.1;simp only;omega,by simp only;omega,by have h2:pcs.length=ps.n:=HH.out.pcs.1;simp only;omega,zed (by omega) HV3.out,by have h2:acts.length=acs.n:=HH.out.acts.1;simp only;omega,zed (by omega) HV4.out,by have h2:people.length=np:=HH.out.people.1;simp only;omega,fun x hx=>by have:=HF9.out x hx;omega⟩,fun s hs=>by have h9:=HV3.out;simp only [zge,Bool.and_eq_true,decide_eq_true_eq,List.all_eq_true] at h9;exact h9.2 s hs⟩,by rw [HBW.out];exact HB9.out⟩
end Go.Proofs.YtoodbfkbbchjiaaGreatDoor
