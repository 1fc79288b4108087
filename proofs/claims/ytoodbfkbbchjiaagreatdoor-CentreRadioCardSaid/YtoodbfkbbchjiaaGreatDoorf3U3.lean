import Derived.Test.YtoodbfkbbchjiaaGreatDoorf3S10
import Derived.Test.YtoodbfkbbchjiaaGreatDoorf3KA
import Derived.Deep.Slices
import Derived.Deep.Strs
import Derived.ChangeSame
set_option maxRecDepth 100000
set_option maxHeartbeats 16000000
namespace Go.Proofs.YtoodbfkbbchjiaaGreatDoor
open Go.ChangeShapes Go.WideShapes Go.Deep Go.RowKit Go Go.Joins
theorem zje {α:Type} {p:Nat→α→Prop}:∀ (n:Nat),(∀ i,i<n→∃ a,p i a)→∃ l:List α,l.length=n∧∀ i a,l[i]?=some a→p i a
 | 0,_=>⟨[],rfl,fun i a h=>by simp at h⟩
 | n+1,h=>by
  obtain ⟨l,hl,hp⟩:=zje (p:=p) n fun i hi=>h i (by omega)
  obtain ⟨a,ha⟩:=h n (by omega)
  refine ⟨l++[a],by simp [hl],fun i b hb=>?_⟩
  rcases Nat.lt_or_ge i n with hi | hi
  · exact hp i b (by rwa [List.getElem?_append_left (by omega)] at hb)
  · rw [List.getElem?_append_right (by omega),hl] at hb
    rcases hm:i - n with _ | m
    · rw [hm] at hb
      obtain rfl:a=b:=by simpa using hb
      obtain rfl:i=n:=by omega
      exact ha
    · rw [hm] at hb
      simp at hb
theorem flat_in {α:Type} {cells:α→List Value} {k:Nat} (hk:∀ a,(cells a).length=k):∀ (l:List α) (j:Nat) (u:Value),(l.flatMap cells)[j]?=some u→∃ i r a,l[i]?=some a∧(cells a)[r]?=some u∧j=i * k+r∧r<k
 | [],j,u,h=>by simp at h
 | a :: l,j,u,h=>by
  rw [List.flatMap_cons] at h
  rcases Nat.lt_or_ge j k with hj | hj
  · rw [List.getElem?_append_left (by rw [hk];exact hj)] at h
    exact ⟨0,j,a,rfl,h,by omega,hj⟩
  · rw [List.getElem?_append_right (by rw [hk];exact hj),hk] at h
    obtain ⟨i,r,b,h1,h2,h3,h4⟩:=flat_in hk l (j - k) u h
    exact ⟨i+1,r,b,by simpa using h1,h2,by rw [Nat.add_mul,Nat.one_mul];omega,h4⟩
theorem add_none {a:Addr} (h:a.spot=none) (n:Nat):a.add n=⟨a.block,a.off+n,none⟩:=by
 unfold Addr.add
 split
 · rename_i h0
   subst h0
   rw [← h]
   rfl
 · rfl
section
variable {H:Type} {enc:TypeId × Value→H} {w:World} {base:Nat} {spare:Nat→Bool} {held:Bool}
theorem zcf {α:Type} {P:Program} (Q:α→Prop) (cells:α→List Value) {t e:TypeId} {k fuel:Nat} {cs:List Value} {x:DataW H × List MemPlace} (ht:P.underlying t=some (.slice e)) (hc:P.cellsOf e=k) (hlen:∀ a,(cells a).length=k)
 (hel:∀ n cs' y,DataW.trod enc P w base spare held n e cs'=some y→∃ a,cs'=cells a∧Q a) (h:DataW.trod enc P w base spare held fuel t cs=some x) :
 ∃ A n c,∃ l:List α,cs=[.slice A n c]∧l.length=n∧n≤9223372036854775807∧Rd w w.heap.size A (l.flatMap cells)∧∀ a∈l,Q a:=by
 rcases open_slice ht h with ⟨rfl,_⟩ | ⟨a,len,cap,m,n,D,Pl,rfl,hb,hl,hm,hmm,_,hx⟩
 · exact ⟨none,0,0,[],rfl,rfl,Nat.zero_le _,fun k u hk=>by simp at hk,fun a ha=>absurd ha (by simp)⟩
 · have hlm:len≤m:=by
    rw [hmm]
    split <;> omega
   obtain ⟨l,hl',hp⟩:=zje (p:=fun i z=>w.cells? base (a.add (i * k)) k=some (cells z)∧Q z) len fun i hi=>by
    obtain ⟨cs',h1,h2⟩:=hx i (by omega)
    obtain ⟨z,rfl,hz⟩:=hel _ _ _ h2
    rw [hc] at h1
    exact ⟨z,h1,hz⟩
   unfold maxLen at hm
   refine ⟨some a,len,cap,l,rfl,hl',by omega,fun j u hj=>?_,fun x hx=>by
    obtain ⟨i,hi⟩:=List.getElem?_of_mem hx
    exact (hp i x hi).2⟩
   obtain ⟨i,r,z,h1,h2,rfl,h4⟩:=flat_in hlen l j u hj
   obtain ⟨_,_,hat⟩:=World.cells?_some (hp i z h1).1
   have hcell:=(hat r h4).trans h2
   rw [add_add] at hcell
   have hspot:a.spot=none:=by
    have hs:=World.cell?_spot hcell
    unfold Addr.add at hs
    split at hs
    · exact hs
    · rename_i hne
      have h5:=World.cell?_spot ((hat r h4).trans h2)
      by_cases h0:i=0∧r=0
      · obtain ⟨rfl,rfl⟩:=h0
        simp at hne
      · 
        obtain ⟨z0,hz0⟩:∃ z0,l[0]?=some z0:=by
         have:0<l.length:=by
          have:=(List.getElem?_eq_some_iff.1 h1).1
          omega
         exact ⟨_,List.getElem?_eq_getElem this⟩
        obtain ⟨_,_,hat0⟩:=World.cells?_some (hp 0 z0 hz0).1
        have hk0:0<k:=by omega
        have h6:=hat0 0 hk0
        have h7:(cells z0)[0]?=some ((cells z0)[0]'(by rw [hlen];exact hk0)):=List.getElem?_eq_getElem _
        have h8:=World.cell?_spot (h6.trans h7)
        simpa [Addr.add] using h8
   rw [add_none hspot] at hcell
   obtain ⟨ab,ao,az⟩:=a
   simp only at hspot hcell
   subst hspot
   exact ⟨ab,ao,rfl,zfz hcell,hcell⟩
theorem flat_strs:∀ l:List ByteArray,l.flatMap (fun s:ByteArray=>[Value.string s])=strCells l
 | []=>rfl
 | a :: l=>by rw [List.flatMap_cons,flat_strs l];rfl
theorem flat_ints:∀ l:List Int,l.flatMap (fun n:Int=>[Value.int .i64 n])=zai l
 | []=>rfl
 | a :: l=>by rw [List.flatMap_cons,flat_ints l];rfl
theorem zfs {fuel:Nat} {t e:TypeId} {A:Option Addr} {n c:Nat} {x:DataW H × List MemPlace} (ht:Tryz.prog.underlying t=some (.slice e)) (h:DataW.trod enc Tryz.prog w base spare held fuel t [.slice A n c]=some x):n≤c:=by
 rcases open_slice ht h with ⟨h1,_⟩ | ⟨a,len,cap,m,n',D,Pl,h1,hb,hl,hm,hmm,_,hx⟩
 · cases h1
   exact Nat.le_refl _
 · simp only [List.cons.injEq,Value.slice.injEq,and_true] at h1
   obtain ⟨-,rfl,rfl⟩:=h1
   exact hl
theorem zf9:Tryz.prog.cellsOf 3=1:=by kernel_rfl
theorem ofc4:Tryz.prog.cellsOf 4=1:=by kernel_rfl
theorem ofc9:Tryz.prog.cellsOf 9=1:=by kernel_rfl
theorem ofc22:Tryz.prog.cellsOf 22=1:=by kernel_rfl
theorem ofc23:Tryz.prog.cellsOf 23=1:=by kernel_rfl
theorem ofc24:Tryz.prog.cellsOf 24=1:=by kernel_rfl
theorem ofc27:Tryz.prog.cellsOf 27=1:=by kernel_rfl
theorem ofc28:Tryz.prog.cellsOf 28=1:=by kernel_rfl
theorem ofc29:Tryz.prog.cellsOf 29=1:=by kernel_rfl
theorem ofc32:Tryz.prog.cellsOf 32=1:=by kernel_rfl
theorem ofc35:Tryz.prog.cellsOf 35=1:=by kernel_rfl
theorem ofc40:Tryz.prog.cellsOf 40=1:=by kernel_rfl
theorem ofc43:Tryz.prog.cellsOf 43=1:=by kernel_rfl
theorem ofc73:Tryz.prog.cellsOf 81=1:=by kernel_rfl
theorem ofc26:Tryz.prog.cellsOf 26=4:=by kernel_rfl
theorem ofc31:Tryz.prog.cellsOf 31=3:=by kernel_rfl
theorem ofc34:Tryz.prog.cellsOf 34=9:=by kernel_rfl
theorem ofc37:Tryz.prog.cellsOf 37=2:=by kernel_rfl
theorem ofc39:Tryz.prog.cellsOf 39=3:=by kernel_rfl
theorem ofc42:Tryz.prog.cellsOf 42=2:=by kernel_rfl
theorem ofc45:Tryz.prog.cellsOf 45=25:=by kernel_rfl
theorem ofc68:Tryz.prog.cellsOf 76=2:=by kernel_rfl
theorem ofc70:Tryz.prog.cellsOf 78=3:=by kernel_rfl
theorem ofc72:Tryz.prog.cellsOf 80=3:=by kernel_rfl
theorem ofc75:Tryz.prog.cellsOf 83=4:=by kernel_rfl
theorem ofc77:Tryz.prog.cellsOf 53=2:=by kernel_rfl
theorem ofc120:Tryz.prog.cellsOf 116=4:=by kernel_rfl
theorem ofc122:Tryz.prog.cellsOf 118=2:=by kernel_rfl
theorem ofc124:Tryz.prog.cellsOf 120=4:=by kernel_rfl
theorem ofc126:Tryz.prog.cellsOf 122=6:=by kernel_rfl
theorem zgy {fuel:Nat} {cs:List Value} {x:DataW H × List MemPlace} (h:DataW.trod enc Tryz.prog w base spare held fuel 22 cs=some x) :
 ∃ A n c,∃ l:List ByteArray,cs=[.slice A n c]∧l.length=n∧n≤9223372036854775807∧Rd w w.heap.size A (strCells l)∧n≤c:=by
 obtain ⟨A,n,c,l,rfl,h2,h3,h4,_⟩:=zcf (P:=Tryz.prog) (k:=1) (fun _=>True) (fun s:ByteArray=>[Value.string s]) Tryz.underlying22 ofc9 (fun _=>rfl) (fun n cs' y hy=>by
  obtain ⟨b,hb,_⟩:=DataW.trod_string Tryz.underlying9 hy
  exact ⟨b,hb,trivial⟩) h
 refine ⟨A,n,c,l,rfl,h2,h3,?_,zfs Tryz.underlying22 h⟩
 rw [← flat_strs]
 exact h4
theorem zi5 {fuel:Nat} {cs:List Value} {x:DataW H × List MemPlace} (h:DataW.trod enc Tryz.prog w base spare held fuel 32 cs=some x) :
 ∃ A n c,∃ l:List Int,cs=[.slice A n c]∧l.length=n∧n≤9223372036854775807∧Rd w w.heap.size A (zai l)∧n≤c:=by
 obtain ⟨A,n,c,l,rfl,h2,h3,h4,_⟩:=zcf (P:=Tryz.prog) (k:=1) (fun _=>True) (fun s:Int=>[Value.int .i64 s]) Tryz.underlying32 zf9 (fun _=>rfl) (fun n cs' y hy=>by
  obtain ⟨b,hb,_⟩:=DataW.trod_int Tryz.underlying3 hy
  exact ⟨b,hb,trivial⟩) h
 refine ⟨A,n,c,l,rfl,h2,h3,?_,zfs Tryz.underlying32 h⟩
 rw [← flat_ints]
 exact h4
theorem open_sw {n:Nat} {cs:List Value} {y:DataW H × List MemPlace} (h:DataW.trod enc Tryz.prog w base spare held n 76 cs=some y):∃ x:Sw,cs=zgq x∧True:=by
 obtain ⟨xs,n,_,_,hl,hlen,hf⟩:=DataW.trod_struct Tryz.underlying76 h
 match xs,hlen with
 | [y0,y1],_ =>
  rw [ofc68] at hl
  match cs,hl with
  | [c0,c1],_ =>
   have h0:DataW.trod enc Tryz.prog w base spare held n 9 (([c0,c1].drop 0).take (Tryz.prog.cellsOf 9))=some y0:=hf 0 _ rfl
   rw [ofc9] at h0
   have h1:DataW.trod enc Tryz.prog w base spare held n 3 (([c0,c1].drop 1).take (Tryz.prog.cellsOf 3))=some y1:=hf 1 _ rfl
   rw [zf9] at h1
   simp only [List.drop_zero,List.take_succ_cons,List.take_zero,List.drop_succ_cons] at h0 h1
   obtain ⟨s,e0,_⟩:=DataW.trod_string Tryz.underlying9 h0
   obtain ⟨a,e1,_⟩:=DataW.trod_int Tryz.underlying3 h1
   simp only [List.cons.injEq,and_true] at e0
   simp only [List.cons.injEq,and_true] at e1
   subst e0
   subst e1
   exact ⟨(s,a),rfl,trivial⟩
theorem open_ppl {n:Nat} {cs:List Value} {y:DataW H × List MemPlace} (h:DataW.trod enc Tryz.prog w base spare held n 53 cs=some y):∃ x:Sw,cs=zgq x∧True:=by
 obtain ⟨xs,n,_,_,hl,hlen,hf⟩:=DataW.trod_struct Tryz.underlying53 h
 match xs,hlen with
 | [y0,y1],_ =>
  rw [ofc77] at hl
  match cs,hl with
  | [c0,c1],_ =>
   have h0:DataW.trod enc Tryz.prog w base spare held n 9 (([c0,c1].drop 0).take (Tryz.prog.cellsOf 9))=some y0:=hf 0 _ rfl
   rw [ofc9] at h0
   have h1:DataW.trod enc Tryz.prog w base spare held n 3 (([c0,c1].drop 1).take (Tryz.prog.cellsOf 3))=some y1:=hf 1 _ rfl
   rw [zf9] at h1
   simp only [List.drop_zero,List.take_succ_cons,List.take_zero,List.drop_succ_cons] at h0 h1
   obtain ⟨s,e0,_⟩:=DataW.trod_string Tryz.underlying9 h0
   obtain ⟨a,e1,_⟩:=DataW.trod_int Tryz.underlying3 h1
   simp only [List.cons.injEq,and_true] at e0
   simp only [List.cons.injEq,and_true] at e1
   subst e0
   subst e1
   exact ⟨(s,a),rfl,trivial⟩
theorem open_rt {n:Nat} {cs:List Value} {y:DataW H × List MemPlace} (h:DataW.trod enc Tryz.prog w base spare held n 78 cs=some y):∃ a:RtV,cs=rtVals a∧zcs w w.heap.size a.s a.secs.length (zai a.secs)∧zcs w w.heap.size a.d a.needs.length (zai a.needs)∧a.s.n≤a.s.c∧a.s.n≤9223372036854775807∧a.d.n≤9223372036854775807:=by
 obtain ⟨xs,n,_,_,hl,hlen,hf⟩:=DataW.trod_struct Tryz.underlying78 h
 match xs,hlen with
 | [y0,y1,y2],_ =>
  rw [ofc70] at hl
  match cs,hl with
  | [c0,c1,c2],_ =>
   have h0:DataW.trod enc Tryz.prog w base spare held n 9 (([c0,c1,c2].drop 0).take (Tryz.prog.cellsOf 9))=some y0:=hf 0 _ rfl
   rw [ofc9] at h0
   have h1:DataW.trod enc Tryz.prog w base spare held n 32 (([c0,c1,c2].drop 1).take (Tryz.prog.cellsOf 32))=some y1:=hf 1 _ rfl
   rw [ofc32] at h1
   have h2:DataW.trod enc Tryz.prog w base spare held n 32 (([c0,c1,c2].drop 2).take (Tryz.prog.cellsOf 32))=some y2:=hf 2 _ rfl
   rw [ofc32] at h2
   simp only [List.drop_zero,List.take_succ_cons,List.take_zero,List.drop_succ_cons] at h0 h1 h2
   obtain ⟨s,e0,_⟩:=DataW.trod_string Tryz.underlying9 h0
   obtain ⟨A1,n1,c1,l1,e1,hl1,hm1,hr1,hc1⟩:=zi5 h1
   obtain ⟨A2,n2,c2,l2,e2,hl2,hm2,hr2,hc2⟩:=zi5 h2
   simp only [List.cons.injEq,and_true] at e0
   simp only [List.cons.injEq,and_true] at e1
   simp only [List.cons.injEq,and_true] at e2
   subst e0
   subst e1
   subst e2
   exact ⟨⟨s,⟨A1,n1,c1⟩,l1,⟨A2,n2,c2⟩,l2⟩,rfl,⟨hl1,hr1⟩,⟨hl2,hr2⟩,hc1,hm1,hm2⟩
theorem open_sws {fuel:Nat} {cs:List Value} {x:DataW H × List MemPlace} (h:DataW.trod enc Tryz.prog w base spare held fuel 23 cs=some x) :
 ∃ A n c,∃ l:List Sw,cs=[.slice A n c]∧l.length=n∧n≤9223372036854775807∧Rd w w.heap.size A (zbl l)∧n≤c∧∀ a∈l,True:=by
 obtain ⟨A,n,c,l,rfl,h2,h3,h4,h5⟩:=zcf (P:=Tryz.prog) (k:=2) (fun a=>True) zgq Tryz.underlying23 ofc68 (fun _=>rfl) (fun _ _ _ hy=>open_sw hy) h
 exact ⟨A,n,c,l,rfl,h2,h3,h4,zfs Tryz.underlying23 h,h5⟩
theorem open_ppls {fuel:Nat} {cs:List Value} {x:DataW H × List MemPlace} (h:DataW.trod enc Tryz.prog w base spare held fuel 43 cs=some x) :
 ∃ A n c,∃ l:List Sw,cs=[.slice A n c]∧l.length=n∧n≤9223372036854775807∧Rd w w.heap.size A (zbl l)∧n≤c∧∀ a∈l,True:=by
 obtain ⟨A,n,c,l,rfl,h2,h3,h4,h5⟩:=zcf (P:=Tryz.prog) (k:=2) (fun a=>True) zgq Tryz.underlying43 ofc77 (fun _=>rfl) (fun _ _ _ hy=>open_ppl hy) h
 exact ⟨A,n,c,l,rfl,h2,h3,h4,zfs Tryz.underlying43 h,h5⟩
theorem open_rts {fuel:Nat} {cs:List Value} {x:DataW H × List MemPlace} (h:DataW.trod enc Tryz.prog w base spare held fuel 24 cs=some x) :
 ∃ A n c,∃ l:List RtV,cs=[.slice A n c]∧l.length=n∧n≤9223372036854775807∧Rd w w.heap.size A (zd1 l)∧n≤c∧∀ a∈l,zcs w w.heap.size a.s a.secs.length (zai a.secs)∧zcs w w.heap.size a.d a.needs.length (zai a.needs)∧a.s.n≤a.s.c∧a.s.n≤9223372036854775807∧a.d.n≤9223372036854775807:=by
 obtain ⟨A,n,c,l,rfl,h2,h3,h4,h5⟩:=zcf (P:=Tryz.prog) (k:=3) (fun a=>zcs w w.heap.size a.s a.secs.length (zai a.secs)∧zcs w w.heap.size a.d a.needs.length (zai a.needs)∧a.s.n≤a.s.c∧a.s.n≤9223372036854775807∧a.d.n≤9223372036854775807) rtVals Tryz.underlying24 ofc70 (fun _=>rfl) (fun _ _ _ hy=>open_rt hy) h
 exact ⟨A,n,c,l,rfl,h2,h3,h4,zfs Tryz.underlying24 h,h5⟩
theorem open_plant {n:Nat} {cs:List Value} {y:DataW H × List MemPlace} (h:DataW.trod enc Tryz.prog w base spare held n 26 cs=some y):∃ p:PlantV,cs=zap p∧PlantAt w w.heap.size p∧p.ss.n≤9223372036854775807∧p.ts.n≤9223372036854775807∧p.ws.n≤9223372036854775807∧p.rs.n≤9223372036854775807∧∀ r∈p.rts,r.s.n≤9223372036854775807∧r.d.n≤9223372036854775807:=by
 obtain ⟨xs,n,_,_,hl,hlen,hf⟩:=DataW.trod_struct Tryz.underlying26 h
 match xs,hlen with
 | [y0,y1,y2,y3],_ =>
  rw [ofc26] at hl
  match cs,hl with
  | [c0,c1,c2,c3],_ =>
   have h0:DataW.trod enc Tryz.prog w base spare held n 22 (([c0,c1,c2,c3].drop 0).take (Tryz.prog.cellsOf 22))=some y0:=hf 0 _ rfl
   rw [ofc22] at h0
   have h1:DataW.trod enc Tryz.prog w base spare held n 22 (([c0,c1,c2,c3].drop 1).take (Tryz.prog.cellsOf 22))=some y1:=hf 1 _ rfl
   rw [ofc22] at h1
   have h2:DataW.trod enc Tryz.prog w base spare held n 23 (([c0,c1,c2,c3].drop 2).take (Tryz.prog.cellsOf 23))=some y2:=hf 2 _ rfl
   rw [ofc23] at h2
   have h3:DataW.trod enc Tryz.prog w base spare held n 24 (([c0,c1,c2,c3].drop 3).take (Tryz.prog.cellsOf 24))=some y3:=hf 3 _ rfl
   rw [ofc24] at h3
   simp only [List.drop_zero,List.take_succ_cons,List.take_zero,List.drop_succ_cons] at h0 h1 h2 h3
   obtain ⟨A1,n1,c1,l1,e0,hl1,hm1,hr1,hc1⟩:=zgy h0
   obtain ⟨A2,n2,c2,l2,e1,hl2,hm2,hr2,hc2⟩:=zgy h1
   obtain ⟨A3,n3,c3,l3,e2,hl3,hm3,hr3,hc3,hq3⟩:=open_sws h2
   obtain ⟨A4,n4,c4,l4,e3,hl4,hm4,hr4,hc4,hq4⟩:=open_rts h3
   simp only [List.cons.injEq,and_true] at e0
   simp only [List.cons.injEq,and_true] at e1
   simp only [List.cons.injEq,and_true] at e2
   simp only [List.cons.injEq,and_true] at e3
   subst e0
   subst e1
   subst e2
   subst e3
   exact ⟨⟨⟨A1,n1,c1⟩,l1,⟨A2,n2,c2⟩,l2,⟨A3,n3,c3⟩,l3,⟨A4,n4,c4⟩,l4⟩,rfl,⟨⟨hl1,hr1⟩,⟨hl2,hr2⟩,⟨hl3,hr3⟩,⟨hl4,hr4⟩,fun r hr=>⟨(hq4 r hr).1,(hq4 r hr).2.1⟩,hc1,hc2,hc3,hc4,fun r hr=>(hq4 r hr).2.2.1⟩,hm1,hm2,hm3,hm4,fun r hr=>(hq4 r hr).2.2.2⟩
theorem open_st {n:Nat} {cs:List Value} {y:DataW H × List MemPlace} (h:DataW.trod enc Tryz.prog w base spare held n 80 cs=some y):∃ x:StV,cs=zit x∧True:=by
 obtain ⟨xs,n,_,_,hl,hlen,hf⟩:=DataW.trod_struct Tryz.underlying80 h
 match xs,hlen with
 | [y0,y1,y2],_ =>
  rw [ofc72] at hl
  match cs,hl with
  | [c0,c1,c2],_ =>
   have h0:DataW.trod enc Tryz.prog w base spare held n 9 (([c0,c1,c2].drop 0).take (Tryz.prog.cellsOf 9))=some y0:=hf 0 _ rfl
   rw [ofc9] at h0
   have h1:DataW.trod enc Tryz.prog w base spare held n 3 (([c0,c1,c2].drop 1).take (Tryz.prog.cellsOf 3))=some y1:=hf 1 _ rfl
   rw [zf9] at h1
   have h2:DataW.trod enc Tryz.prog w base spare held n 4 (([c0,c1,c2].drop 2).take (Tryz.prog.cellsOf 4))=some y2:=hf 2 _ rfl
   rw [ofc4] at h2
   simp only [List.drop_zero,List.take_succ_cons,List.take_zero,List.drop_succ_cons] at h0 h1 h2
   obtain ⟨s,e0,_⟩:=DataW.trod_string Tryz.underlying9 h0
   obtain ⟨a,e1,_⟩:=DataW.trod_int Tryz.underlying3 h1
   obtain ⟨b,e2,_⟩:=DataW.trod_bool Tryz.underlying4 h2
   simp only [List.cons.injEq,and_true] at e0
   simp only [List.cons.injEq,and_true] at e1
   simp only [List.cons.injEq,and_true] at e2
   subst e0
   subst e1
   subst e2
   exact ⟨(s,a,b),rfl,trivial⟩
theorem open_fs {n:Nat} {cs:List Value} {y:DataW H × List MemPlace} (h:DataW.trod enc Tryz.prog w base spare held n 116 cs=some y):∃ x:FsV,cs=zjk x∧True:=by
 obtain ⟨xs,n,_,_,hl,hlen,hf⟩:=DataW.trod_struct Tryz.underlying116 h
 match xs,hlen with
 | [y0,y1,y2,y3],_ =>
  rw [ofc120] at hl
  match cs,hl with
  | [c0,c1,c2,c3],_ =>
   have h0:DataW.trod enc Tryz.prog w base spare held n 3 (([c0,c1,c2,c3].drop 0).take (Tryz.prog.cellsOf 3))=some y0:=hf 0 _ rfl
   rw [zf9] at h0
   have h1:DataW.trod enc Tryz.prog w base spare held n 3 (([c0,c1,c2,c3].drop 1).take (Tryz.prog.cellsOf 3))=some y1:=hf 1 _ rfl
   rw [zf9] at h1
   have h2:DataW.trod enc Tryz.prog w base spare held n 3 (([c0,c1,c2,c3].drop 2).take (Tryz.prog.cellsOf 3))=some y2:=hf 2 _ rfl
   rw [zf9] at h2
   have h3:DataW.trod enc Tryz.prog w base spare held n 3 (([c0,c1,c2,c3].drop 3).take (Tryz.prog.cellsOf 3))=some y3:=hf 3 _ rfl
   rw [zf9] at h3
   simp only [List.drop_zero,List.take_succ_cons,List.take_zero,List.drop_succ_cons] at h0 h1 h2 h3
   obtain ⟨a,e0,_⟩:=DataW.trod_int Tryz.underlying3 h0
   obtain ⟨b,e1,_⟩:=DataW.trod_int Tryz.underlying3 h1
   obtain ⟨c,e2,_⟩:=DataW.trod_int Tryz.underlying3 h2
   obtain ⟨d,e3,_⟩:=DataW.trod_int Tryz.underlying3 h3
   simp only [List.cons.injEq,and_true] at e0
   simp only [List.cons.injEq,and_true] at e1
   simp only [List.cons.injEq,and_true] at e2
   simp only [List.cons.injEq,and_true] at e3
   subst e0
   subst e1
   subst e2
   subst e3
   exact ⟨⟨a,b,c,d⟩,rfl,trivial⟩
theorem open_sp {n:Nat} {cs:List Value} {y:DataW H × List MemPlace} (h:DataW.trod enc Tryz.prog w base spare held n 118 cs=some y):∃ x:Int × Int,cs=ziu x∧True:=by
 obtain ⟨xs,n,_,_,hl,hlen,hf⟩:=DataW.trod_struct Tryz.underlying118 h
 match xs,hlen with
 | [y0,y1],_ =>
  rw [ofc122] at hl
  match cs,hl with
  | [c0,c1],_ =>
   have h0:DataW.trod enc Tryz.prog w base spare held n 3 (([c0,c1].drop 0).take (Tryz.prog.cellsOf 3))=some y0:=hf 0 _ rfl
   rw [zf9] at h0
   have h1:DataW.trod enc Tryz.prog w base spare held n 3 (([c0,c1].drop 1).take (Tryz.prog.cellsOf 3))=some y1:=hf 1 _ rfl
   rw [zf9] at h1
   simp only [List.drop_zero,List.take_succ_cons,List.take_zero,List.drop_succ_cons] at h0 h1
   obtain ⟨a,e0,_⟩:=DataW.trod_int Tryz.underlying3 h0
   obtain ⟨b,e1,_⟩:=DataW.trod_int Tryz.underlying3 h1
   simp only [List.cons.injEq,and_true] at e0
   simp only [List.cons.injEq,and_true] at e1
   subst e0
   subst e1
   exact ⟨(a,b),rfl,trivial⟩
theorem open_sts {fuel:Nat} {cs:List Value} {x:DataW H × List MemPlace} (h:DataW.trod enc Tryz.prog w base spare held fuel 27 cs=some x) :
 ∃ A n c,∃ l:List StV,cs=[.slice A n c]∧l.length=n∧n≤9223372036854775807∧Rd w w.heap.size A (zff l)∧n≤c∧∀ a∈l,True:=by
 obtain ⟨A,n,c,l,rfl,h2,h3,h4,h5⟩:=zcf (P:=Tryz.prog) (k:=3) (fun a=>True) zit Tryz.underlying27 ofc72 (fun _=>rfl) (fun _ _ _ hy=>open_st hy) h
 exact ⟨A,n,c,l,rfl,h2,h3,h4,zfs Tryz.underlying27 h,h5⟩
theorem open_fss {fuel:Nat} {cs:List Value} {x:DataW H × List MemPlace} (h:DataW.trod enc Tryz.prog w base spare held fuel 28 cs=some x) :
 ∃ A n c,∃ l:List FsV,cs=[.slice A n c]∧l.length=n∧n≤9223372036854775807∧Rd w w.heap.size A (zfo l)∧n≤c∧∀ a∈l,True:=by
 obtain ⟨A,n,c,l,rfl,h2,h3,h4,h5⟩:=zcf (P:=Tryz.prog) (k:=4) (fun a=>True) zjk Tryz.underlying28 ofc120 (fun _=>rfl) (fun _ _ _ hy=>open_fs hy) h
 exact ⟨A,n,c,l,rfl,h2,h3,h4,zfs Tryz.underlying28 h,h5⟩
theorem open_sps {fuel:Nat} {cs:List Value} {x:DataW H × List MemPlace} (h:DataW.trod enc Tryz.prog w base spare held fuel 81 cs=some x) :
 ∃ A n c,∃ l:List (Int × Int),cs=[.slice A n c]∧l.length=n∧n≤9223372036854775807∧Rd w w.heap.size A (zc4 l)∧n≤c∧∀ a∈l,True:=by
 obtain ⟨A,n,c,l,rfl,h2,h3,h4,h5⟩:=zcf (P:=Tryz.prog) (k:=2) (fun a=>True) ziu Tryz.underlying81 ofc122 (fun _=>rfl) (fun _ _ _ hy=>open_sp hy) h
 exact ⟨A,n,c,l,rfl,h2,h3,h4,zfs Tryz.underlying81 h,h5⟩
theorem open_tn {n:Nat} {cs:List Value} {y:DataW H × List MemPlace} (h:DataW.trod enc Tryz.prog w base spare held n 83 cs=some y):∃ a:TnV,cs=zki a∧zcs w w.heap.size a.s a.steps.length (zc4 a.steps)∧a.s.n≤9223372036854775807:=by
 obtain ⟨xs,n,_,_,hl,hlen,hf⟩:=DataW.trod_struct Tryz.underlying83 h
 match xs,hlen with
 | [y0,y1,y2,y3],_ =>
  rw [ofc75] at hl
  match cs,hl with
  | [c0,c1,c2,c3],_ =>
   have h0:DataW.trod enc Tryz.prog w base spare held n 9 (([c0,c1,c2,c3].drop 0).take (Tryz.prog.cellsOf 9))=some y0:=hf 0 _ rfl
   rw [ofc9] at h0
   have h1:DataW.trod enc Tryz.prog w base spare held n 3 (([c0,c1,c2,c3].drop 1).take (Tryz.prog.cellsOf 3))=some y1:=hf 1 _ rfl
   rw [zf9] at h1
   have h2:DataW.trod enc Tryz.prog w base spare held n 3 (([c0,c1,c2,c3].drop 2).take (Tryz.prog.cellsOf 3))=some y2:=hf 2 _ rfl
   rw [zf9] at h2
   have h3:DataW.trod enc Tryz.prog w base spare held n 81 (([c0,c1,c2,c3].drop 3).take (Tryz.prog.cellsOf 81))=some y3:=hf 3 _ rfl
   rw [ofc73] at h3
   simp only [List.drop_zero,List.take_succ_cons,List.take_zero,List.drop_succ_cons] at h0 h1 h2 h3
   obtain ⟨s,e0,_⟩:=DataW.trod_string Tryz.underlying9 h0
   obtain ⟨a,e1,_⟩:=DataW.trod_int Tryz.underlying3 h1
   obtain ⟨b,e2,_⟩:=DataW.trod_int Tryz.underlying3 h2
   obtain ⟨A1,n1,c1,l1,e3,hl1,hm1,hr1,hc1,hq1⟩:=open_sps h3
   simp only [List.cons.injEq,and_true] at e0
   simp only [List.cons.injEq,and_true] at e1
   simp only [List.cons.injEq,and_true] at e2
   simp only [List.cons.injEq,and_true] at e3
   subst e0
   subst e1
   subst e2
   subst e3
   exact ⟨⟨s,a,b,⟨A1,n1,c1⟩,l1⟩,rfl,⟨hl1,hr1⟩,hm1⟩
theorem open_tns {fuel:Nat} {cs:List Value} {x:DataW H × List MemPlace} (h:DataW.trod enc Tryz.prog w base spare held fuel 29 cs=some x) :
 ∃ A n c,∃ l:List TnV,cs=[.slice A n c]∧l.length=n∧n≤9223372036854775807∧Rd w w.heap.size A (zeu l)∧n≤c∧∀ a∈l,zcs w w.heap.size a.s a.steps.length (zc4 a.steps)∧a.s.n≤9223372036854775807:=by
 obtain ⟨A,n,c,l,rfl,h2,h3,h4,h5⟩:=zcf (P:=Tryz.prog) (k:=4) (fun a=>zcs w w.heap.size a.s a.steps.length (zc4 a.steps)∧a.s.n≤9223372036854775807) zki Tryz.underlying29 ofc75 (fun _=>rfl) (fun _ _ _ hy=>open_tn hy) h
 exact ⟨A,n,c,l,rfl,h2,h3,h4,zfs Tryz.underlying29 h,h5⟩
theorem open_feed {n:Nat} {cs:List Value} {y:DataW H × List MemPlace} (h:DataW.trod enc Tryz.prog w base spare held n 31 cs=some y):∃ p:NetV,cs=zc9 p∧FeedAt w w.heap.size p∧p.ss.n≤9223372036854775807∧p.fs.n≤9223372036854775807∧p.ts.n≤9223372036854775807∧∀ t∈p.tns,t.s.n≤9223372036854775807:=by
 obtain ⟨xs,n,_,_,hl,hlen,hf⟩:=DataW.trod_struct Tryz.underlying31 h
 match xs,hlen with
 | [y0,y1,y2],_ =>
  rw [ofc31] at hl
  match cs,hl with
  | [c0,c1,c2],_ =>
   have h0:DataW.trod enc Tryz.prog w base spare held n 27 (([c0,c1,c2].drop 0).take (Tryz.prog.cellsOf 27))=some y0:=hf 0 _ rfl
   rw [ofc27] at h0
   have h1:DataW.trod enc Tryz.prog w base spare held n 28 (([c0,c1,c2].drop 1).take (Tryz.prog.cellsOf 28))=some y1:=hf 1 _ rfl
   rw [ofc28] at h1
   have h2:DataW.trod enc Tryz.prog w base spare held n 29 (([c0,c1,c2].drop 2).take (Tryz.prog.cellsOf 29))=some y2:=hf 2 _ rfl
   rw [ofc29] at h2
   simp only [List.drop_zero,List.take_succ_cons,List.take_zero,List.drop_succ_cons] at h0 h1 h2
   obtain ⟨A1,n1,c1,l1,e0,hl1,hm1,hr1,hc1,hq1⟩:=open_sts h0
   obtain ⟨A2,n2,c2,l2,e1,hl2,hm2,hr2,hc2,hq2⟩:=open_fss h1
   obtain ⟨A3,n3,c3,l3,e2,hl3,hm3,hr3,hc3,hq3⟩:=open_tns h2
   simp only [List.cons.injEq,and_true] at e0
   simp only [List.cons.injEq,and_true] at e1
   simp only [List.cons.injEq,and_true] at e2
   subst e0
   subst e1
   subst e2
   exact ⟨⟨⟨A1,n1,c1⟩,l1,⟨A2,n2,c2⟩,l2,⟨A3,n3,c3⟩,l3⟩,rfl,⟨⟨hl1,hr1⟩,⟨hl2,hr2⟩,⟨hl3,hr3⟩,fun r hr=>(hq3 r hr).1⟩,hm1,hm2,hm3,fun r hr=>(hq3 r hr).2⟩
theorem open_van {n:Nat} {cs:List Value} {y:DataW H × List MemPlace} (h:DataW.trod enc Tryz.prog w base spare held n 34 cs=some y):∃ v:VanV,cs=za8 v∧zcs w w.heap.size v.vs v.vanes.length (zai v.vanes)∧v.vs.n≤9223372036854775807:=by
 obtain ⟨xs,n,_,_,hl,hlen,hf⟩:=DataW.trod_struct Tryz.underlying34 h
 match xs,hlen with
 | [y0,y1,y2,y3,y4,y5,y6,y7,y8],_ =>
  rw [ofc34] at hl
  match cs,hl with
  | [c0,c1,c2,c3,c4,c5,c6,c7,c8],_ =>
   have h0:DataW.trod enc Tryz.prog w base spare held n 32 (([c0,c1,c2,c3,c4,c5,c6,c7,c8].drop 0).take (Tryz.prog.cellsOf 32))=some y0:=hf 0 _ rfl
   rw [ofc32] at h0
   have h1:DataW.trod enc Tryz.prog w base spare held n 3 (([c0,c1,c2,c3,c4,c5,c6,c7,c8].drop 1).take (Tryz.prog.cellsOf 3))=some y1:=hf 1 _ rfl
   rw [zf9] at h1
   have h2:DataW.trod enc Tryz.prog w base spare held n 3 (([c0,c1,c2,c3,c4,c5,c6,c7,c8].drop 2).take (Tryz.prog.cellsOf 3))=some y2:=hf 2 _ rfl
   rw [zf9] at h2
   have h3:DataW.trod enc Tryz.prog w base spare held n 3 (([c0,c1,c2,c3,c4,c5,c6,c7,c8].drop 3).take (Tryz.prog.cellsOf 3))=some y3:=hf 3 _ rfl
   rw [zf9] at h3
   have h4:DataW.trod enc Tryz.prog w base spare held n 3 (([c0,c1,c2,c3,c4,c5,c6,c7,c8].drop 4).take (Tryz.prog.cellsOf 3))=some y4:=hf 4 _ rfl
   rw [zf9] at h4
   have h5:DataW.trod enc Tryz.prog w base spare held n 3 (([c0,c1,c2,c3,c4,c5,c6,c7,c8].drop 5).take (Tryz.prog.cellsOf 3))=some y5:=hf 5 _ rfl
   rw [zf9] at h5
   have h6:DataW.trod enc Tryz.prog w base spare held n 3 (([c0,c1,c2,c3,c4,c5,c6,c7,c8].drop 6).take (Tryz.prog.cellsOf 3))=some y6:=hf 6 _ rfl
   rw [zf9] at h6
   have h7:DataW.trod enc Tryz.prog w base spare held n 3 (([c0,c1,c2,c3,c4,c5,c6,c7,c8].drop 7).take (Tryz.prog.cellsOf 3))=some y7:=hf 7 _ rfl
   rw [zf9] at h7
   have h8:DataW.trod enc Tryz.prog w base spare held n 4 (([c0,c1,c2,c3,c4,c5,c6,c7,c8].drop 8).take (Tryz.prog.cellsOf 4))=some y8:=hf 8 _ rfl
   rw [ofc4] at h8
   simp only [List.drop_zero,List.take_succ_cons,List.take_zero,List.drop_succ_cons] at h0 h1 h2 h3 h4 h5 h6 h7 h8
   obtain ⟨A1,n1,c1,l1,e0,hl1,hm1,hr1,hc1⟩:=zi5 h0
   obtain ⟨i1,e1,_⟩:=DataW.trod_int Tryz.underlying3 h1
   obtain ⟨i2,e2,_⟩:=DataW.trod_int Tryz.underlying3 h2
   obtain ⟨i3,e3,_⟩:=DataW.trod_int Tryz.underlying3 h3
   obtain ⟨i4,e4,_⟩:=DataW.trod_int Tryz.underlying3 h4
   obtain ⟨i5,e5,_⟩:=DataW.trod_int Tryz.underlying3 h5
   obtain ⟨i6,e6,_⟩:=DataW.trod_int Tryz.underlying3 h6
   obtain ⟨i7,e7,_⟩:=DataW.trod_int Tryz.underlying3 h7
   obtain ⟨b1,e8,_⟩:=DataW.trod_bool Tryz.underlying4 h8
   simp only [List.cons.injEq,and_true] at e0
   simp only [List.cons.injEq,and_true] at e1
   simp only [List.cons.injEq,and_true] at e2
   simp only [List.cons.injEq,and_true] at e3
   simp only [List.cons.injEq,and_true] at e4
   simp only [List.cons.injEq,and_true] at e5
   simp only [List.cons.injEq,and_true] at e6
   simp only [List.cons.injEq,and_true] at e7
   simp only [List.cons.injEq,and_true] at e8
   subst e0
   subst e1
   subst e2
   subst e3
   subst e4
   subst e5
   subst e6
   subst e7
   subst e8
   exact ⟨⟨⟨A1,n1,c1⟩,l1,i1,i2,i3,i4,i5,i6,i7,b1⟩,rfl,⟨hl1,hr1⟩,hm1⟩
theorem open_pc {n:Nat} {cs:List Value} {y:DataW H × List MemPlace} (h:DataW.trod enc Tryz.prog w base spare held n 120 cs=some y):∃ x:Pc,cs=zeo x∧True:=by
 obtain ⟨xs,n,_,_,hl,hlen,hf⟩:=DataW.trod_struct Tryz.underlying120 h
 match xs,hlen with
 | [y0,y1,y2,y3],_ =>
  rw [ofc124] at hl
  match cs,hl with
  | [c0,c1,c2,c3],_ =>
   have h0:DataW.trod enc Tryz.prog w base spare held n 3 (([c0,c1,c2,c3].drop 0).take (Tryz.prog.cellsOf 3))=some y0:=hf 0 _ rfl
   rw [zf9] at h0
   have h1:DataW.trod enc Tryz.prog w base spare held n 3 (([c0,c1,c2,c3].drop 1).take (Tryz.prog.cellsOf 3))=some y1:=hf 1 _ rfl
   rw [zf9] at h1
   have h2:DataW.trod enc Tryz.prog w base spare held n 3 (([c0,c1,c2,c3].drop 2).take (Tryz.prog.cellsOf 3))=some y2:=hf 2 _ rfl
   rw [zf9] at h2
   have h3:DataW.trod enc Tryz.prog w base spare held n 4 (([c0,c1,c2,c3].drop 3).take (Tryz.prog.cellsOf 4))=some y3:=hf 3 _ rfl
   rw [ofc4] at h3
   simp only [List.drop_zero,List.take_succ_cons,List.take_zero,List.drop_succ_cons] at h0 h1 h2 h3
   obtain ⟨a,e0,_⟩:=DataW.trod_int Tryz.underlying3 h0
   obtain ⟨b,e1,_⟩:=DataW.trod_int Tryz.underlying3 h1
   obtain ⟨c,e2,_⟩:=DataW.trod_int Tryz.underlying3 h2
   obtain ⟨d,e3,_⟩:=DataW.trod_bool Tryz.underlying4 h3
   simp only [List.cons.injEq,and_true] at e0
   simp only [List.cons.injEq,and_true] at e1
   simp only [List.cons.injEq,and_true] at e2
   simp only [List.cons.injEq,and_true] at e3
   subst e0
   subst e1
   subst e2
   subst e3
   exact ⟨⟨a,b,c,d⟩,rfl,trivial⟩
theorem open_pcs {fuel:Nat} {cs:List Value} {x:DataW H × List MemPlace} (h:DataW.trod enc Tryz.prog w base spare held fuel 35 cs=some x) :
 ∃ A n c,∃ l:List Pc,cs=[.slice A n c]∧l.length=n∧n≤9223372036854775807∧Rd w w.heap.size A (zcj l)∧n≤c∧∀ a∈l,True:=by
 obtain ⟨A,n,c,l,rfl,h2,h3,h4,h5⟩:=zcf (P:=Tryz.prog) (k:=4) (fun a=>True) zeo Tryz.underlying35 ofc124 (fun _=>rfl) (fun _ _ _ hy=>open_pc hy) h
 exact ⟨A,n,c,l,rfl,h2,h3,h4,zfs Tryz.underlying35 h,h5⟩
theorem open_trk {n:Nat} {cs:List Value} {y:DataW H × List MemPlace} (h:DataW.trod enc Tryz.prog w base spare held n 37 cs=some y):∃ (nm:ByteArray) (s:SlV) (l:List Pc),cs=[.string nm,s.v]∧zcs w w.heap.size s l.length (zcj l)∧s.n≤9223372036854775807:=by
 obtain ⟨xs,n,_,_,hl,hlen,hf⟩:=DataW.trod_struct Tryz.underlying37 h
 match xs,hlen with
 | [y0,y1],_ =>
  rw [ofc37] at hl
  match cs,hl with
  | [c0,c1],_ =>
   have h0:DataW.trod enc Tryz.prog w base spare held n 9 (([c0,c1].drop 0).take (Tryz.prog.cellsOf 9))=some y0:=hf 0 _ rfl
   rw [ofc9] at h0
   have h1:DataW.trod enc Tryz.prog w base spare held n 35 (([c0,c1].drop 1).take (Tryz.prog.cellsOf 35))=some y1:=hf 1 _ rfl
   rw [ofc35] at h1
   simp only [List.drop_zero,List.take_succ_cons,List.take_zero,List.drop_succ_cons] at h0 h1
   obtain ⟨s,e0,_⟩:=DataW.trod_string Tryz.underlying9 h0
   obtain ⟨A1,n1,c1,l1,e1,hl1,hm1,hr1,hc1,hq1⟩:=open_pcs h1
   simp only [List.cons.injEq,and_true] at e0
   simp only [List.cons.injEq,and_true] at e1
   subst e0
   subst e1
   exact ⟨s,⟨A1,n1,c1⟩,l1,rfl,⟨hl1,hr1⟩,hm1⟩
theorem open_sy {n:Nat} {cs:List Value} {y:DataW H × List MemPlace} (h:DataW.trod enc Tryz.prog w base spare held n 39 cs=some y):∃ s:Sy,cs=[.int .i64 s.brake,.int .i64 s.drag,.int .i64 s.drive]∧True:=by
 obtain ⟨xs,n,_,_,hl,hlen,hf⟩:=DataW.trod_struct Tryz.underlying39 h
 match xs,hlen with
 | [y0,y1,y2],_ =>
  rw [ofc39] at hl
  match cs,hl with
  | [c0,c1,c2],_ =>
   have h0:DataW.trod enc Tryz.prog w base spare held n 3 (([c0,c1,c2].drop 0).take (Tryz.prog.cellsOf 3))=some y0:=hf 0 _ rfl
   rw [zf9] at h0
   have h1:DataW.trod enc Tryz.prog w base spare held n 3 (([c0,c1,c2].drop 1).take (Tryz.prog.cellsOf 3))=some y1:=hf 1 _ rfl
   rw [zf9] at h1
   have h2:DataW.trod enc Tryz.prog w base spare held n 3 (([c0,c1,c2].drop 2).take (Tryz.prog.cellsOf 3))=some y2:=hf 2 _ rfl
   rw [zf9] at h2
   simp only [List.drop_zero,List.take_succ_cons,List.take_zero,List.drop_succ_cons] at h0 h1 h2
   obtain ⟨a,e0,_⟩:=DataW.trod_int Tryz.underlying3 h0
   obtain ⟨b,e1,_⟩:=DataW.trod_int Tryz.underlying3 h1
   obtain ⟨c,e2,_⟩:=DataW.trod_int Tryz.underlying3 h2
   simp only [List.cons.injEq,and_true] at e0
   simp only [List.cons.injEq,and_true] at e1
   simp only [List.cons.injEq,and_true] at e2
   subst e0
   subst e1
   subst e2
   exact ⟨⟨a,b,c⟩,rfl,trivial⟩
theorem open_act {n:Nat} {cs:List Value} {y:DataW H × List MemPlace} (h:DataW.trod enc Tryz.prog w base spare held n 122 cs=some y):∃ x:Act,cs=zdd x∧True:=by
 obtain ⟨xs,n,_,_,hl,hlen,hf⟩:=DataW.trod_struct Tryz.underlying122 h
 match xs,hlen with
 | [y0,y1,y2,y3,y4,y5],_ =>
  rw [ofc126] at hl
  match cs,hl with
  | [c0,c1,c2,c3,c4,c5],_ =>
   have h0:DataW.trod enc Tryz.prog w base spare held n 3 (([c0,c1,c2,c3,c4,c5].drop 0).take (Tryz.prog.cellsOf 3))=some y0:=hf 0 _ rfl
   rw [zf9] at h0
   have h1:DataW.trod enc Tryz.prog w base spare held n 3 (([c0,c1,c2,c3,c4,c5].drop 1).take (Tryz.prog.cellsOf 3))=some y1:=hf 1 _ rfl
   rw [zf9] at h1
   have h2:DataW.trod enc Tryz.prog w base spare held n 3 (([c0,c1,c2,c3,c4,c5].drop 2).take (Tryz.prog.cellsOf 3))=some y2:=hf 2 _ rfl
   rw [zf9] at h2
   have h3:DataW.trod enc Tryz.prog w base spare held n 3 (([c0,c1,c2,c3,c4,c5].drop 3).take (Tryz.prog.cellsOf 3))=some y3:=hf 3 _ rfl
   rw [zf9] at h3
   have h4:DataW.trod enc Tryz.prog w base spare held n 3 (([c0,c1,c2,c3,c4,c5].drop 4).take (Tryz.prog.cellsOf 3))=some y4:=hf 4 _ rfl
   rw [zf9] at h4
   have h5:DataW.trod enc Tryz.prog w base spare held n 3 (([c0,c1,c2,c3,c4,c5].drop 5).take (Tryz.prog.cellsOf 3))=some y5:=hf 5 _ rfl
   rw [zf9] at h5
   simp only [List.drop_zero,List.take_succ_cons,List.take_zero,List.drop_succ_cons] at h0 h1 h2 h3 h4 h5
   obtain ⟨a,e0,_⟩:=DataW.trod_int Tryz.underlying3 h0
   obtain ⟨b,e1,_⟩:=DataW.trod_int Tryz.underlying3 h1
   obtain ⟨c,e2,_⟩:=DataW.trod_int Tryz.underlying3 h2
   obtain ⟨d,e3,_⟩:=DataW.trod_int Tryz.underlying3 h3
   obtain ⟨e,e4,_⟩:=DataW.trod_int Tryz.underlying3 h4
   obtain ⟨f,e5,_⟩:=DataW.trod_int Tryz.underlying3 h5
   simp only [List.cons.injEq,and_true] at e0
   simp only [List.cons.injEq,and_true] at e1
   simp only [List.cons.injEq,and_true] at e2
   simp only [List.cons.injEq,and_true] at e3
   simp only [List.cons.injEq,and_true] at e4
   simp only [List.cons.injEq,and_true] at e5
   subst e0
   subst e1
   subst e2
   subst e3
   subst e4
   subst e5
   exact ⟨⟨a,b,c,d,e,f⟩,rfl,trivial⟩
theorem open_acts {fuel:Nat} {cs:List Value} {x:DataW H × List MemPlace} (h:DataW.trod enc Tryz.prog w base spare held fuel 40 cs=some x) :
 ∃ A n c,∃ l:List Act,cs=[.slice A n c]∧l.length=n∧n≤9223372036854775807∧Rd w w.heap.size A (zb4 l)∧n≤c∧∀ a∈l,True:=by
 obtain ⟨A,n,c,l,rfl,h2,h3,h4,h5⟩:=zcf (P:=Tryz.prog) (k:=6) (fun a=>True) zdd Tryz.underlying40 ofc126 (fun _=>rfl) (fun _ _ _ hy=>open_act hy) h
 exact ⟨A,n,c,l,rfl,h2,h3,h4,zfs Tryz.underlying40 h,h5⟩
theorem open_tab {n:Nat} {cs:List Value} {y:DataW H × List MemPlace} (h:DataW.trod enc Tryz.prog w base spare held n 42 cs=some y):∃ (s d:SlV) (l:List ByteArray) (m:List Act),cs=[s.v,d.v]∧zcs w w.heap.size s l.length (strCells l)∧zcs w w.heap.size d m.length (zb4 m)∧s.n≤s.c∧s.n≤9223372036854775807∧d.n≤9223372036854775807:=by
 obtain ⟨xs,n,_,_,hl,hlen,hf⟩:=DataW.trod_struct Tryz.underlying42 h
 match xs,hlen with
 | [y0,y1],_ =>
  rw [ofc42] at hl
  match cs,hl with
  | [c0,c1],_ =>
   have h0:DataW.trod enc Tryz.prog w base spare held n 22 (([c0,c1].drop 0).take (Tryz.prog.cellsOf 22))=some y0:=hf 0 _ rfl
   rw [ofc22] at h0
   have h1:DataW.trod enc Tryz.prog w base spare held n 40 (([c0,c1].drop 1).take (Tryz.prog.cellsOf 40))=some y1:=hf 1 _ rfl
   rw [ofc40] at h1
   simp only [List.drop_zero,List.take_succ_cons,List.take_zero,List.drop_succ_cons] at h0 h1
   obtain ⟨A1,n1,c1,l1,e0,hl1,hm1,hr1,hc1⟩:=zgy h0
   obtain ⟨A2,n2,c2,l2,e1,hl2,hm2,hr2,hc2,hq2⟩:=open_acts h1
   simp only [List.cons.injEq,and_true] at e0
   simp only [List.cons.injEq,and_true] at e1
   subst e0
   subst e1
   exact ⟨⟨A1,n1,c1⟩,⟨A2,n2,c2⟩,l1,l2,rfl,⟨hl1,hr1⟩,⟨hl2,hr2⟩,hc1,hm1,hm2⟩
theorem open_hs {n:Nat} {cs:List Value} {y:DataW H × List MemPlace} (h:DataW.trod enc Tryz.prog w base spare held n 45 cs=some y):∃ q:HouseV,cs=zah q∧HouseAt w w.heap.size q∧HouseW q:=by
 obtain ⟨xs,n,_,_,hl,hlen,hf⟩:=DataW.trod_struct Tryz.underlying45 h
 match xs,hlen with
 | [y0,y1,y2,y3,y4,y5,y6,y7],_ =>
  rw [ofc45] at hl
  match cs,hl with
  | [c0,c1,c2,c3,c4,c5,c6,c7,c8,c9,c10,c11,c12,c13,c14,c15,c16,c17,c18,c19,c20,c21,c22,c23,c24],_ =>
   have h0:DataW.trod enc Tryz.prog w base spare held n 26 (([c0,c1,c2,c3,c4,c5,c6,c7,c8,c9,c10,c11,c12,c13,c14,c15,c16,c17,c18,c19,c20,c21,c22,c23,c24].drop 0).take (Tryz.prog.cellsOf 26))=some y0:=hf 0 _ rfl
   rw [ofc26] at h0
   have h1:DataW.trod enc Tryz.prog w base spare held n 31 (([c0,c1,c2,c3,c4,c5,c6,c7,c8,c9,c10,c11,c12,c13,c14,c15,c16,c17,c18,c19,c20,c21,c22,c23,c24].drop 4).take (Tryz.prog.cellsOf 31))=some y1:=hf 1 _ rfl
   rw [ofc31] at h1
   have h2:DataW.trod enc Tryz.prog w base spare held n 34 (([c0,c1,c2,c3,c4,c5,c6,c7,c8,c9,c10,c11,c12,c13,c14,c15,c16,c17,c18,c19,c20,c21,c22,c23,c24].drop 7).take (Tryz.prog.cellsOf 34))=some y2:=hf 2 _ rfl
   rw [ofc34] at h2
   have h3:DataW.trod enc Tryz.prog w base spare held n 37 (([c0,c1,c2,c3,c4,c5,c6,c7,c8,c9,c10,c11,c12,c13,c14,c15,c16,c17,c18,c19,c20,c21,c22,c23,c24].drop 16).take (Tryz.prog.cellsOf 37))=some y3:=hf 3 _ rfl
   rw [ofc37] at h3
   have h4:DataW.trod enc Tryz.prog w base spare held n 39 (([c0,c1,c2,c3,c4,c5,c6,c7,c8,c9,c10,c11,c12,c13,c14,c15,c16,c17,c18,c19,c20,c21,c22,c23,c24].drop 18).take (Tryz.prog.cellsOf 39))=some y4:=hf 4 _ rfl
   rw [ofc39] at h4
   have h5:DataW.trod enc Tryz.prog w base spare held n 42 (([c0,c1,c2,c3,c4,c5,c6,c7,c8,c9,c10,c11,c12,c13,c14,c15,c16,c17,c18,c19,c20,c21,c22,c23,c24].drop 21).take (Tryz.prog.cellsOf 42))=some y5:=hf 5 _ rfl
   rw [ofc42] at h5
   have h6:DataW.trod enc Tryz.prog w base spare held n 22 (([c0,c1,c2,c3,c4,c5,c6,c7,c8,c9,c10,c11,c12,c13,c14,c15,c16,c17,c18,c19,c20,c21,c22,c23,c24].drop 23).take (Tryz.prog.cellsOf 22))=some y6:=hf 6 _ rfl
   rw [ofc22] at h6
   have h7:DataW.trod enc Tryz.prog w base spare held n 43 (([c0,c1,c2,c3,c4,c5,c6,c7,c8,c9,c10,c11,c12,c13,c14,c15,c16,c17,c18,c19,c20,c21,c22,c23,c24].drop 24).take (Tryz.prog.cellsOf 43))=some y7:=hf 7 _ rfl
   rw [ofc43] at h7
   simp only [List.drop_zero,List.take_succ_cons,List.take_zero,List.drop_succ_cons] at h0 h1 h2 h3 h4 h5 h6 h7
   obtain ⟨p,e0,hp,u1,u2,u3,u4,u5⟩:=open_plant h0
   obtain ⟨f,e1,hf1,v1,v2,v3,v4⟩:=open_feed h1
   obtain ⟨v,e2,hv,w1⟩:=open_van h2
   obtain ⟨nm,s,pcs,e3,hs3,w2⟩:=open_trk h3
   obtain ⟨sy,e4,_⟩:=open_sy h4
   obtain ⟨es,acs,evs,acts,e5,h51,h52,h53,w3,w4⟩:=open_tab h5
   obtain ⟨A6,n6,c6,l6,e6,hl6,hm6,hr6,hc6⟩:=zgy h6
   obtain ⟨A7,n7,c7,l7,e7,hl7,hm7,hr7,hc7,hq7⟩:=open_ppls h7
   simp only [zap,List.cons.injEq,and_true] at e0
   simp only [zc9,List.cons.injEq,and_true] at e1
   simp only [za8,List.cons.injEq,and_true] at e2
   simp only [List.cons.injEq,and_true] at e3
   simp only [List.cons.injEq,and_true] at e4
   simp only [List.cons.injEq,and_true] at e5
   simp only [List.cons.injEq,and_true] at e6
   simp only [List.cons.injEq,and_true] at e7
   obtain ⟨rfl,rfl,rfl,rfl⟩:=e0
   obtain ⟨rfl,rfl,rfl⟩:=e1
   obtain ⟨rfl,rfl,rfl,rfl,rfl,rfl,rfl,rfl,rfl⟩:=e2
   obtain ⟨rfl,rfl⟩:=e3
   obtain ⟨rfl,rfl,rfl⟩:=e4
   obtain ⟨rfl,rfl⟩:=e5
   subst e6
   subst e7
   exact ⟨⟨p,f,v,nm,s,pcs,sy,es,evs,acs,acts,⟨A6,n6,c6⟩,l6,⟨A7,n7,c7⟩,l7⟩,rfl,⟨hp,hf1,hv,hs3,h51,h52,⟨hl6,hr6⟩,⟨hl7,hr7⟩,h53,hc6,hc7⟩,⟨u1,u2,u3,u4,v1,v2,v3,w1,w2,w3,w4,hm6,hm7,u5,v4⟩⟩
theorem open_house {r:Reach} {b0:Nat} {v:Value} {d:DataW H} {p:List MemPlace} (hv:Value.okWide Tryz.prog w r b0 45 v) (h:DataW.Trod enc Tryz.prog w base spare held 45 v d p) :
 ∃ q:HouseV,v=.agg (zah q).toArray∧HouseAt w w.heap.size q∧HouseW q:=by
 obtain ⟨cs,rfl,hsz⟩:=okWide_struct Tryz.underlying45 hv
 obtain ⟨fuel,hf0⟩:=h
 obtain ⟨q,e,h1,h2⟩:=open_hs (cs:=cs.toList) (by simpa [Value.cells] using hf0)
 exact ⟨q,by rw [← e],h1,h2⟩
end
end Go.Proofs.YtoodbfkbbchjiaaGreatDoor
