import Derived.Test.YtoodbfkbbchjiaaGreatDoorf3A0
import Derived.Lib.AtoiErrMem
set_option maxRecDepth 100000
set_option maxHeartbeats 16000000
namespace Go.Proofs.YtoodbfkbbchjiaaGreatDoor
open Go
section
variable {P:Program} {ops:Array Oper} {md:Region.Mode} {S:World→Prop} {ts:List Nat} {Q:Exit→Act→World→Prop}
def floatB (md:Region.Mode) (ops:Array Oper) (ts is:List Nat) (listed:Array Bool):Bool:=
 (is.all fun i=>decide (i<ops.size) && !listed.getD i true && (match ops[i]? with
  | some o=>o.after.toList.all fun e=>!Region.binds md e || (decide (e.on<i) && (listed.getD e.on false || is.contains e.on))
  | none=>false)) && (ts.all fun t=>zen md ops t is) && ((List.range ops.size).all fun j=>is.contains j || ts.contains j || listed.getD j false) && decide is.Nodup
def leftN (is:List Nat) (listed:Array Bool):Nat:=(is.filter fun i=>!listed.getD i true).length
theorem leftN_set {listed:Array Bool} {i:Nat} (hi:listed.getD i true=false):∀ {is:List Nat},is.Nodup→i∈is→leftN is listed=leftN is (listed.setIfInBounds i true)+1
 | [],_,h=>by simp at h
 | j :: is,hn,h=>by
  have hlt:i<listed.size:=by
   rcases Nat.lt_or_ge i listed.size with h' | h'
   · exact h'
   · simp [Array.getElem?_eq_none h'] at hi
  rw [List.nodup_cons] at hn
  unfold leftN
  by_cases hij:j=i
  · subst hij
    have e1:((listed.setIfInBounds j true).getD j true)=true:=by simp [hlt]
    have e2:∀ l:List Nat,j ∉ l→(l.filter fun k=>!(listed.setIfInBounds j true).getD k true)=l.filter fun k=>!listed.getD k true:=by
     intro l hl
     apply List.filter_congr
     intro k hk
     rw [getD_set_ne true (fun h=>hl (by rw [h];exact hk))]
    rw [List.filter_cons_of_pos (by rw [hi];rfl),List.filter_cons_of_neg (by rw [e1];decide),e2 _ hn.1]
    rfl
  · have hm:i∈is:=by
     rcases List.mem_cons.1 h with h' | h'
     · exact absurd h'.symm hij
     · exact h'
    have ih:=leftN_set hi hn.2 hm
    unfold leftN at ih
    rw [List.filter_cons,List.filter_cons,getD_set_ne true (fun h=>hij h.symm)]
    split
    · rw [List.length_cons,List.length_cons,ih]
    · exact ih
theorem zh5:∀ (is:List Nat) (listed:Array Bool),(zbw is listed).size=listed.size
 | [],_=>rfl
 | i :: is,listed=>by rw [zbw,zh5 is];simp
theorem zh6:∀ (is:List Nat) (listed:Array Bool) (j:Nat),j<listed.size→(zbw is listed).getD j false=(is.contains j || listed.getD j false)
 | [],_,_,_=>by simp [zbw]
 | i :: is,listed,j,h=>by
  rw [zbw,zh6 is _ j (by simpa using h)]
  by_cases hij:i=j
  · subst hij
    simp [h]
  · rw [getD_set_ne false hij,List.contains_cons]
    have:(j == i)=false:=by simpa using fun h=>hij h.symm
    rw [this,Bool.false_or]
theorem wpE_float_go (is:List Nat) (I:(Nat→Bool)→Act→World→Prop) {g:Nat} {listed0:Array Bool} (h0:listed0.size=ops.size) (hB:floatB md ops ts is listed0=true)
 (hstep:∀ i∈is,∀ (L:Nat→Bool) (a:Act) (w:World),L i=false→(∀ o,ops[i]?=some o→∀ e∈o.after,Region.binds md e=true→L e.on=true)→S w→I L a w →
   zar P ops (fun a' w'=>S w'∧I (fun j=>if j=i then true else L j) a' w') i a w)
 (hend:∀ a w,S w→I (fun j=>(zbw is listed0).getD j false) a w→wpE P md ops Q S ts g (zbw is listed0) a w) :
 ∀ (n:Nat) (listed:Array Bool) (a:Act) (w:World),leftN is listed=n→(∀ j,listed0.getD j false=true→listed.getD j false=true)→(∀ j,listed.getD j false=true→is.contains j=true∨listed0.getD j false=true) →
  I (fun j=>listed.getD j false) a w→wpE P md ops Q S ts (n+g) listed a w:=by
 simp only [floatB,Bool.and_eq_true,List.all_eq_true] at hB
 obtain ⟨⟨⟨h1,h2⟩,h3⟩,h4⟩:=hB
 have hnd:is.Nodup:=by simpa using h4
 intro n
 induction n with
 | zero =>
  intro listed a w hn hsup hsub hI inv hS
  have hall:∀ i∈is,listed.getD i true=true:=by
   intro i hi
   cases hc:listed.getD i true with
   | true=>rfl
   | false =>
    exfalso
    unfold leftN at hn
    have hm:i∈is.filter fun i=>!listed.getD i true:=List.mem_filter.2 ⟨hi,by rw [hc];rfl⟩
    rw [List.length_eq_zero_iff.1 hn] at hm
    simp at hm
  have e:listed=zbw is listed0:=by
   apply Array.ext
   · rw [zh5,inv.1,h0]
   · intro j hj hj'
     have hj0:j<listed0.size:=by rw [h0,← inv.1];exact hj
     have e1:listed[j]=listed.getD j false:=by simp [hj]
     have e2:(zbw is listed0)[j]=(zbw is listed0).getD j false:=by simp [hj']
     rw [e1,e2,zh6 _ _ _ hj0]
     cases hc:(is.contains j || listed0.getD j false) with
     | true =>
      rw [Bool.or_eq_true] at hc
      rcases hc with hc | hc
      · have:=hall j (by simpa using hc)
        simpa [hj] using this
      · exact hsup j hc
     | false =>
      rw [Bool.or_eq_false_iff] at hc
      cases hd:listed.getD j false with
      | false=>rfl
      | true =>
       rcases hsub j hd with h | h
       · rw [hc.1] at h;cases h
       · rw [hc.2] at h;cases h
  subst e
  rw [Nat.zero_add]
  exact hend a w hS hI inv hS
 | succ n ih =>
  intro listed a w hn hsup hsub hI inv hS
  have hex:∃ i∈is,listed.getD i true=false:=by
   unfold leftN at hn
   obtain ⟨i,hi⟩:∃ i,i∈is.filter fun i=>!listed.getD i true:=List.exists_mem_of_length_pos (by omega)
   rw [List.mem_filter] at hi
   exact ⟨i,hi.1,by simpa using hi.2⟩
  have hready:∀ i∈Region.ready md ops listed,i∈is:=by
   intro i hi
   have hi':=hi
   obtain ⟨hun,o,ho,hall⟩:=mem_ready.1 hi
   have hlt:i<ops.size:=(Array.getElem?_eq_some_iff.1 ho).1
   have hc:=h3 i (List.mem_range.2 hlt)
   rw [Bool.or_eq_true,Bool.or_eq_true] at hc
   rcases hc with (hc | hc) | hc
   · simpa using hc
   · obtain ⟨k,hk,hku⟩:=hex
     exact (zfe inv (h2 i (by simpa using hc)) hk hi' hku).elim
   · have:=hsup i hc
     have hlt':i<listed.size:=by rw [inv.1];exact hlt
     simp [hlt'] at this hun
     rw [this] at hun
     cases hun
  have hne:(Region.ready md ops listed).isEmpty=false:=by
   have hmin:∃ i∈is,listed.getD i true=false∧∀ j<i,j∈is→listed.getD j true=true:=by
    obtain ⟨i0,hi0,hu0⟩:=hex
    induction i0 using Nat.strongRecOn with
    | _ i ihi =>
     by_cases hm:∃ j<i,j∈is∧listed.getD j true=false
     · obtain ⟨j,hj,hji,hju⟩:=hm
       exact ihi j hj hji hju
     · refine ⟨i,hi0,hu0,fun j hj hji=>?_⟩
       cases hc:listed.getD j true with
       | true=>rfl
       | false=>exact absurd ⟨j,hj,hji,hc⟩ hm
   obtain ⟨i,hi,hu,hlow⟩:=hmin
   have hc:=h1 i hi
   obtain ⟨⟨hc1,hc2⟩,hc3⟩:=hc
   cases ho:ops[i]? with
   | none=>rw [ho] at hc3;cases hc3
   | some o =>
    rw [ho] at hc3
    have hm:i∈Region.ready md ops listed:=by
     refine mem_ready.2 ⟨hu,o,ho,fun e he hb=>?_⟩
     have h9:=List.all_eq_true.1 hc3 e (by simpa using he)
     simp only [hb,Bool.not_true,Bool.false_or,Bool.and_eq_true,decide_eq_true_eq,Bool.or_eq_true] at h9
     obtain ⟨h10,h11⟩:=h9
     rcases h11 with h11 | h11
     · exact hsup _ h11
     · have h12:=hlow e.on h10 (by simpa using h11)
       have hlt':e.on<listed.size:=by
        rw [inv.1]
        have:i<ops.size:=by simpa using hc1
        omega
       simpa [hlt'] using h12
    cases hr:Region.ready md ops listed with
    | nil=>rw [hr] at hm;simp at hm
    | cons _ _=>rfl
  have hts:∀ i∈is,ts.contains i=false:=by
   intro i hi
   cases hc:ts.contains i with
   | false=>rfl
   | true =>
    have h9:=h2 i (by simpa using hc)
    simp only [zen,List.all_eq_true,Bool.and_eq_true,bne_iff_ne] at h9
    exact absurd rfl (h9 i hi).2
  have e1:n+1+g=(n+g)+1:=by omega
  rw [e1]
  refine zk8 ?_ (fun i hi=>?_) inv hS
  · rw [hne]
    simp only [Bool.not_false,Bool.true_and,List.all_eq_true,Bool.not_eq_true']
    exact fun i hi=>hts i (hready i hi)
  · obtain ⟨hun,o,ho,hall⟩:=mem_ready.1 hi
    have him:=hready i hi
    have hlt:i<listed.size:=by rw [inv.1];exact (Array.getElem?_eq_some_iff.1 ho).1
    have hun':listed.getD i false=false:=zcm hun
    refine zke (fun a' w' hk=>⟨hk.1,ih _ a' w' ?_ ?_ ?_ ?_⟩) (hstep i him (fun j=>listed.getD j false) a w hun' (fun o' ho' e he hb=>?_) hS hI)
    · have:=leftN_set hun hnd him
      omega
    · intro j hj
      exact getD_set_true (hsup j hj)
    · intro j hj
      by_cases hij:i=j
      · subst hij;exact .inl (by simpa using him)
      · rw [getD_set_ne false hij] at hj
        exact hsub j hj
    · have e:(fun j=>(listed.setIfInBounds i true).getD j false)=fun j=>if j=i then true else listed.getD j false:=by
       funext j
       by_cases hij:i=j
       · subst hij;simp [hlt]
       · rw [getD_set_ne false hij,if_neg (fun h=>hij h.symm)]
      rw [e]
      exact hk.2
    · have:o'=o:=Option.some.inj (ho'.symm.trans ho)
      subst this
      exact hall e he hb
theorem wpE_float (is:List Nat) (I:(Nat→Bool)→Act→World→Prop) {g m:Nat} {listed:Array Bool} {a:Act} {w:World} (hm:m=is.length+g) (hB:(decide (listed.size=ops.size) && floatB md ops ts is listed)=true)
 (hI:I (fun j=>listed.getD j false) a w)
 (hstep:∀ i∈is,∀ (L:Nat→Bool) (a:Act) (w:World),L i=false→(∀ o,ops[i]?=some o→∀ e∈o.after,Region.binds md e=true→L e.on=true)→S w→I L a w →
   zar P ops (fun a' w'=>S w'∧I (fun j=>if j=i then true else L j) a' w') i a w)
 (hend:∀ a w,S w→I (fun j=>(zbw is listed).getD j false) a w→wpE P md ops Q S ts g (zbw is listed) a w):wpE P md ops Q S ts m listed a w:=by
 rw [Bool.and_eq_true,decide_eq_true_eq] at hB
 obtain ⟨hs,hB⟩:=hB
 rw [hm]
 refine wpE_float_go is I hs hB hstep hend is.length listed a w ?_ (fun _ h=>h) (fun _ h=>.inr h) hI
 unfold leftN
 rw [List.filter_eq_self.2]
 intro i hi
 simp only [floatB,Bool.and_eq_true,List.all_eq_true] at hB
 exact (hB.1.1.1 i hi).1.2
def needL (md:Region.Mode) (ops:Array Oper) (i:Nat):List Nat:=match ops[i]? with
 | some o=>(o.after.toList.filter (Region.binds md)).map (·.on)
 | none=>[]
theorem zdt (is:List Nat) (I:(Nat→Bool)→Act→World→Prop) {g m:Nat} {listed:Array Bool} {a:Act} {w:World} (hm:m=is.length+g) (hB:(decide (listed.size=ops.size) && floatB md ops ts is listed)=true)
 (hI:I (fun j=>listed.getD j false) a w)
 (hend:∀ a w,S w→I (fun j=>(zbw is listed).getD j false) a w→wpE P md ops Q S ts g (zbw is listed) a w)
 (hstep:∀ i∈is,∀ (L:Nat→Bool) (a:Act) (w:World),L i=false→(∀ j,(needL md ops i).contains j=true→L j=true)→S w→I L a w →
   zar P ops (fun a' w'=>S w'∧I (fun j=>if j=i then true else L j) a' w') i a w):wpE P md ops Q S ts m listed a w:=by
 refine wpE_float is I hm hB hI (fun i hi L a w hL hd hS hI=>hstep i hi L a w hL (fun j hj=>?_) hS hI) hend
 rw [List.contains_iff_mem] at hj
 unfold needL at hj
 split at hj
 · rename_i o ho
   obtain ⟨e,he,rfl⟩:=List.mem_map.1 hj
   rw [List.mem_filter] at he
   exact hd o ho e (by simpa using he.1) he.2
 · simp at hj
end
end Go.Proofs.YtoodbfkbbchjiaaGreatDoor
namespace Go.Proofs.YtoodbfkbbchjiaaGreatDoor
open Go.RowKit
theorem within_any (n lo hi:Int) (w:World) :
 Calls Tryz.prog 201 #[.int .i64 n,.int .i64 lo,.int .i64 hi] w fun e w'=>e=.returned (.bool (zaj n lo hi))∧w=w':=by
 by_cases h1:lo≤n <;> by_cases h2:n≤hi
 all_goals
  go_enter Tryz.func201,Tryz.ntmps201
  go_wp2
  go_ret
  exact ⟨by simp [zaj,h1,h2],rfl⟩
theorem zdv (b:Bool) (x:Int) (w:World) :
 Calls Tryz.prog 148 #[.bool b,.int .i64 x] w fun e w'=>e=.returned (.int .i64 (zag b x))∧w=w':=by
 cases b
 all_goals
  go_enter Tryz.func148,Tryz.ntmps148
  go_wp2
  go_ret
  exact ⟨by simp [zag],rfl⟩
theorem first_any (g n:Nat) (l:List Int) (w:World) (hn:n≤1000) (hl:l.length=n)
 (h:∀ k,k<n→w.cell? ⟨g,k,none⟩=some (.int .i64 (l[k]?.getD 0))) :
 Calls Tryz.prog 147 #[.slice (some ⟨g,0,none⟩) n n] w fun e w'=>e=.returned (.int .i64 (zam l))∧w=w':=by
 have HL:=Lib.hid hl;clear hl
 go_enter Tryz.func147,Tryz.ntmps147
 go_wp2
 go_loop [4,7] (fun _ i=>∃ k:Nat,k≤n∧i=.int .i64 k∧zam (l.drop k)=zam l) (fun _ i=>n - (intOf i).toNat)
 case atStart=>exact ⟨0,Nat.zero_le _,rfl,rfl⟩
 case round =>
  obtain ⟨k,hk,rfl,he⟩:=hrel
  have HE:=Lib.hid he;clear he
  by_cases hlt:k<n
  · have hc:=h k hlt
    have hs:l.drop k=(l[k]?.getD 0) :: l.drop (k+1):=by
     have:k<l.length:=by rw [HL.out];exact hlt
     rw [List.drop_eq_getElem_cons this];simp [this]
    have HS:=Lib.hid hs;clear hs
    by_cases hz:l[k]?.getD 0=0
    · have hz':(l[k]?.getD 0 != 0)=false:=by simp [hz]
      have HZ:=Lib.hid hz;clear hz
      go_wp2
      go_round
      case rel=>exact ⟨k+1,by omega,by go_num,by rw [← HE.out,HS.out,zam,if_pos HZ.out]⟩
      case measure=>simp [intOf];omega
    · have hz':(l[k]?.getD 0 != 0)=true:=by simp [hz]
      have HZ:=Lib.hid hz;clear hz
      go_wp2
      go_ret
      exact ⟨by rw [← HE.out,HS.out,zam,if_neg HZ.out];rfl,rfl⟩
  · go_wp2
    go_ret
    have:l.drop k=[]:=by rw [List.drop_eq_nil_iff];rw [HL.out];omega
    exact ⟨by rw [← HE.out,this];rfl,rfl⟩
theorem first2 (w:World) (a b:Int) :
 Calls Tryz.prog 147 #[.slice (some ⟨w.heap.size,0,none⟩) 2 2] (w.alloc (.cells #[.int .i64 a,.int .i64 b] 60)) fun e w' =>
  e=.returned (.int .i64 (zam [a,b]))∧w.alloc (.cells #[.int .i64 a,.int .i64 b] 60)=w':=
 first_any _ 2 [a,b] _ (by decide) rfl (by
  intro k hk
  match k,hk with
  | 0,_=>simp
  | 1,_=>simp)
theorem first6 (w:World) (a b c d x5 x6:Int) :
 Calls Tryz.prog 147 #[.slice (some ⟨w.heap.size,0,none⟩) 6 6] (w.alloc (.cells #[.int .i64 a,.int .i64 b,.int .i64 c,.int .i64 d,.int .i64 x5,.int .i64 x6] 60)) fun e w' =>
  e=.returned (.int .i64 (zam [a,b,c,d,x5,x6]))∧w.alloc (.cells #[.int .i64 a,.int .i64 b,.int .i64 c,.int .i64 d,.int .i64 x5,.int .i64 x6] 60)=w':=
 first_any _ 6 [a,b,c,d,x5,x6] _ (by decide) rfl (by
  intro k hk
  match k,hk with
  | 0,_=>simp
  | 1,_=>simp
  | 2,_=>simp
  | 3,_=>simp
  | 4,_=>simp
  | 5,_=>simp)
theorem zk3 (n lo hi:Int) (w:World) :
 Calls Tryz.prog 9 #[.int .i64 n,.int .i64 lo,.int .i64 hi] w fun e w'=>e=.returned (.bool (zaj n lo hi))∧w=w':=by
 by_cases h1:lo≤n <;> by_cases h2:n≤hi
 all_goals
  go_enter Tryz.func9,Tryz.ntmps9
  go_wp2
  go_ret
  exact ⟨by simp [zaj,h1,h2],rfl⟩
theorem za1 (n lo hi:Int) (b:Bool) (h:zaj n lo hi=b) (w:World) :
 Calls Tryz.prog 9 #[.int .i64 n,.int .i64 lo,.int .i64 hi] w fun e w'=>e=.returned (.bool b)∧w=w':=by
 rw [← h]
 exact zk3 n lo hi w
theorem zdu (n lo hi:Int) (b:Bool) (h:zaj n lo hi=b) (w:World) :
 Calls Tryz.prog 201 #[.int .i64 n,.int .i64 lo,.int .i64 hi] w fun e w'=>e=.returned (.bool b)∧w=w':=by
 rw [← h]
 exact within_any n lo hi w
theorem isLeast_any (n:Int) (w:World) :
 Calls Tryz.prog 189 #[.int .i64 n] w fun e w'=>e=.returned (.bool (zaj n 1 100000))∧w=w':=by
 go_enter Tryz.func189,Tryz.ntmps189
 go_wp2_with (go_at_call 9;refine (zk3 _ _ _ _).mono ?_;rintro e w' ⟨rfl,rfl⟩)
 go_ret
 exact ⟨rfl,rfl⟩
theorem zjg (n:Int) (b:Bool) (h:zaj n 1 100000=b) (w:World) :
 Calls Tryz.prog 189 #[.int .i64 n] w fun e w'=>e=.returned (.bool b)∧w=w':=by
 rw [← h]
 exact isLeast_any n w
theorem run_index9 (s:ByteArray) (k:Nat) (h:k<s.size) (W:World):Sem.run Tryz.prog (Instr.index 9 (.string s) (.int .i64 (k:Int))) W=.ok (.int .u8 ((s.data.toList.getD k 0).toNat:Int)) W:=by
 rw [run_index_string W 9 s .i64 (k:Int) Tryz.underlying9,dif_pos ⟨by omega,by omega⟩]
 have hk:k<s.data.toList.length:=by simpa using h
 rw [List.getD_eq_getElem?_getD,List.getElem?_eq_getElem hk]
 rfl
theorem zlr (s:ByteArray) (hs9:s.size≤1000000000) (w:World):Calls Tryz.prog 73 #[.string s] w fun e w'=>e=.returned (.bool (za3 s))∧w=w':=by
 obtain ⟨tot,htot⟩:∃ t,zbm 0 s.data.toList=t:=⟨_,rfl⟩
 by_cases h1:s.size<1
 · have HV:Hid (za3 s=false):=by
    rw [Hid,za3,decide_eq_false (by omega)]
    rfl
   have h1i:(s.size:Int)<1:=by omega
   go_enter Tryz.func73,Tryz.ntmps73
   go_wp2
   go_ret
   exact ⟨by rw [HV.out];rfl,rfl⟩
 · by_cases h12:12<s.size
   · have HV:Hid (za3 s=false):=by
      rw [Hid,za3,decide_eq_true (show 1≤s.size by omega),decide_eq_false (show ¬ s.size≤12 by omega)]
      rfl
     have h1i:¬ (s.size:Int)<1:=by omega
     have h12i:(12:Int)<(s.size:Int):=by omega
     go_enter Tryz.func73,Tryz.ntmps73
     go_wp2
     go_ret
     exact ⟨by rw [HV.out];rfl,rfl⟩
   · have HV:Hid (za3 s=tot):=by
      rw [Hid,za3,decide_eq_true (show 1≤s.size by omega),decide_eq_true (show s.size≤12 by omega),htot]
      rfl
     have h1i:¬ (s.size:Int)<1:=by omega
     have h12i:¬ (12:Int)<(s.size:Int):=by omega
     have HTT:=Lib.hid htot
     clear htot
     go_enter Tryz.func73,Tryz.ntmps73
     go_wp2
     go_loop [3] (fun i=>∃ k:Nat,k≤s.size∧i=.int .i64 k∧zbm k (s.data.toList.drop k)=tot) (fun i=>s.size - (intOf i).toNat)
     case atStart=>exact ⟨0,Nat.zero_le _,rfl,by rw [List.drop_zero];exact HTT.out⟩
     case round =>
      obtain ⟨k,hk,rfl,he⟩:=hrel
      have HE:=Lib.hid he
      clear he
      by_cases hlt:k<s.size
      · have hkl:k<s.data.toList.length:=by simpa using hlt
        have HD:=Lib.hid (dropB hkl)
        have hcb:(s.data.toList.getD k 0).toNat≤255:=by have:=UInt8.toNat_lt (s.data.toList.getD k 0);omega
        have d0:=run_index9 s k hlt
        have HG:Hid ((okN k (s.data.toList.getD k 0).toNat && zbm (k+1) (s.data.toList.drop (k+1)))=tot):=by
         have:=HE.out
         rw [HD.out,zbm] at this
         exact this
        generalize (s.data.toList.getD k 0).toNat=c at *
        have hlti:(k:Int)<(s.size:Int):=by omega
        clear HE hkl
        have hcs:(c<45)∨(c=45)∨(45<c∧c<48)∨(48≤c∧c≤57)∨(57<c∧c<65)∨(65≤c∧c≤90)∨(90<c∧c<97)∨(97≤c∧c≤122)∨(122<c):=by omega
        rcases hcs with hcc | hcc | hcc | hcc | hcc | hcc | hcc | hcc | hcc <;> by_cases hk0:k=0
        all_goals
         first | have q0:(97:Int)≤(c:Int):=by omega | have q0:¬ (97:Int)≤(c:Int):=by omega
         first | have q1:(c:Int)≤122:=by omega | have q1:¬ (c:Int)≤122:=by omega
         first | have q2:(65:Int)≤(c:Int):=by omega | have q2:¬ (65:Int)≤(c:Int):=by omega
         first | have q3:(c:Int)≤90:=by omega | have q3:¬ (c:Int)≤90:=by omega
         first | have q5:(c:Int)<48:=by omega | have q5:¬ (c:Int)<48:=by omega
         first | have q6:(57:Int)<(c:Int):=by omega | have q6:¬ (57:Int)<(c:Int):=by omega
         first | (have q4:((c:Int) != 45)=false:=by rw [hcc];rfl) | have q4:((c:Int) != 45)=true:=by exact bne_iff_ne.2 (by omega)
         first | have e0:((k:Int) == 0)=false:=beq_eq_false_iff_ne.2 (by omega) | (have e0:((k:Int) == 0)=true:=by rw [hk0];rfl)
         by_cases hok:okN k c=true
         · have HN:Hid (zbm (k+1) (s.data.toList.drop (k+1))=tot):=by
            have:=HG.out
            rw [hok,Bool.true_and] at this
            exact this
           rw [okN] at hok
           simp at hok
           first
            | (exfalso;omega)
            | (clear hok hcc hk0
               go_wp2
               go_round
               case rel=>exact ⟨k+1,by omega,by go_num,HN.out⟩
               case measure=>simp [intOf];omega)
         · have HF:Hid (tot=false):=by
            have:=HG.out
            rw [Bool.eq_false_iff.2 hok,Bool.false_and] at this
            exact this.symm
           rw [okN] at hok
           simp at hok
           first
            | (exfalso;omega)
            | (clear hok hcc hk0
               go_wp2
               go_ret
               exact ⟨by rw [HV.out,HF.out];rfl,rfl⟩)
      · obtain rfl:k=s.size:=by omega
        have HT:Hid (tot=true):=by
         have:=HE.out
         rw [List.drop_eq_nil_iff.2 (by simp),zbm] at this
         exact this.symm
        clear HE
        go_wp2
        go_ret
        exact ⟨by rw [HV.out,HT.out];rfl,rfl⟩
theorem isName_any (s:ByteArray) (hs9:s.size≤1000000000) (w:World):Calls Tryz.prog 149 #[.string s] w fun e w'=>e=.returned (.bool (za3 s))∧Below w.heap.size w w':=by
 obtain ⟨tot,htot⟩:∃ t,zbm 0 s.data.toList=t:=⟨_,rfl⟩
 have HVF:Hid (tot=false→za3 s=false):=fun h=>by
  rw [za3,htot,h,Bool.and_false]
 have HV:Hid (za3 s=(decide (1≤s.size) && decide (s.size≤12) && tot)):=by rw [Hid,za3,htot]
 have HTT:=Lib.hid htot
 clear htot
 have kc:=Lib.run_convert_string_bytes (P:=Tryz.prog) w 9 149 5 s Tryz.underlying9 Tryz.underlying149 Tryz.underlying5
 go_enter Tryz.func149,Tryz.ntmps149
 go_wp2
 clear kc
 go_loop [3,4,5,9] (fun _ _ _ i=>∃ k:Nat,k≤s.size∧i=.int .i64 k∧zbm k (s.data.toList.drop k)=tot) (fun _ _ _ i=>s.size - (intOf i).toNat)
 case atStart=>exact ⟨0,Nat.zero_le _,rfl,by rw [List.drop_zero];exact HTT.out⟩
 case round =>
  obtain ⟨k,hk,rfl,he⟩:=hrel
  have HE:=Lib.hid he
  clear he
  by_cases hlt:k<s.size
  · have hkl:k<s.data.toList.length:=by simpa using hlt
    have HD:=Lib.hid (dropB hkl)
    have hcb:(s.data.toList.getD k 0).toNat≤255:=by have:=UInt8.toNat_lt (s.data.toList.getD k 0);omega
    have d0:=Lib.bytesWorld_cell w 5 s k hlt
    have HG:Hid ((okN k (s.data.toList.getD k 0).toNat && zbm (k+1) (s.data.toList.drop (k+1)))=tot):=by
     have:=HE.out
     rw [HD.out,zbm] at this
     exact this
    generalize (s.data.toList.getD k 0).toNat=c at *
    have hlti:(k:Int)<(s.size:Int):=by omega
    clear HE hkl
    have hcs:(c<45)∨(c=45)∨(45<c∧c<48)∨(48≤c∧c≤57)∨(57<c∧c<65)∨(65≤c∧c≤90)∨(90<c∧c<97)∨(97≤c∧c≤122)∨(122<c):=by omega
    rcases hcs with hcc | hcc | hcc | hcc | hcc | hcc | hcc | hcc | hcc <;> by_cases hk0:k=0
    all_goals
     first | have q0:(97:Int)≤(c:Int):=by omega | have q0:¬ (97:Int)≤(c:Int):=by omega
     first | have q1:(c:Int)≤122:=by omega | have q1:¬ (c:Int)≤122:=by omega
     first | have q2:(65:Int)≤(c:Int):=by omega | have q2:¬ (65:Int)≤(c:Int):=by omega
     first | have q3:(c:Int)≤90:=by omega | have q3:¬ (c:Int)≤90:=by omega
     first | have q5:(c:Int)<48:=by omega | have q5:¬ (c:Int)<48:=by omega
     first | have q6:(57:Int)<(c:Int):=by omega | have q6:¬ (57:Int)<(c:Int):=by omega
     first | (have q4:((c:Int) != 45)=false:=by rw [hcc];rfl) | have q4:((c:Int) != 45)=true:=by exact bne_iff_ne.2 (by omega)
     first | have e0:((k:Int) == 0)=false:=beq_eq_false_iff_ne.2 (by omega) | (have e0:((k:Int) == 0)=true:=by rw [hk0];rfl)
     by_cases hok:okN k c=true
     · have HN:Hid (zbm (k+1) (s.data.toList.drop (k+1))=tot):=by
        have:=HG.out
        rw [hok,Bool.true_and] at this
        exact this
       rw [okN] at hok
       simp at hok
       first
        | (exfalso;omega)
        | (clear hok hcc hk0
           go_wp2
           go_round
           case rel=>exact ⟨k+1,by omega,by go_num,HN.out⟩
           case measure=>simp [intOf];omega)
     · have HF:Hid (tot=false):=by
        have:=HG.out
        rw [Bool.eq_false_iff.2 hok,Bool.false_and] at this
        exact this.symm
       rw [okN] at hok
       simp at hok
       first
        | (exfalso;omega)
        | (clear hok hcc hk0
           go_wp2
           go_ret
           exact ⟨by rw [HVF.out HF.out];rfl,Lib.bytesWorld_below _ _ _⟩)
  · obtain rfl:k=s.size:=by omega
    have HT:Hid (tot=true):=by
     have:=HE.out
     rw [List.drop_eq_nil_iff.2 (by simp),zbm] at this
     exact this.symm
    clear HE
    by_cases h0:s.size=0
    · obtain rfl:s=⟨#[]⟩:=by
       cases s with
       | mk d =>
        have:d.size=0:=h0
        rw [Array.eq_empty_of_size_eq_zero this]
      go_wp2
      go_ret
      exact ⟨by rw [HV.out];rfl,Lib.bytesWorld_below _ _ _⟩
    · have hne0:¬ s.toList=[]:=fun h=>h0 (by
       rw [ByteArray.toList_eq] at h
       have:=congrArg List.length h
       simpa using this)
      have hne1:s.toList.isEmpty=false:=by
       rw [Bool.eq_false_iff]
       exact fun h=>hne0 (List.isEmpty_iff.1 h)
      by_cases h12:s.size≤12
      · have h12i:(s.size:Int)≤12:=by omega
        have HV2:Hid (za3 s=true):=by rw [Hid,HV.out,HT.out,decide_eq_true (show 1≤s.size by omega),decide_eq_true h12];rfl
        go_wp2
        go_ret
        exact ⟨by rw [HV2.out];rfl,Lib.bytesWorld_below _ _ _⟩
      · have h12i:¬ (s.size:Int)≤12:=by omega
        have HV2:Hid (za3 s=false):=by rw [Hid,HV.out,decide_eq_false h12,Bool.and_false,Bool.false_and]
        go_wp2
        go_ret
        exact ⟨by rw [HV2.out];rfl,Lib.bytesWorld_below _ _ _⟩
def strCells (l:List ByteArray):List Value:=l.map .string
def zcu (l:List ByteArray) (s:ByteArray):Bool:=l.any fun a=>a.toList == s.toList
theorem zfn (a s:ByteArray) (l:List ByteArray):zcu (a :: l) s=((a.toList == s.toList) || zcu l s):=by simp [zcu]
theorem HasText_any (A:Option Addr) (n c B:Nat) (l:List ByteArray) (s:ByteArray) (w:World) (hn:n≤1000000000) (hl:l.length=n) (h:Rd w B A (strCells l)) :
 Calls Tryz.prog 74 #[.slice A n c,.string s] w fun e w'=>e=.returned (.bool (zcu l s))∧w=w':=by
 have HL:=Lib.hid hl;clear hl
 go_enter Tryz.func74,Tryz.ntmps74
 go_wp2
 go_loop [5] (fun i=>∃ k:Nat,k≤n∧i=.int .i64 k∧zcu (l.drop k) s=zcu l s) (fun i=>n - (intOf i).toNat)
 case atStart=>exact ⟨0,Nat.zero_le _,rfl,rfl⟩
 case round =>
  obtain ⟨k,hk,rfl,he⟩:=hrel
  have HE:=Lib.hid he;clear he
  by_cases hlt:k<n
  · have hkl:k<l.length:=by rw [HL.out];exact hlt
    obtain ⟨b,off,rfl,_,hc⟩:=h.at_ (k:=k) (u:=.string (l[k]?.getD ⟨#[]⟩)) (by simp [strCells,hkl])
    have HS:=Lib.hid (zfq l ⟨#[]⟩ k hkl)
    clear hkl
    generalize l[k]?.getD ⟨#[]⟩=x at *
    cases hx:(x.toList == s.toList) with
    | true =>
     have HX:=Lib.hid hx
     go_wp2
     go_ret
     exact ⟨by rw [← HE.out,HS.out,zfn,HX.out];rfl,rfl⟩
    | false =>
     have HX:=Lib.hid hx
     go_wp2
     go_round
     case rel=>exact ⟨k+1,by omega,by go_num,by rw [← HE.out,HS.out,zfn,HX.out,Bool.false_or]⟩
     case measure=>simp [intOf];omega
  · go_wp2
    go_ret
    have:l.drop k=[]:=by rw [List.drop_eq_nil_iff];rw [HL.out];omega
    exact ⟨by rw [← HE.out,this];rfl,rfl⟩
def zh9 (l:List ByteArray) (s:ByteArray):Int:=za4 (fun a=>s.toList == a.toList) l 0
theorem beqT (a b:ByteArray):(a.toList == b.toList)=(b.toList == a.toList):=by
 cases h:(b.toList == a.toList)
 · exact beq_eq_false_iff_ne.2 fun e=>beq_eq_false_iff_ne.1 h e.symm
 · exact beq_iff_eq.2 (beq_iff_eq.1 h).symm
theorem idxT_has (l:List ByteArray) (s:ByteArray):decide (0≤zh9 l s)=zcu l s:=by
 rw [zh9,zcc,zcu]
 congr 1
 funext a
 exact beqT s a
theorem zf7 (A:Option Addr) (n c B:Nat) (l:List ByteArray) (s:ByteArray) (w:World) (hn:n≤1000000000) (hl:l.length=n) (h:Rd w B A (strCells l)) :
 Calls Tryz.prog 75 #[.slice A n c,.string s] w fun e w'=>e=.returned (.int .i64 (zh9 l s))∧w=w':=by
 have HL:=Lib.hid hl;clear hl
 go_enter Tryz.func75,Tryz.ntmps75
 go_wp2
 go_loop [5,8] (fun _ i=>∃ k:Nat,k≤n∧i=.int .i64 k∧za4 (fun a=>s.toList == a.toList) (l.drop k) k=zh9 l s) (fun _ i=>n - (intOf i).toNat)
 case atStart=>exact ⟨0,Nat.zero_le _,rfl,rfl⟩
 case round =>
  obtain ⟨k,hk,rfl,he⟩:=hrel
  have HE:=Lib.hid he;clear he
  by_cases hlt:k<n
  · have hkl:k<l.length:=by rw [HL.out];exact hlt
    obtain ⟨b,off,rfl,_,hc⟩:=h.at_ (k:=k) (u:=.string (l[k]?.getD ⟨#[]⟩)) (by simp [strCells,hkl])
    have HS:=Lib.hid (zfq l ⟨#[]⟩ k hkl)
    clear hkl
    generalize l[k]?.getD ⟨#[]⟩=x at *
    cases hx:(s.toList == x.toList) with
    | true =>
     have HX:=Lib.hid hx
     go_wp2
     go_ret
     exact ⟨by rw [← HE.out,HS.out,za4,HX.out];rfl,rfl⟩
    | false =>
     have HX:=Lib.hid hx
     go_wp2
     go_round
     case rel=>exact ⟨k+1,by omega,by go_num,by rw [← HE.out,HS.out,za4,HX.out];rfl⟩
     case measure=>simp [intOf];omega
  · go_wp2
    go_ret
    have:l.drop k=[]:=by rw [List.drop_eq_nil_iff];rw [HL.out];omega
    exact ⟨by rw [← HE.out,this];rfl,rfl⟩
theorem zhd (A:Option Addr) (n c B:Nat) (l:List ByteArray) (s:ByteArray) (w:World) (hn:n≤1000000000) (hl:l.length=n) (h:Rd w B A (strCells l)) :
 Calls Tryz.prog 150 #[.slice A n c,.string s] w fun e w'=>e=.returned (.bool (zcu l s))∧w=w':=by
 have HV:=Lib.hid (idxT_has l s)
 go_enter Tryz.func150,Tryz.ntmps150
 go_wp2_with (go_at_call 75;refine (zf7 A n c B l s _ hn hl h).mono ?_;rintro e w' ⟨rfl,rfl⟩)
 go_ret
 exact ⟨by rw [← HV.out];rfl,rfl⟩
end Go.Proofs.YtoodbfkbbchjiaaGreatDoor
namespace Go.Proofs.YtoodbfkbbchjiaaGreatDoor
abbrev Far:=List (Option Int)
def farAt (l:Far) (i:Nat):Option Int:=l[i]?.join
def leF (a b:Far):Prop:=∀ i u,farAt a i=some u→∃ v,farAt b i=some v∧u≤v
theorem leF.refl (a:Far):leF a a:=fun _ u h=>⟨u,h,by omega⟩
theorem leF.trans {a b c:Far} (h:leF a b) (g:leF b c):leF a c:=fun i u hu=>by
 obtain ⟨v,h1,h2⟩:=h i u hu
 obtain ⟨x,g1,g2⟩:=g i v h1
 exact ⟨x,g1,by omega⟩
structure Act where
 kind:Int
 src:Int
 dst:Int
 least:Int
 most:Int
 wait:Int
def actR (m:Nat) (a:Act):Prop:=(0≤a.kind∧a.kind≤4)∧(0≤a.src∧a.src<m)∧(0≤a.dst∧a.dst<m)∧a.src≠a.dst∧(1≤a.least∧a.least≤100000)∧(a.most=-1∨(1≤a.most∧a.most≤100000∧a.least≤a.most))∧(0≤a.wait∧a.wait≤100000)∧(a.kind=2∨a.wait=0)
instance (m:Nat) (a:Act):Decidable (actR m a):=by unfold actR;infer_instance
open Go.RowKit
def zdd (a:Act):List Value:=[.int .i64 a.kind,.int .i64 a.src,.int .i64 a.dst,.int .i64 a.least,.int .i64 a.most,.int .i64 a.wait]
def zb4 (l:List Act):List Value:=l.flatMap zdd
def netV (Ae:Option Addr) (ne ce:Nat) (Aa:Option Addr) (na ca:Nat):Value:=.agg #[.slice Ae ne ce,.slice Aa na ca]
def evtE (m:Nat) (i:Int):Int:=if zaj i 0 ((m:Int) - 1)=true then 0 else 6
theorem ze6 (x:Act) (l:List Act):zb4 (x :: l)=zdd x++zb4 l:=by simp [zb4]
theorem zid:∀ l:List Act,(zb4 l).length=l.length * 6
 | []=>rfl
 | x :: l=>by
  rw [ze6,List.length_append,zid l,List.length_cons]
  simp [zdd]
  omega
theorem zju:∀ (l:List Act) (k:Nat) (x:Act),l[k]?=some x→∀ j u,(zdd x)[j]?=some u→(zb4 l)[k * 6+j]?=some u
 | [],k,x,h,_,_,_=>by simp at h
 | y :: l,0,x,h,j,u,hu=>by
  simp at h
  subst h
  have hj:j<(zdd y).length:=(List.getElem?_eq_some_iff.1 hu).1
  rw [ze6,Nat.zero_mul,Nat.zero_add,List.getElem?_append_left hj]
  exact hu
 | y :: l,k+1,x,h,j,u,hu=>by
  have h':l[k]?=some x:=by simpa using h
  rw [ze6,List.getElem?_append_right (by simp [zdd];omega)]
  have e:(k+1) * 6+j - (zdd y).length=k * 6+j:=by simp [zdd];omega
  rw [e]
  exact zju l k x h' j u hu
theorem Rd.act {w:World} {B:Nat} {A:Option Addr} {l:List Act} (h:Rd w B A (zb4 l)) {k:Nat} {x:Act} (hk:l[k]?=some x) :
 ∃ b off,A=some ⟨b,off,none⟩∧b<B∧w.cell? ⟨b,off+k * 6,none⟩=some (.int .i64 x.kind)∧w.cell? ⟨b,off+k * 6+1,none⟩=some (.int .i64 x.src)∧w.cell? ⟨b,off+k * 6+2,none⟩=some (.int .i64 x.dst) ∧
  w.cell? ⟨b,off+k * 6+3,none⟩=some (.int .i64 x.least)∧w.cell? ⟨b,off+k * 6+4,none⟩=some (.int .i64 x.most)∧w.cell? ⟨b,off+k * 6+5,none⟩=some (.int .i64 x.wait):=by
 have hat:=zju l k x hk
 obtain ⟨b,off,rfl,hb,c0⟩:=h (k * 6+0) _ (hat 0 _ rfl)
 have go:∀ j u,(zdd x)[j]?=some u→w.cell? ⟨b,off+(k * 6+j),none⟩=some u:=fun j u hu=>by
  obtain ⟨b',off',e,_,c⟩:=h (k * 6+j) u (hat j u hu)
  cases e
  exact c
 exact ⟨b,off,rfl,hb,by simpa using c0,go 1 _ rfl,go 2 _ rfl,go 3 _ rfl,go 4 _ rfl,go 5 _ rfl⟩
theorem EventErr_any (w:World) (Ae:Option Addr) (ne ce:Nat) (Aa:Option Addr) (na ca:Nat) (i:Int) (hn:ne≤1000000000) :
 Calls Tryz.prog 188 #[netV Ae ne ce Aa na ca,.int .i64 i] w fun e w'=>e=.returned (.int .i64 (evtE ne i))∧Below w.heap.size w w':=by
 unfold netV
 obtain ⟨b,hb⟩:∃ b,zaj i 0 ((ne:Int) - 1)=b:=⟨_,rfl⟩
 have W:=fun W=>za1 i 0 ((ne:Int) - 1) b hb W
 have HV:Hid (evtE ne i=if b=true then 0 else 6):=by rw [Hid,evtE,hb]
 clear hb
 cases b
 all_goals
  go_enter Tryz.func188,Tryz.ntmps188
  go_wp2_with (go_at_call 9;refine (W _).mono ?_;rintro e w' ⟨rfl,rfl⟩)
  go_ret
  exact ⟨by rw [HV.out];rfl,(Below.refl _ _).alloc (Nat.le_refl _) _⟩
theorem zig (w:World) (Ae:Option Addr) (ne ce:Nat) (Aa:Option Addr) (na ca:Nat) (i E:Int) (hE:evtE ne i=E) (hn:ne≤1000000000) :
 Calls Tryz.prog 188 #[netV Ae ne ce Aa na ca,.int .i64 i] w fun e w'=>e=.returned (.int .i64 E)∧Below w.heap.size w w':=by
 rw [← hE]
 exact EventErr_any w Ae ne ce Aa na ca i hn
end Go.Proofs.YtoodbfkbbchjiaaGreatDoor
