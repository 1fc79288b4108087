import Derived.Lib.SplitLaws
import Derived.Lib.ItoaLen
import Derived.Lib.AtoiAll
import Derived.Lib.Join
set_option maxRecDepth 100000
set_option maxHeartbeats 16000000
namespace Go.Proofs.YtoodbfkbbchjiaaGreatDoor
def zj8 (c:UInt8):Bool:=decide (48≤c.toNat) && decide (c.toNat≤57)
def zhe (v:Nat) (l:List UInt8):Nat:=l.foldl (fun v c=>10 * v+(c.toNat - 48)) v
theorem digN_nil (v:Nat):zhe v []=v:=rfl
theorem zfr (v:Nat) (c:UInt8) (l:List UInt8):zhe v (c :: l)=zhe (10 * v+(c.toNat - 48)) l:=by simp only [zhe,List.foldl_cons]
def negL (l:List UInt8):Bool:=l.head? == some 45
def zly (l:List UInt8):List UInt8:=if negL l then l.tail else l
def numB (l:List UInt8) (most:Nat):Bool:=
 decide (zly l≠[]) && decide ((zly l).length≤most) && !(decide ((zly l).head?=some 48) && decide (1<l.length)) && (zly l).all zj8
def numL (l:List UInt8) (most:Nat):Option Int:=
 if numB l most then some (if negL l then -(zhe 0 (zly l):Int) else (zhe 0 (zly l):Int)) else none
theorem digN_append (v:Nat) (l:List UInt8) (c:UInt8):zhe v (l++[c])=10 * zhe v l+(c.toNat - 48):=by
 simp only [zhe,List.foldl_append,List.foldl_cons,List.foldl_nil]
theorem digN_lt (l:List UInt8) (h:l.all zj8=true):zhe 0 l<10 ^ l.length:=by
 suffices H:∀ (l:List UInt8) (v k:Nat),l.all zj8=true→v<10 ^ k→zhe v l<10 ^ (k+l.length) by
  have:=H l 0 0 h (by decide)
  simpa using this
 intro l
 induction l with
 | nil=>intro v k _ hv;simpa [digN_nil] using hv
 | cons c l ih =>
  intro v k ha hv
  simp only [List.all_cons,Bool.and_eq_true,zj8,decide_eq_true_eq] at ha
  have:=ih (10 * v+(c.toNat - 48)) (k+1) ha.2 (by rw [Nat.pow_succ];omega)
  rw [List.length_cons,zfr]
  rw [show k+(l.length+1)=k+1+l.length by omega]
  exact this
theorem digN_ge (l:List UInt8) (v:Nat):v≤zhe v l:=by
 induction l generalizing v with
 | nil=>exact Nat.le_refl _
 | cons c l ih=>rw [zfr];exact Nat.le_trans (by omega) (ih _)
theorem digN_pos (c:UInt8) (l:List UInt8) (h1:zj8 c=true) (h2:c≠48):1≤zhe 0 (c :: l):=by
 have:1≤c.toNat - 48:=by
  simp only [zj8,Bool.and_eq_true,decide_eq_true_eq] at h1
  have:c.toNat≠48:=fun e=>h2 (UInt8.toNat_inj.1 e)
  omega
 rw [zfr,Nat.mul_zero,Nat.zero_add]
 exact Nat.le_trans this (digN_ge l _)
theorem dig_byte (d:Nat) (h:d<10):zj8 (UInt8.ofNat (48+d))=true∧(UInt8.ofNat (48+d)).toNat=48+d:=by
 have:∀ d:Fin 10,zj8 (UInt8.ofNat (48+d.val))=true∧(UInt8.ofNat (48+d.val)).toNat=48+d.val:=by decide
 exact this ⟨d,h⟩
theorem byte_dig (c:UInt8) (h:zj8 c=true):UInt8.ofNat (48+(c.toNat - 48))=c:=by
 simp only [zj8,Bool.and_eq_true,decide_eq_true_eq] at h
 rw [show 48+(c.toNat - 48)=c.toNat by omega]
 exact UInt8.ofNat_toNat
theorem zl3 (u:Nat):(Lib.decDigits u).all zj8=true:=by
 induction u using Nat.strongRecOn with
 | _ u ih =>
  by_cases h:u<10
  · rw [Lib.decDigits_one h]
    simp only [List.all_cons,List.all_nil,(dig_byte u h).1,Bool.and_self]
  · rw [Lib.decDigits,dif_neg h,List.all_append,ih (u / 10) (by omega)]
    simp only [List.all_cons,List.all_nil,(dig_byte (u % 10) (Nat.mod_lt _ (by decide))).1,Bool.and_self]
theorem decDigits_ne (u:Nat):Lib.decDigits u≠[]:=by
 intro h
 have h1:=Lib.decDigits_length u
 have h2:=Lib.nDigits_pos u
 rw [h] at h1
 simp at h1
 omega
theorem dec_digN:∀ (r:List UInt8) (c:UInt8) (l:List UInt8),r=(c :: l).reverse→True→r.all zj8=true→r≠[]→(r.head?≠some 48∨r.length=1)→Lib.decDigits (zhe 0 r)=r:=by
 suffices H:∀ (n:Nat) (r:List UInt8),r.length=n→r.all zj8=true→r≠[]→(r.head?≠some 48∨r.length=1)→Lib.decDigits (zhe 0 r)=r by
  intro r _ _ _ _ h1 h2 h3
  exact H _ r rfl h1 h2 h3
 intro n
 induction n with
 | zero=>intro r hl _ hne _;exact absurd (List.length_eq_zero_iff.1 hl) hne
 | succ n ih =>
  intro r hl ha hne hh
  obtain ⟨l,c,rfl⟩:∃ l c,r=l++[c]:=⟨r.dropLast,r.getLast hne,(List.dropLast_concat_getLast hne).symm⟩
  rw [List.all_append,Bool.and_eq_true] at ha
  have hc:zj8 c=true:=by simpa using ha.2
  have hc2:=hc
  simp only [zj8,Bool.and_eq_true,decide_eq_true_eq] at hc2
  have hln:l.length=n:=by simpa using hl
  rw [digN_append]
  cases l with
  | nil =>
   rw [digN_nil,Lib.decDigits_one (by omega),Nat.mul_zero,Nat.zero_add,List.nil_append]
   rw [byte_dig c hc]
  | cons a l =>
   have hhead:(a :: l).head?≠some 48:=by
    rcases hh with hh | hh
    · simpa using hh
    · simp at hh
   have hg:=ih (a :: l) hln ha.1 (by simp) (.inl hhead)
   have hpos:1≤zhe 0 (a :: l):=digN_pos a l (by simpa using (List.all_eq_true.1 ha.1 a (by simp))) (by simpa using hhead)
   rw [Lib.decDigits,dif_neg (by omega),show (10 * zhe 0 (a :: l)+(c.toNat - 48)) / 10=zhe 0 (a :: l) by omega,show (10 * zhe 0 (a :: l)+(c.toNat - 48)) % 10=c.toNat - 48 by omega,hg,byte_dig c hc]
theorem dec_dig (r:List UInt8) (h1:r.all zj8=true) (h2:r≠[]) (h3:r.head?≠some 48∨r.length=1):Lib.decDigits (zhe 0 r)=r:=
 dec_digN r (r.getLast h2) r.dropLast.reverse (by simp [List.dropLast_concat_getLast h2]) trivial h1 h2 h3
theorem parse_dig:∀ (r:List UInt8) (v:Nat),r.all zj8=true→zhe v r<18446744073709551616→Lib.parseUint10 v r=.ok (zhe v r)
 | [],_,_,_=>rfl
 | c :: l,v,ha,hv=>by
  simp only [List.all_cons,Bool.and_eq_true] at ha
  have hc:=ha.1
  simp only [zj8,Bool.and_eq_true,decide_eq_true_eq] at hc
  rw [zfr] at hv
  have hge:=digN_ge l (10 * v+(c.toNat - 48))
  rw [Lib.parseUint10,if_pos hc,if_neg (by omega),if_neg (by omega),Nat.mul_comm v 10,zfr]
  exact parse_dig l _ ha.2 hv
theorem toNat45:(45:UInt8).toNat=45:=rfl
theorem trim_neg (l:List UInt8):Lib.trimPrefix l [45]=zly l:=by
 unfold Lib.trimPrefix Lib.hasPrefix zly negL
 cases l with
 | nil=>rfl
 | cons c r =>
  by_cases h:c=45
  · subst h;rfl
  · have h1:([45]:List UInt8).isPrefixOf (c :: r)=false:=by simp [List.isPrefixOf,Ne.symm h]
    rw [h1]
    simp [h]
theorem zlv {l:List UInt8} {most:Nat} {n:Int} (hm:most≤18) (h:numL l most=some n) :
 Lib.atoiAll l=.ok n∧Lib.itoa n=l∧(Lib.trimPrefix l [45]).length≤most∧-1000000000000000000<n∧n<1000000000000000000:=by
 unfold numL at h
 split at h
 case isFalse=>exact absurd h (by simp)
 case isTrue hb =>
  simp only [numB,Bool.and_eq_true,decide_eq_true_eq,Bool.not_eq_true',Bool.and_eq_false_iff,decide_eq_false_iff_not] at hb
  obtain ⟨⟨⟨h1,h2⟩,h3⟩,h4⟩:=hb
  rw [trim_neg]
  have hlt:zhe 0 (zly l)<1000000000000000000:=by
   have:=digN_lt (zly l) h4
   have:10 ^ (zly l).length≤10 ^ 18:=Nat.pow_le_pow_right (by decide) (by omega)
   have e:(10:Nat) ^ 18=1000000000000000000:=by decide
   omega
  have hpar:=parse_dig (zly l) 0 h4 (by omega)
  cases l with
  | nil=>simp [zly,negL] at h1
  | cons c r =>
   by_cases hc:c=45
   · subst hc
     have hn:negL (45 :: r)=true:=by simp [negL]
     have hmg:zly (45 :: r)=r:=by simp [zly,hn]
     rw [hmg] at h1 h2 h3 h4 hlt hpar
     rw [hn,if_pos rfl,hmg] at h
     injection h with h
     subst h
     have hh:r.head?≠some 48:=by
      rcases h3 with h3 | h3
      · exact h3
      · exfalso
        apply h3
        cases r with
        | nil=>exact absurd rfl h1
        | cons a b=>simp
     have hpos:1≤zhe 0 r:=by
      cases r with
      | nil=>exact absurd rfl h1
      | cons a b=>exact digN_pos a b (by simpa using (List.all_eq_true.1 h4 a (by simp))) (by simpa using hh)
     refine ⟨?_,?_,by rw [hmg];exact h2,by omega,by omega⟩
     · unfold Lib.atoiAll
       simp only [toNat45]
       rw [if_pos (.inr trivial)]
       unfold Lib.parseMag
       rw [if_neg h1,hpar]
       simp only
       rw [if_neg (by simp),if_neg (by omega),if_pos trivial]
     · unfold Lib.itoa
       rw [if_pos (by omega),show (-(zhe 0 r:Int)).natAbs=zhe 0 r by omega,dec_dig r h4 h1 (.inl hh)]
   · have hn:negL (c :: r)=false:=by simp [negL,hc]
     have hmg:zly (c :: r)=c :: r:=by simp [zly,hn]
     rw [hmg] at h1 h2 h3 h4 hlt hpar
     rw [hn,if_neg (by simp),hmg] at h
     injection h with h
     subst h
     have hcd:zj8 c=true:=by simpa using (List.all_eq_true.1 h4 c (by simp))
     have hcd2:=hcd
     simp only [zj8,Bool.and_eq_true,decide_eq_true_eq] at hcd2
     refine ⟨?_,?_,by rw [hmg];exact h2,by omega,by omega⟩
     · unfold Lib.atoiAll
       simp only
       rw [if_neg (by omega)]
       unfold Lib.parseMag
       rw [if_neg h1,hpar]
       simp only
       rw [if_neg (by omega),if_neg (fun e=>absurd e.1 (by omega)),if_neg (by omega)]
     · unfold Lib.itoa
       rw [if_neg (by omega),show ((zhe 0 (c :: r):Int)).toNat=zhe 0 (c :: r) by omega]
       refine dec_dig _ h4 h1 ?_
       rcases h3 with h3 | h3
       · exact .inl h3
       · simp only [List.length_cons] at h3 ⊢
         exact .inr (by omega)
theorem itoa_mag (n:Int):Lib.trimPrefix (Lib.itoa n) [45]=Lib.decDigits n.natAbs:=by
 rw [trim_neg]
 by_cases hn:n<0
 · have e:Lib.itoa n=45 :: Lib.decDigits n.natAbs:=by unfold Lib.itoa;rw [if_pos hn]
   rw [e]
   simp [zly,negL]
 · have e:Lib.itoa n=Lib.decDigits n.natAbs:=by unfold Lib.itoa;rw [if_neg hn,show n.toNat=n.natAbs by omega]
   rw [e]
   have h1:negL (Lib.decDigits n.natAbs)=false:=by
    have ha:=zl3 n.natAbs
    cases hd:Lib.decDigits n.natAbs with
    | nil=>exact absurd hd (decDigits_ne _)
    | cons a b =>
     rw [hd] at ha
     have hcd:zj8 a=true:=by simpa using (List.all_eq_true.1 ha a (by simp))
     simp only [negL,List.head?_cons,beq_eq_false_iff_ne,ne_eq,Option.some.injEq]
     intro e45
     rw [e45] at hcd
     exact absurd hcd (by decide)
   simp [zly,h1]
def spl:List UInt8→List (List UInt8)
 | []=>[[]]
 | c :: r=>if c=32 then [] :: spl r else match spl r with
  | []=>[[c]]
  | h :: t=>(c :: h) :: t
theorem spl_ne (l:List UInt8):spl l≠[]:=by
 cases l with
 | nil=>simp [spl]
 | cons c r =>
  rw [spl]
  split
  · simp
  · split <;> simp
theorem spl_pre (p:List UInt8) (r:List UInt8) (hp:(32:UInt8) ∉ p):∃ h t,spl r=h :: t∧spl (p++r)=(p++h) :: t:=by
 induction p with
 | nil =>
  cases hs:spl r with
  | nil=>exact absurd hs (spl_ne _)
  | cons h t=>exact ⟨h,t,rfl,hs⟩
 | cons c p ih =>
  obtain ⟨h,t,h1,h2⟩:=ih (fun hm=>hp (List.mem_cons_of_mem _ hm))
  refine ⟨h,t,h1,?_⟩
  rw [List.cons_append,spl,if_neg (fun e=>hp (by simp [e])),h2]
  rfl
theorem spl_blank (p r:List UInt8) (hp:(32:UInt8) ∉ p):spl (p++32 :: r)=p :: spl r:=by
 obtain ⟨h,t,h1,h2⟩:=spl_pre p (32 :: r) hp
 rw [spl,if_pos rfl] at h1
 injection h1 with e1 e2
 rw [h2,← e1,← e2,List.append_nil]
theorem spl_none (p:List UInt8) (hp:(32:UInt8) ∉ p):spl p=[p]:=by
 obtain ⟨h,t,h1,h2⟩:=spl_pre p [] hp
 rw [spl] at h1
 injection h1 with e1 e2
 rw [List.append_nil] at h2
 rw [h2,← e1,← e2,List.append_nil]
theorem spl_mem (l:List UInt8):(∃ p r,l=p++32 :: r∧(32:UInt8) ∉ p)∨(32:UInt8) ∉ l:=by
 induction l with
 | nil=>right;simp
 | cons c l ih =>
  by_cases hc:c=32
  · left;exact ⟨[],l,by rw [hc];rfl,by simp⟩
  · rcases ih with ⟨p,r,h1,h2⟩ | h
    · left
      exact ⟨c :: p,r,by rw [h1];rfl,by simp [Ne.symm hc,h2]⟩
    · right
      simp [Ne.symm hc,h]
theorem index_pre (p r:List UInt8) (hp:(32:UInt8) ∉ p):Lib.index (p++32 :: r) [32]=(p.length:Int):=by
 induction p with
 | nil=>simp [Lib.index,List.isPrefixOf]
 | cons c p ih =>
  have hc:c≠32:=fun e=>hp (by simp [e])
  have h0:([32]:List UInt8).isPrefixOf (c :: (p++32 :: r))=false:=by simp [List.isPrefixOf,Ne.symm hc]
  rw [List.cons_append,Lib.index,h0,ih (fun hm=>hp (List.mem_cons_of_mem _ hm))]
  have h1:((p.length:Int) == -1)=false:=by rw [beq_eq_false_iff_ne];omega
  simp [h1]
theorem index_no (p:List UInt8) (hp:(32:UInt8) ∉ p):Lib.index p [32]=-1:=by
 induction p with
 | nil=>simp [Lib.index]
 | cons c p ih =>
  have hc:c≠32:=fun e=>hp (by simp [e])
  have h0:([32]:List UInt8).isPrefixOf (c :: p)=false:=by simp [List.isPrefixOf,Ne.symm hc]
  rw [Lib.index,h0,ih (fun hm=>hp (List.mem_cons_of_mem _ hm))]
  simp
theorem split_spl (l:List UInt8):Lib.split l [32]=spl l:=by
 suffices H:∀ (n:Nat) (l:List UInt8),l.length=n→Lib.split l [32]=spl l from H _ l rfl
 intro n
 induction n using Nat.strongRecOn with
 | _ n ih =>
  intro l hl
  unfold Lib.split
  rcases spl_mem l with ⟨p,r,rfl,hp⟩ | hno
  · have hix:=index_pre p r hp
    have hc:Lib.count (p++32 :: r) [32]=Lib.count r [32]+1:=by
     rw [Lib.count_hit (i:=p.length) (by simp) hix]
     have hd:(p++32 :: r).drop (p.length+([32]:List UInt8).length)=r:=by simp
     rw [hd]
     omega
    rw [hc,Lib.splitK,hix,if_neg (by rw [beq_iff_eq];omega),spl_blank p r hp]
    have:=ih r.length (by simp at hl;omega) r rfl
    unfold Lib.split at this
    have hd:(p++32 :: r).drop ((p.length:Int).toNat+([32]:List UInt8).length)=r:=by simp
    rw [hd,this]
    simp
  · rw [spl_none l hno,Lib.count_miss (index_no l hno)]
    rfl
def ba (l:List UInt8):ByteArray:=⟨l.toArray⟩
theorem zft (l:List UInt8):(ba l).data.toList=l:=by simp [ba]
theorem ba_of (s:ByteArray):ba s.data.toList=s:=Lib.mk_data s
theorem zcw (l:List UInt8):(ba l).size=l.length:=by rw [Lib.size_eq,zft]
theorem ba_eq {s:ByteArray} {l:List UInt8}:s=ba l↔s.data.toList=l:=
 ⟨fun h=>by rw [h,zft],fun h=>by rw [← h,ba_of]⟩
def zli (s:ByteArray):List ByteArray:=(spl s.data.toList).map ba
theorem map_ba {l:List ByteArray} {m:List (List UInt8)} (h:l.map (·.data.toList)=m):l=m.map ba:=by
 rw [← h,List.map_map]
 conv=>lhs;rw [← List.map_id l]
 exact List.map_congr_left fun s _=>(ba_of s).symm
theorem zkk (s:ByteArray):Lib.splitB ⟨#[32]⟩ 0 (Lib.countB s ⟨#[32]⟩) s=zli s:=by
 refine map_ba ?_
 rw [Lib.splitB_data]
 exact split_spl _
theorem splitB_len (s:ByteArray):Lib.countB s ⟨#[32]⟩+1=(zli s).length:=by
 rw [← zkk,Lib.splitB_all ⟨#[32]⟩ (by decide) 0 _ s rfl]
theorem spl_part (l:List UInt8):∀ p∈spl l,p.length≤l.length:=by
 induction l with
 | nil=>intro p hp;simp [spl] at hp;subst hp;simp
 | cons c r ih =>
  intro p hp
  rw [spl] at hp
  split at hp
  · rcases List.mem_cons.1 hp with e | e
    · subst e;simp
    · have:=ih p e;simp;omega
  · split at hp
    · rename_i e;exact absurd e (spl_ne r)
    · rename_i h t e
      rw [e] at ih
      rcases List.mem_cons.1 hp with e1 | e1
      · subst e1
        have:=ih h (by simp)
        simp;omega
      · have:=ih p (by simp [e1])
        simp;omega
theorem splB_part (s:ByteArray):∀ p∈zli s,p.size≤s.size:=by
 intro p hp
 unfold zli at hp
 obtain ⟨q,hq,rfl⟩:=List.mem_map.1 hp
 rw [zcw,Lib.size_eq]
 exact spl_part _ q hq
end Go.Proofs.YtoodbfkbbchjiaaGreatDoor
