/- What other texts lend to this one: only the declarations that are used. The open findings, plainly: the code's set and the reference's list. Names: both functions. Findings: their errors, and the copy. OpenOf: the beams that the code finds. OpenOf of the reference. CareFindings: the walk. Arguments opened: findings. -/
import Derived.Test.YtmcjnfghlpnghaaDoorM8
import Derived.Test.YtmcjnfghlpnghaaDoorW6
import Derived.Test.YtmcjnfghlpnghaaDoorC1
import Derived.Test.YtmcjnfghlpnghaaDoorC2
import Derived.Test.YtmcjnfghlpnghaaDoorX1
import Derived.Shelf.SlSortCmp.SmallK
import Derived.Ground.SlsfProg
import Derived.Test.YtmcjnfghlpnghaaDoorProg
import Derived.Test.YtmcjnfghlpnghaaDoorW4
import Derived.Test.YtmcjnfghlpnghaaDoorE1
import Derived.Test.YtmcjnfghlpnghaaDoorD1
import Derived.Lib.AtoiErrMem
import Derived.Test.YtmcjnfghlpnghaaDoorW1
import Derived.Maps.RangeWalk
import Derived.Test.YtmcjnfghlpnghaaDoorR6
import Derived.Test.YtmcjnfghlpnghaaDoorM4
namespace Go.Proofs.YtmcjnfghlpnghaaDoor
open Go.RowKit
/-- the best set so far, as a value -/
def BestAt (w : World) : Option (List Nat) → Value → Prop
  | none, v => v = .slice none 0 0
  | some T, v => ∃ b cap, v = .slice (some ⟨b, 0, none⟩) T.length cap ∧ Rd w w.heap.size (some ⟨b, 0, none⟩) (natCells T)
theorem BestAt.below {w w' : World} {o : Option (List Nat)} {v : Value} (h : BestAt w o v) (hb : Below w.heap.size w w') : BestAt w' o v := by
  cases o with
  | none => exact h
  | some T =>
    obtain ⟨b, cap, h1, h2⟩ := h
    exact ⟨b, cap, h1, (h2.below hb).mono hb.size⟩
end Go.Proofs.YtmcjnfghlpnghaaDoor
namespace Go.Proofs.YtmcjnfghlpnghaaDoor
open Go.RowKit
theorem own_cap {w : World} {B e size n c : Nat} {A : Option Addr} {xs : List Value} (h : w.ownsRow B e size (.slice A n c) n xs) : n ≤ c := by
  rcases h.2 with ⟨h1, h2⟩ | ⟨g, cap, cur, h1, _, _, h3, _⟩
  · omega
  · simp only [Value.slice.injEq] at h1
    omega
/-- an append of a whole list to a slice of the call's own -/
theorem wpList_append_on (w : World) {ops : Array Oper} {rest : List Oper} {o : Oper} {a : Act} {Q : Exit → Act → World → Prop} (hgd : o.guard = none) (s x : Operand) (t : TypeId)
    (ho : o.op = .call { callee := .builtin .append, args := #[s, x], argTypes := #[t, t] })
    (base : Nat) (e : TypeId) (i : TypeInfo) (z : Value) (size bytes : Nat) (ht : Tryd.prog.underlying t = some (.slice e)) (hi : Tryd.prog.info? e = some i) (hz : i.zero = some z)
    (hsize : i.size = size) (hby : i.bytes = bytes) (hzs : z.cells.size = size) (hsz : 0 < size)
    (g0 n0 cap0 : Nat) (olds : List Value) (hs : a.eval s = .slice (some ⟨g0, 0, none⟩) n0 cap0) (hown : w.ownsRow base e size (.slice (some ⟨g0, 0, none⟩) n0 cap0) n0 olds)
    (B : Nat) (A : Option Addr) (m c : Nat) (news : List Value) (hx : a.eval x = .slice A m c) (hl : news.length = m * size) (hrd : Rd w B A news) (h1 : ∀ u ∈ news, u.oneCell' = true)
    (h63 : n0 + m ≤ maxLen) (hbytes : (n0 + m) * bytes ≤ 140737488355328) (hbase : base ≤ w.heap.size)
    (h : ∀ g cap w', w'.ownsRow base e size (.slice (some ⟨g, 0, none⟩) (n0 + m) cap) (n0 + m) (olds ++ news) → w.grownBy w' (some g0) → (g0 = g ∨ g = w.heap.size) → wpList Tryd.prog ops Q rest (a.put o.dst (.slice (some ⟨g, 0, none⟩) (n0 + m) cap)) w') : wpList Tryd.prog ops Q (o :: rest) a w := by
  rcases Nat.eq_zero_or_pos m with rfl | hm
  · have hn : news = [] := by simpa using hl
    subst hn
    refine wpList_plain hgd fun K hK' => ?_
    have hr := run_append_nothing (P := Tryd.prog) w t t o.type e i ht hi (some ⟨g0, 0, none⟩) n0 cap0 (own_cap hown) (.slice A 0 c) ?_
    · unfold Oper.wp
      simp [execOp, ho, resolve, invoke, builtin, hs, hx, hr, Result.andThen]
      exact hK' _ _ (h g0 cap0 w (by simpa using hown) ⟨rfl, rfl, rfl, Nat.le_refl _, fun _ _ _ => rfl⟩ (.inl rfl))
    · rw [hsize]
      cases A with
      | none => exact Src.ofNil w ht c
      | some ad => exact Src.ofSlice w ht ad 0 c [] (by simp) (fun j u hu => by simp at hu) (fun u hu => by simp at hu)
  · have hlen : 0 < news.length := by rw [hl]; exact Nat.mul_pos hm hsz
    obtain ⟨b, off, rfl, _, _⟩ := hrd 0 _ (List.getElem?_eq_getElem hlen)
    refine wpList_append_lies w hgd s x t ho base e i z size bytes ht hi hz hsize hby hzs hsz (.slice (some ⟨g0, 0, none⟩) n0 cap0) n0 olds hs hown ⟨b, off, none⟩ m c news hx hl ?_ h1 hm h63 hbytes hbase _ rfl ?_
    · intro j u hu
      obtain ⟨b', off', he, _, hc⟩ := hrd j u hu
      simp only [Option.some.injEq, Addr.mk.injEq, and_true] at he
      obtain ⟨rfl, rfl⟩ := he
      simp only [Addr.add]
      split
      · rename_i hj
        subst hj
        simpa using hc
      · exact hc
    · intro g cap w' hown' hgrow hat _
      refine h g cap w' hown' hgrow ?_
      rcases hat with h2 | h2
      · left
        simpa [Value.ownBlock] using h2
      · exact .inr h2
/-- rows of numbers, each in memory of its own -/
def SetsAt (w : World) (B : Nat) (hs : List Value) (xss : List (List Int)) : Prop :=
  hs.length = xss.length ∧ ∀ (i : Nat) (xs : List Int), xss[i]? = some xs → ∃ v, hs[i]? = some v ∧ w.ownsRow B 3 1 v xs.length (intCells xs)
theorem own_keep {w w' : World} {B e size : Nat} {v : Value} {n : Nat} {xs : List Value} (h : w.ownsRow B e size v n xs) (hk : ∀ (k : Nat) (cur : Array Value), w.heap[k]? = some (Obj.cells cur e (0, 0)) → w'.heap[k]? = w.heap[k]?) : w'.ownsRow B e size v n xs := by
  refine ⟨h.1, ?_⟩
  rcases h.2 with h2 | ⟨g, cap, cur, h1, h2, h3, h4⟩
  · exact .inl h2
  · exact .inr ⟨g, cap, cur, h1, h2, (hk g cur h3).trans h3, h4⟩
theorem SetsAt.keep {w w' : World} {B : Nat} {hs : List Value} {xss : List (List Int)} (h : SetsAt w B hs xss) (hk : ∀ (k : Nat) (cur : Array Value), w.heap[k]? = some (Obj.cells cur 3 (0, 0)) → w'.heap[k]? = w.heap[k]?) : SetsAt w' B hs xss :=
  ⟨h.1, fun i xs hi => by
    obtain ⟨v, h1, h2⟩ := h.2 i xs hi
    exact ⟨v, h1, own_keep h2 hk⟩⟩
theorem SetsAt.below {w w' : World} {B : Nat} {hs : List Value} {xss : List (List Int)} (h : SetsAt w B hs xss) (hb : Below w.heap.size w w') : SetsAt w' B hs xss :=
  h.keep fun k _ hk => hb.block k (lt_of_block hk)
theorem SetsAt.mono {w : World} {B B' : Nat} {hs : List Value} {xss : List (List Int)} (h : SetsAt w B hs xss) (hB : B' ≤ B) : SetsAt w B' hs xss :=
  ⟨h.1, fun i xs hi => by
    obtain ⟨v, h1, h2, h3⟩ := h.2 i xs hi
    refine ⟨v, h1, h2, ?_⟩
    rcases h3 with h3 | ⟨g, cap, cur, h3, h4, h5⟩
    · exact .inl h3
    · exact .inr ⟨g, cap, cur, h3, Nat.le_trans hB h4, h5⟩⟩
end Go.Proofs.YtmcjnfghlpnghaaDoor

namespace Go.Proofs.YtmcjnfghlpnghaaDoor

/-- a finding: its beam and its offset -/
abbrev Fnd := Int × Int
/-- the last offset of a beam -/
def lastOff : List Fnd → Int → Option Int
  | [], _ => none
  | f :: l, b => (lastOff l b).or (if f.1 = b then some f.2 else none)
def openB (l : List Fnd) (lim x : Int) : Prop := ∃ o, lastOff l x = some o ∧ lim < sizeI o
/-- the reference's insertion -/
def insI (b : Int) : List Int → List Int
  | [] => [b]
  | a :: l => if a < b then a :: insI b l else b :: a :: l
def openGo (lim : Int) : List Int → List Fnd → List Int
  | acc, [] => acc
  | acc, f :: l => openGo lim (if (l.any fun g => g.1 == f.1) = true ∨ sizeI f.2 ≤ lim then acc else insI f.1 acc) l

theorem lastOff_none {l : List Fnd} {b : Int} : lastOff l b = none ↔ ∀ f ∈ l, f.1 ≠ b := by
  induction l with
  | nil => simp [lastOff]
  | cons f l ih =>
    rw [lastOff, Option.or_eq_none_iff, ih]
    simp only [List.mem_cons, forall_eq_or_imp]
    constructor
    · rintro ⟨h1, h2⟩
      refine ⟨fun h => ?_, h1⟩
      rw [if_pos h] at h2
      cases h2
    · rintro ⟨h1, h2⟩
      exact ⟨h2, if_neg h1⟩
theorem lastOff_snoc (l : List Fnd) (f : Fnd) (b : Int) : lastOff (l ++ [f]) b = if f.1 = b then some f.2 else lastOff l b := by
  induction l with
  | nil => simp [lastOff]
  | cons g l ih =>
    rw [List.cons_append, lastOff, ih, lastOff]
    by_cases h : f.1 = b
    · rw [if_pos h, if_pos h]
      rfl
    · rw [if_neg h, if_neg h]
theorem insI_mem {b x : Int} {l : List Int} : x ∈ insI b l ↔ x = b ∨ x ∈ l := by
  induction l with
  | nil => simp [insI]
  | cons a l ih =>
    rw [insI]
    split
    · rw [List.mem_cons, ih, List.mem_cons]
      constructor
      · rintro (h | h | h) <;> simp [h]
      · rintro (h | h | h) <;> simp [h]
    · rw [List.mem_cons]
theorem insI_sorted {b : Int} : ∀ {l : List Int}, l.Pairwise (· < ·) → b ∉ l → (insI b l).Pairwise (· < ·)
  | [], _, _ => by simp [insI]
  | a :: l, h, hb => by
    rw [List.pairwise_cons] at h
    simp only [List.mem_cons, not_or] at hb
    rw [insI]
    split
    · rename_i hab
      rw [List.pairwise_cons]
      refine ⟨fun x hx => ?_, insI_sorted h.2 hb.2⟩
      rcases insI_mem.1 hx with rfl | hx
      · exact hab
      · exact h.1 x hx
    · rename_i hab
      rw [List.pairwise_cons]
      refine ⟨fun x hx => ?_, List.pairwise_cons.2 h⟩
      rcases List.mem_cons.1 hx with rfl | hx
      · omega
      · have := h.1 x hx
        omega
theorem openGo_spec (lim : Int) : ∀ (l : List Fnd) (acc : List Int), acc.Pairwise (· < ·) → (∀ x ∈ acc, ∀ f ∈ l, f.1 ≠ x) →
    (openGo lim acc l).Pairwise (· < ·) ∧ ∀ x, x ∈ openGo lim acc l ↔ x ∈ acc ∨ openB l lim x
  | [], acc, h, _ => ⟨h, fun x => by simp [openGo, openB, lastOff]⟩
  | f :: l, acc, h, hd => by
    rw [openGo]
    have hacc : ∀ x ∈ acc, ∀ g ∈ l, g.1 ≠ x := fun x hx g hg => hd x hx g (by simp [hg])
    by_cases hc : (l.any fun g => g.1 == f.1) = true ∨ sizeI f.2 ≤ lim
    · rw [if_pos hc]
      obtain ⟨h1, h2⟩ := openGo_spec lim l acc h hacc
      refine ⟨h1, fun x => ?_⟩
      rw [h2 x]
      have : openB l lim x ↔ openB (f :: l) lim x := by
        unfold openB
        rw [lastOff]
        cases hl : lastOff l x with
        | some o => simp
        | none =>
          simp only [Option.none_or]
          constructor
          · rintro ⟨o, h, _⟩
            cases h
          · rintro ⟨o, h, ho⟩
            split at h
            · rename_i hx
              cases h
              rcases hc with hc | hc
              · obtain ⟨g, hg, he⟩ := List.any_eq_true.1 hc
                exact absurd ((beq_iff_eq.1 he).trans hx) (lastOff_none.1 hl g hg)
              · omega
            · cases h
      rw [this]
    · rw [if_neg hc]
      rw [not_or] at hc
      obtain ⟨hc1, hc2⟩ := hc
      have hno : ∀ g ∈ l, g.1 ≠ f.1 := fun g hg he => hc1 (List.any_eq_true.2 ⟨g, hg, beq_iff_eq.2 he⟩)
      have hfa : f.1 ∉ acc := fun hx => hd f.1 hx f (by simp) rfl
      obtain ⟨h1, h2⟩ := openGo_spec lim l (insI f.1 acc) (insI_sorted h hfa) (fun x hx g hg => by
        rcases insI_mem.1 hx with rfl | hx
        · exact hno g hg
        · exact hacc x hx g hg)
      refine ⟨h1, fun x => ?_⟩
      rw [h2 x, insI_mem]
      by_cases hx : f.1 = x
      · subst hx
        have : openB (f :: l) lim f.1 := ⟨f.2, by rw [lastOff, lastOff_none.2 hno]; simp, by omega⟩
        simp [this]
      · have : openB l lim x ↔ openB (f :: l) lim x := by
          unfold openB
          rw [lastOff, if_neg hx, Option.or_none]
        rw [this]
        constructor
        · rintro ((h | h) | h)
          · exact absurd h.symm hx
          · exact .inl h
          · exact .inr h
        · rintro (h | h)
          · exact .inl (.inr h)
          · exact .inr h
def openM (l : List Fnd) (lim : Int) : List Int := openGo lim [] l
theorem openM_sorted (l : List Fnd) (lim : Int) : (openM l lim).Pairwise (· < ·) := (openGo_spec lim l [] .nil fun _ h => by simp at h).1
theorem openM_mem {l : List Fnd} {lim x : Int} : x ∈ openM l lim ↔ openB l lim x := by
  have := (openGo_spec lim l [] .nil fun _ h => by simp at h).2 x
  simpa [openM] using this
theorem sorted_ext : ∀ {a b : List Int}, a.Pairwise (· < ·) → b.Pairwise (· < ·) → (∀ x, x ∈ a ↔ x ∈ b) → a = b
  | [], [], _, _, _ => rfl
  | [], y :: b, _, _, h => absurd ((h y).2 (by simp)) (by simp)
  | x :: a, [], _, _, h => absurd ((h x).1 (by simp)) (by simp)
  | x :: a, y :: b, ha, hb, h => by
    rw [List.pairwise_cons] at ha hb
    have hxy : x = y := by
      rcases List.mem_cons.1 ((h x).1 (by simp)) with e | e
      · exact e
      · rcases List.mem_cons.1 ((h y).2 (by simp)) with e' | e'
        · exact e'.symm
        · have := hb.1 x e
          have := ha.1 y e'
          omega
    subst hxy
    rw [sorted_ext ha.2 hb.2 fun z => ?_]
    constructor
    · intro hz
      rcases List.mem_cons.1 ((h z).1 (by simp [hz])) with e | e
      · have := ha.1 z hz
        omega
      · exact e
    · intro hz
      rcases List.mem_cons.1 ((h z).2 (by simp [hz])) with e | e
      · have := hb.1 z hz
        omega
      · exact e
/-- a list of just the open beams, each once, is the reference's when it is sorted -/
theorem open_eq {l : List Fnd} {lim : Int} {o s : List Int} (hn : o.Nodup) (hm : ∀ x, x ∈ o ↔ openB l lim x) (hp : s.Perm o) (hs : s.Pairwise (· ≤ ·)) : s = openM l lim := by
  have hns : s.Nodup := hp.nodup_iff.2 hn
  have hss : s.Pairwise (· < ·) := by
    refine (hs.and hns).imp ?_
    rintro a b ⟨h1, h2⟩
    omega
  refine sorted_ext hss (openM_sorted l lim) fun x => ?_
  rw [hp.mem_iff, hm, openM_mem]
theorem open_sort {l : List Fnd} {lim : Int} {o : List Int} (hn : o.Nodup) (hm : ∀ x, x ∈ o ↔ openB l lim x) : sortI o = openM l lim := by
  have := List.pairwise_mergeSort (le := fun a b : Int => decide (a ≤ b)) (fun a b c h1 h2 => by simp at *; omega) (fun a b => by simp; omega) o
  exact open_eq hn hm (List.mergeSort_perm _ _) (by simpa [sortI] using this)
theorem open_sub {l : List Fnd} {a b x : Int} (hab : a ≤ b) (h : x ∈ openM l b) : x ∈ openM l a := by
  obtain ⟨o, h1, h2⟩ := openM_mem.1 h
  exact openM_mem.2 ⟨o, h1, by omega⟩
end Go.Proofs.YtmcjnfghlpnghaaDoor

namespace Go.Proofs.YtmcjnfghlpnghaaDoor
open Go.RowKit

/-- may a byte stand at a place of a name -/
def okN (i c : Nat) : Bool := (decide (97 ≤ c) && decide (c ≤ 122) || decide (65 ≤ c) && decide (c ≤ 90)) || !decide (i = 0) && (decide (c = 45) || decide (48 ≤ c) && decide (c ≤ 57))
def nameGo : Nat → List UInt8 → Bool
  | _, [] => true
  | i, b :: l => okN i b.toNat && nameGo (i + 1) l
def nameB (s : ByteArray) : Bool := decide (1 ≤ s.size) && decide (s.size ≤ 12) && nameGo 0 s.data.toList

theorem dropB {l : List UInt8} {k : Nat} (h : k < l.length) : l.drop k = l.getD k 0 :: l.drop (k + 1) := by
  rw [List.drop_eq_getElem_cons h]
  simp [h]
theorem run_index9 (s : ByteArray) (k : Nat) (h : k < s.size) (W : World) : Sem.run Tryd.prog (Instr.index 9 (.string s) (.int .i64 (k : Int))) W = .ok (.int .u8 ((s.data.toList.getD k 0).toNat : Int)) W := by
  rw [run_index_string W 9 s .i64 (k : Int) Tryd.underlying9, dif_pos ⟨by omega, by omega⟩]
  have hk : k < s.data.toList.length := by simpa using h
  rw [List.getD_eq_getElem?_getD, List.getElem?_eq_getElem hk]
  rfl

set_option maxRecDepth 100000 in
set_option maxHeartbeats 8000000 in
theorem refIsName_any (s : ByteArray) (hs9 : s.size ≤ 1000000000) (w : World) : Calls Tryd.prog 150 #[.string s] w fun e w' => e = .returned (.bool (nameB s)) ∧ w = w' := by
  obtain ⟨tot, htot⟩ : ∃ t, nameGo 0 s.data.toList = t := ⟨_, rfl⟩
  by_cases h1 : s.size < 1
  · have HV : Hid (nameB s = false) := by
      rw [Hid, nameB, decide_eq_false (by omega)]
      rfl
    have h1i : (s.size : Int) < 1 := by omega
    go_enter Tryd.func150, Tryd.ntmps150
    go_wp2
    go_ret
    exact ⟨by rw [HV.out]; rfl, rfl⟩
  · by_cases h12 : 12 < s.size
    · have HV : Hid (nameB s = false) := by
        rw [Hid, nameB, decide_eq_true (show 1 ≤ s.size by omega), decide_eq_false (show ¬ s.size ≤ 12 by omega)]
        rfl
      have h1i : ¬ (s.size : Int) < 1 := by omega
      have h12i : (12 : Int) < (s.size : Int) := by omega
      go_enter Tryd.func150, Tryd.ntmps150
      go_wp2
      go_ret
      exact ⟨by rw [HV.out]; rfl, rfl⟩
    · have HV : Hid (nameB s = tot) := by
        rw [Hid, nameB, decide_eq_true (show 1 ≤ s.size by omega), decide_eq_true (show s.size ≤ 12 by omega), htot]
        rfl
      have h1i : ¬ (s.size : Int) < 1 := by omega
      have h12i : ¬ (12 : Int) < (s.size : Int) := by omega
      have HTT := Lib.hid htot
      clear htot
      go_enter Tryd.func150, Tryd.ntmps150
      go_wp2
      go_loop [3] (fun i => ∃ k : Nat, k ≤ s.size ∧ i = .int .i64 k ∧ nameGo k (s.data.toList.drop k) = tot) (fun i => s.size - (intOf i).toNat)
      case atStart => exact ⟨0, Nat.zero_le _, rfl, by rw [List.drop_zero]; exact HTT.out⟩
      case round =>
        obtain ⟨k, hk, rfl, he⟩ := hrel
        have HE := Lib.hid he
        clear he
        by_cases hlt : k < s.size
        · have hkl : k < s.data.toList.length := by simpa using hlt
          have HD := Lib.hid (dropB hkl)
          have hcb : (s.data.toList.getD k 0).toNat ≤ 255 := by have := UInt8.toNat_lt (s.data.toList.getD k 0); omega
          have d0 := run_index9 s k hlt
          have HG : Hid ((okN k (s.data.toList.getD k 0).toNat && nameGo (k + 1) (s.data.toList.drop (k + 1))) = tot) := by
            have := HE.out
            rw [HD.out, nameGo] at this
            exact this
          generalize (s.data.toList.getD k 0).toNat = c at *
          have hlti : (k : Int) < (s.size : Int) := by omega
          clear HE hkl
          have hcs : (c < 45) ∨ (c = 45) ∨ (45 < c ∧ c < 48) ∨ (48 ≤ c ∧ c ≤ 57) ∨ (57 < c ∧ c < 65) ∨ (65 ≤ c ∧ c ≤ 90) ∨ (90 < c ∧ c < 97) ∨ (97 ≤ c ∧ c ≤ 122) ∨ (122 < c) := by omega
          rcases hcs with hcc | hcc | hcc | hcc | hcc | hcc | hcc | hcc | hcc
          · have q0 : ¬ (97 : Int) ≤ (c : Int) := by omega
            have q1 : (c : Int) ≤ 122 := by omega
            have q2 : ¬ (65 : Int) ≤ (c : Int) := by omega
            have q3 : (c : Int) ≤ 90 := by omega
            have q4 : ((c : Int) != 45) = true := by exact bne_iff_ne.2 (by omega)
            have q5 : (c : Int) < 48 := by omega
            have q6 : ¬ (57 : Int) < (c : Int) := by omega
            by_cases hk0 : k = 0
            · have e0 : ((k : Int) == 0) = true := by rw [hk0]; rfl
              have HOK : Hid (okN k c = false) := by rw [Hid, okN, Bool.eq_false_iff]; simp; omega
              clear hcc hk0
              have HF : Hid (tot = false) := by
                have := HG.out
                rw [HOK.out, Bool.false_and] at this
                exact this.symm
              go_wp2
              go_ret
              exact ⟨by rw [HV.out, HF.out]; rfl, rfl⟩
            · have e0 : ((k : Int) == 0) = false := beq_eq_false_iff_ne.2 (by omega)
              have HOK : Hid (okN k c = false) := by rw [Hid, okN, Bool.eq_false_iff]; simp; omega
              clear hcc hk0
              have HF : Hid (tot = false) := by
                have := HG.out
                rw [HOK.out, Bool.false_and] at this
                exact this.symm
              go_wp2
              go_ret
              exact ⟨by rw [HV.out, HF.out]; rfl, rfl⟩
          · have q0 : ¬ (97 : Int) ≤ (c : Int) := by omega
            have q1 : (c : Int) ≤ 122 := by omega
            have q2 : ¬ (65 : Int) ≤ (c : Int) := by omega
            have q3 : (c : Int) ≤ 90 := by omega
            have q4 : ((c : Int) != 45) = false := by rw [hcc]; rfl
            have q5 : (c : Int) < 48 := by omega
            have q6 : ¬ (57 : Int) < (c : Int) := by omega
            by_cases hk0 : k = 0
            · have e0 : ((k : Int) == 0) = true := by rw [hk0]; rfl
              have HOK : Hid (okN k c = false) := by rw [Hid, okN, Bool.eq_false_iff]; simp; omega
              clear hcc hk0
              have HF : Hid (tot = false) := by
                have := HG.out
                rw [HOK.out, Bool.false_and] at this
                exact this.symm
              go_wp2
              go_ret
              exact ⟨by rw [HV.out, HF.out]; rfl, rfl⟩
            · have e0 : ((k : Int) == 0) = false := beq_eq_false_iff_ne.2 (by omega)
              have HOK : Hid (okN k c = true) := by rw [Hid, okN]; simp; omega
              clear hcc hk0
              have HN : Hid (nameGo (k + 1) (s.data.toList.drop (k + 1)) = tot) := by
                have := HG.out
                rw [HOK.out, Bool.true_and] at this
                exact this
              go_wp2
              go_round
              case rel => exact ⟨k + 1, by omega, by go_num, HN.out⟩
              case measure => simp [intOf]; omega
          · have q0 : ¬ (97 : Int) ≤ (c : Int) := by omega
            have q1 : (c : Int) ≤ 122 := by omega
            have q2 : ¬ (65 : Int) ≤ (c : Int) := by omega
            have q3 : (c : Int) ≤ 90 := by omega
            have q4 : ((c : Int) != 45) = true := by exact bne_iff_ne.2 (by omega)
            have q5 : (c : Int) < 48 := by omega
            have q6 : ¬ (57 : Int) < (c : Int) := by omega
            by_cases hk0 : k = 0
            · have e0 : ((k : Int) == 0) = true := by rw [hk0]; rfl
              have HOK : Hid (okN k c = false) := by rw [Hid, okN, Bool.eq_false_iff]; simp; omega
              clear hcc hk0
              have HF : Hid (tot = false) := by
                have := HG.out
                rw [HOK.out, Bool.false_and] at this
                exact this.symm
              go_wp2
              go_ret
              exact ⟨by rw [HV.out, HF.out]; rfl, rfl⟩
            · have e0 : ((k : Int) == 0) = false := beq_eq_false_iff_ne.2 (by omega)
              have HOK : Hid (okN k c = false) := by rw [Hid, okN, Bool.eq_false_iff]; simp; omega
              clear hcc hk0
              have HF : Hid (tot = false) := by
                have := HG.out
                rw [HOK.out, Bool.false_and] at this
                exact this.symm
              go_wp2
              go_ret
              exact ⟨by rw [HV.out, HF.out]; rfl, rfl⟩
          · have q0 : ¬ (97 : Int) ≤ (c : Int) := by omega
            have q1 : (c : Int) ≤ 122 := by omega
            have q2 : ¬ (65 : Int) ≤ (c : Int) := by omega
            have q3 : (c : Int) ≤ 90 := by omega
            have q4 : ((c : Int) != 45) = true := by exact bne_iff_ne.2 (by omega)
            have q5 : ¬ (c : Int) < 48 := by omega
            have q6 : ¬ (57 : Int) < (c : Int) := by omega
            by_cases hk0 : k = 0
            · have e0 : ((k : Int) == 0) = true := by rw [hk0]; rfl
              have HOK : Hid (okN k c = false) := by rw [Hid, okN, Bool.eq_false_iff]; simp; omega
              clear hcc hk0
              have HF : Hid (tot = false) := by
                have := HG.out
                rw [HOK.out, Bool.false_and] at this
                exact this.symm
              go_wp2
              go_ret
              exact ⟨by rw [HV.out, HF.out]; rfl, rfl⟩
            · have e0 : ((k : Int) == 0) = false := beq_eq_false_iff_ne.2 (by omega)
              have HOK : Hid (okN k c = true) := by rw [Hid, okN]; simp; omega
              clear hcc hk0
              have HN : Hid (nameGo (k + 1) (s.data.toList.drop (k + 1)) = tot) := by
                have := HG.out
                rw [HOK.out, Bool.true_and] at this
                exact this
              go_wp2
              go_round
              case rel => exact ⟨k + 1, by omega, by go_num, HN.out⟩
              case measure => simp [intOf]; omega
          · have q0 : ¬ (97 : Int) ≤ (c : Int) := by omega
            have q1 : (c : Int) ≤ 122 := by omega
            have q2 : ¬ (65 : Int) ≤ (c : Int) := by omega
            have q3 : (c : Int) ≤ 90 := by omega
            have q4 : ((c : Int) != 45) = true := by exact bne_iff_ne.2 (by omega)
            have q5 : ¬ (c : Int) < 48 := by omega
            have q6 : (57 : Int) < (c : Int) := by omega
            by_cases hk0 : k = 0
            · have e0 : ((k : Int) == 0) = true := by rw [hk0]; rfl
              have HOK : Hid (okN k c = false) := by rw [Hid, okN, Bool.eq_false_iff]; simp; omega
              clear hcc hk0
              have HF : Hid (tot = false) := by
                have := HG.out
                rw [HOK.out, Bool.false_and] at this
                exact this.symm
              go_wp2
              go_ret
              exact ⟨by rw [HV.out, HF.out]; rfl, rfl⟩
            · have e0 : ((k : Int) == 0) = false := beq_eq_false_iff_ne.2 (by omega)
              have HOK : Hid (okN k c = false) := by rw [Hid, okN, Bool.eq_false_iff]; simp; omega
              clear hcc hk0
              have HF : Hid (tot = false) := by
                have := HG.out
                rw [HOK.out, Bool.false_and] at this
                exact this.symm
              go_wp2
              go_ret
              exact ⟨by rw [HV.out, HF.out]; rfl, rfl⟩
          · have q0 : ¬ (97 : Int) ≤ (c : Int) := by omega
            have q1 : (c : Int) ≤ 122 := by omega
            have q2 : (65 : Int) ≤ (c : Int) := by omega
            have q3 : (c : Int) ≤ 90 := by omega
            have q4 : ((c : Int) != 45) = true := by exact bne_iff_ne.2 (by omega)
            have q5 : ¬ (c : Int) < 48 := by omega
            have q6 : (57 : Int) < (c : Int) := by omega
            have HOK : Hid (okN k c = true) := by rw [Hid, okN]; simp; omega
            clear hcc
            have HN : Hid (nameGo (k + 1) (s.data.toList.drop (k + 1)) = tot) := by
              have := HG.out
              rw [HOK.out, Bool.true_and] at this
              exact this
            go_wp2
            go_round
            case rel => exact ⟨k + 1, by omega, by go_num, HN.out⟩
            case measure => simp [intOf]; omega
          · have q0 : ¬ (97 : Int) ≤ (c : Int) := by omega
            have q1 : (c : Int) ≤ 122 := by omega
            have q2 : (65 : Int) ≤ (c : Int) := by omega
            have q3 : ¬ (c : Int) ≤ 90 := by omega
            have q4 : ((c : Int) != 45) = true := by exact bne_iff_ne.2 (by omega)
            have q5 : ¬ (c : Int) < 48 := by omega
            have q6 : (57 : Int) < (c : Int) := by omega
            by_cases hk0 : k = 0
            · have e0 : ((k : Int) == 0) = true := by rw [hk0]; rfl
              have HOK : Hid (okN k c = false) := by rw [Hid, okN, Bool.eq_false_iff]; simp; omega
              clear hcc hk0
              have HF : Hid (tot = false) := by
                have := HG.out
                rw [HOK.out, Bool.false_and] at this
                exact this.symm
              go_wp2
              go_ret
              exact ⟨by rw [HV.out, HF.out]; rfl, rfl⟩
            · have e0 : ((k : Int) == 0) = false := beq_eq_false_iff_ne.2 (by omega)
              have HOK : Hid (okN k c = false) := by rw [Hid, okN, Bool.eq_false_iff]; simp; omega
              clear hcc hk0
              have HF : Hid (tot = false) := by
                have := HG.out
                rw [HOK.out, Bool.false_and] at this
                exact this.symm
              go_wp2
              go_ret
              exact ⟨by rw [HV.out, HF.out]; rfl, rfl⟩
          · have q0 : (97 : Int) ≤ (c : Int) := by omega
            have q1 : (c : Int) ≤ 122 := by omega
            have q2 : (65 : Int) ≤ (c : Int) := by omega
            have q3 : ¬ (c : Int) ≤ 90 := by omega
            have q4 : ((c : Int) != 45) = true := by exact bne_iff_ne.2 (by omega)
            have q5 : ¬ (c : Int) < 48 := by omega
            have q6 : (57 : Int) < (c : Int) := by omega
            have HOK : Hid (okN k c = true) := by rw [Hid, okN]; simp; omega
            clear hcc
            have HN : Hid (nameGo (k + 1) (s.data.toList.drop (k + 1)) = tot) := by
              have := HG.out
              rw [HOK.out, Bool.true_and] at this
              exact this
            go_wp2
            go_round
            case rel => exact ⟨k + 1, by omega, by go_num, HN.out⟩
            case measure => simp [intOf]; omega
          · have q0 : (97 : Int) ≤ (c : Int) := by omega
            have q1 : ¬ (c : Int) ≤ 122 := by omega
            have q2 : (65 : Int) ≤ (c : Int) := by omega
            have q3 : ¬ (c : Int) ≤ 90 := by omega
            have q4 : ((c : Int) != 45) = true := by exact bne_iff_ne.2 (by omega)
            have q5 : ¬ (c : Int) < 48 := by omega
            have q6 : (57 : Int) < (c : Int) := by omega
            by_cases hk0 : k = 0
            · have e0 : ((k : Int) == 0) = true := by rw [hk0]; rfl
              have HOK : Hid (okN k c = false) := by rw [Hid, okN, Bool.eq_false_iff]; simp; omega
              clear hcc hk0
              have HF : Hid (tot = false) := by
                have := HG.out
                rw [HOK.out, Bool.false_and] at this
                exact this.symm
              go_wp2
              go_ret
              exact ⟨by rw [HV.out, HF.out]; rfl, rfl⟩
            · have e0 : ((k : Int) == 0) = false := beq_eq_false_iff_ne.2 (by omega)
              have HOK : Hid (okN k c = false) := by rw [Hid, okN, Bool.eq_false_iff]; simp; omega
              clear hcc hk0
              have HF : Hid (tot = false) := by
                have := HG.out
                rw [HOK.out, Bool.false_and] at this
                exact this.symm
              go_wp2
              go_ret
              exact ⟨by rw [HV.out, HF.out]; rfl, rfl⟩
        · obtain rfl : k = s.size := by omega
          have HT : Hid (tot = true) := by
            have := HE.out
            rw [List.drop_eq_nil_iff.2 (by simp), nameGo] at this
            exact this.symm
          clear HE
          go_wp2
          go_ret
          exact ⟨by rw [HV.out, HT.out]; rfl, rfl⟩

set_option maxRecDepth 100000 in
set_option maxHeartbeats 8000000 in
theorem isName_any (s : ByteArray) (hs9 : s.size ≤ 1000000000) (w : World) : Calls Tryd.prog 147 #[.string s] w fun e w' => e = .returned (.bool (nameB s)) ∧ Below w.heap.size w w' := by
  obtain ⟨tot, htot⟩ : ∃ t, nameGo 0 s.data.toList = t := ⟨_, rfl⟩
  have HVF : Hid (tot = false → nameB s = false) := fun h => by
    rw [nameB, htot, h, Bool.and_false]
  have HV : Hid (nameB s = (decide (1 ≤ s.size) && decide (s.size ≤ 12) && tot)) := by rw [Hid, nameB, htot]
  have HTT := Lib.hid htot
  clear htot
  have kc := Lib.run_convert_string_bytes (P := Tryd.prog) w 9 218 5 s Tryd.underlying9 Tryd.underlying218 Tryd.underlying5
  go_enter Tryd.func147, Tryd.ntmps147
  go_wp2
  clear kc
  go_loop [3, 4, 5, 9] (fun _ _ _ i => ∃ k : Nat, k ≤ s.size ∧ i = .int .i64 k ∧ nameGo k (s.data.toList.drop k) = tot) (fun _ _ _ i => s.size - (intOf i).toNat)
  case atStart => exact ⟨0, Nat.zero_le _, rfl, by rw [List.drop_zero]; exact HTT.out⟩
  case round =>
    obtain ⟨k, hk, rfl, he⟩ := hrel
    have HE := Lib.hid he
    clear he
    by_cases hlt : k < s.size
    · have hkl : k < s.data.toList.length := by simpa using hlt
      have HD := Lib.hid (dropB hkl)
      have hcb : (s.data.toList.getD k 0).toNat ≤ 255 := by have := UInt8.toNat_lt (s.data.toList.getD k 0); omega
      have d0 := Lib.bytesWorld_cell w 5 s k hlt
      have HG : Hid ((okN k (s.data.toList.getD k 0).toNat && nameGo (k + 1) (s.data.toList.drop (k + 1))) = tot) := by
        have := HE.out
        rw [HD.out, nameGo] at this
        exact this
      generalize (s.data.toList.getD k 0).toNat = c at *
      have hlti : (k : Int) < (s.size : Int) := by omega
      clear HE hkl
      have hcs : (c < 45) ∨ (c = 45) ∨ (45 < c ∧ c < 48) ∨ (48 ≤ c ∧ c ≤ 57) ∨ (57 < c ∧ c < 65) ∨ (65 ≤ c ∧ c ≤ 90) ∨ (90 < c ∧ c < 97) ∨ (97 ≤ c ∧ c ≤ 122) ∨ (122 < c) := by omega
      rcases hcs with hcc | hcc | hcc | hcc | hcc | hcc | hcc | hcc | hcc
      · have q0 : ¬ (97 : Int) ≤ (c : Int) := by omega
        have q1 : (c : Int) ≤ 122 := by omega
        have q2 : ¬ (65 : Int) ≤ (c : Int) := by omega
        have q3 : (c : Int) ≤ 90 := by omega
        have q4 : ((c : Int) != 45) = true := by exact bne_iff_ne.2 (by omega)
        have q5 : (c : Int) < 48 := by omega
        have q6 : ¬ (57 : Int) < (c : Int) := by omega
        by_cases hk0 : k = 0
        · have e0 : ((k : Int) == 0) = true := by rw [hk0]; rfl
          have HOK : Hid (okN k c = false) := by rw [Hid, okN, Bool.eq_false_iff]; simp; omega
          clear hcc hk0
          have HF : Hid (tot = false) := by
            have := HG.out
            rw [HOK.out, Bool.false_and] at this
            exact this.symm
          go_wp2
          go_ret
          exact ⟨by rw [HVF.out HF.out]; rfl, Lib.bytesWorld_below _ _ _⟩
        · have e0 : ((k : Int) == 0) = false := beq_eq_false_iff_ne.2 (by omega)
          have HOK : Hid (okN k c = false) := by rw [Hid, okN, Bool.eq_false_iff]; simp; omega
          clear hcc hk0
          have HF : Hid (tot = false) := by
            have := HG.out
            rw [HOK.out, Bool.false_and] at this
            exact this.symm
          go_wp2
          go_ret
          exact ⟨by rw [HVF.out HF.out]; rfl, Lib.bytesWorld_below _ _ _⟩
      · have q0 : ¬ (97 : Int) ≤ (c : Int) := by omega
        have q1 : (c : Int) ≤ 122 := by omega
        have q2 : ¬ (65 : Int) ≤ (c : Int) := by omega
        have q3 : (c : Int) ≤ 90 := by omega
        have q4 : ((c : Int) != 45) = false := by rw [hcc]; rfl
        have q5 : (c : Int) < 48 := by omega
        have q6 : ¬ (57 : Int) < (c : Int) := by omega
        by_cases hk0 : k = 0
        · have e0 : ((k : Int) == 0) = true := by rw [hk0]; rfl
          have HOK : Hid (okN k c = false) := by rw [Hid, okN, Bool.eq_false_iff]; simp; omega
          clear hcc hk0
          have HF : Hid (tot = false) := by
            have := HG.out
            rw [HOK.out, Bool.false_and] at this
            exact this.symm
          go_wp2
          go_ret
          exact ⟨by rw [HVF.out HF.out]; rfl, Lib.bytesWorld_below _ _ _⟩
        · have e0 : ((k : Int) == 0) = false := beq_eq_false_iff_ne.2 (by omega)
          have HOK : Hid (okN k c = true) := by rw [Hid, okN]; simp; omega
          clear hcc hk0
          have HN : Hid (nameGo (k + 1) (s.data.toList.drop (k + 1)) = tot) := by
            have := HG.out
            rw [HOK.out, Bool.true_and] at this
            exact this
          go_wp2
          go_round
          case rel => exact ⟨k + 1, by omega, by go_num, HN.out⟩
          case measure => simp [intOf]; omega
      · have q0 : ¬ (97 : Int) ≤ (c : Int) := by omega
        have q1 : (c : Int) ≤ 122 := by omega
        have q2 : ¬ (65 : Int) ≤ (c : Int) := by omega
        have q3 : (c : Int) ≤ 90 := by omega
        have q4 : ((c : Int) != 45) = true := by exact bne_iff_ne.2 (by omega)
        have q5 : (c : Int) < 48 := by omega
        have q6 : ¬ (57 : Int) < (c : Int) := by omega
        by_cases hk0 : k = 0
        · have e0 : ((k : Int) == 0) = true := by rw [hk0]; rfl
          have HOK : Hid (okN k c = false) := by rw [Hid, okN, Bool.eq_false_iff]; simp; omega
          clear hcc hk0
          have HF : Hid (tot = false) := by
            have := HG.out
            rw [HOK.out, Bool.false_and] at this
            exact this.symm
          go_wp2
          go_ret
          exact ⟨by rw [HVF.out HF.out]; rfl, Lib.bytesWorld_below _ _ _⟩
        · have e0 : ((k : Int) == 0) = false := beq_eq_false_iff_ne.2 (by omega)
          have HOK : Hid (okN k c = false) := by rw [Hid, okN, Bool.eq_false_iff]; simp; omega
          clear hcc hk0
          have HF : Hid (tot = false) := by
            have := HG.out
            rw [HOK.out, Bool.false_and] at this
            exact this.symm
          go_wp2
          go_ret
          exact ⟨by rw [HVF.out HF.out]; rfl, Lib.bytesWorld_below _ _ _⟩
      · have q0 : ¬ (97 : Int) ≤ (c : Int) := by omega
        have q1 : (c : Int) ≤ 122 := by omega
        have q2 : ¬ (65 : Int) ≤ (c : Int) := by omega
        have q3 : (c : Int) ≤ 90 := by omega
        have q4 : ((c : Int) != 45) = true := by exact bne_iff_ne.2 (by omega)
        have q5 : ¬ (c : Int) < 48 := by omega
        have q6 : ¬ (57 : Int) < (c : Int) := by omega
        by_cases hk0 : k = 0
        · have e0 : ((k : Int) == 0) = true := by rw [hk0]; rfl
          have HOK : Hid (okN k c = false) := by rw [Hid, okN, Bool.eq_false_iff]; simp; omega
          clear hcc hk0
          have HF : Hid (tot = false) := by
            have := HG.out
            rw [HOK.out, Bool.false_and] at this
            exact this.symm
          go_wp2
          go_ret
          exact ⟨by rw [HVF.out HF.out]; rfl, Lib.bytesWorld_below _ _ _⟩
        · have e0 : ((k : Int) == 0) = false := beq_eq_false_iff_ne.2 (by omega)
          have HOK : Hid (okN k c = true) := by rw [Hid, okN]; simp; omega
          clear hcc hk0
          have HN : Hid (nameGo (k + 1) (s.data.toList.drop (k + 1)) = tot) := by
            have := HG.out
            rw [HOK.out, Bool.true_and] at this
            exact this
          go_wp2
          go_round
          case rel => exact ⟨k + 1, by omega, by go_num, HN.out⟩
          case measure => simp [intOf]; omega
      · have q0 : ¬ (97 : Int) ≤ (c : Int) := by omega
        have q1 : (c : Int) ≤ 122 := by omega
        have q2 : ¬ (65 : Int) ≤ (c : Int) := by omega
        have q3 : (c : Int) ≤ 90 := by omega
        have q4 : ((c : Int) != 45) = true := by exact bne_iff_ne.2 (by omega)
        have q5 : ¬ (c : Int) < 48 := by omega
        have q6 : (57 : Int) < (c : Int) := by omega
        by_cases hk0 : k = 0
        · have e0 : ((k : Int) == 0) = true := by rw [hk0]; rfl
          have HOK : Hid (okN k c = false) := by rw [Hid, okN, Bool.eq_false_iff]; simp; omega
          clear hcc hk0
          have HF : Hid (tot = false) := by
            have := HG.out
            rw [HOK.out, Bool.false_and] at this
            exact this.symm
          go_wp2
          go_ret
          exact ⟨by rw [HVF.out HF.out]; rfl, Lib.bytesWorld_below _ _ _⟩
        · have e0 : ((k : Int) == 0) = false := beq_eq_false_iff_ne.2 (by omega)
          have HOK : Hid (okN k c = false) := by rw [Hid, okN, Bool.eq_false_iff]; simp; omega
          clear hcc hk0
          have HF : Hid (tot = false) := by
            have := HG.out
            rw [HOK.out, Bool.false_and] at this
            exact this.symm
          go_wp2
          go_ret
          exact ⟨by rw [HVF.out HF.out]; rfl, Lib.bytesWorld_below _ _ _⟩
      · have q0 : ¬ (97 : Int) ≤ (c : Int) := by omega
        have q1 : (c : Int) ≤ 122 := by omega
        have q2 : (65 : Int) ≤ (c : Int) := by omega
        have q3 : (c : Int) ≤ 90 := by omega
        have q4 : ((c : Int) != 45) = true := by exact bne_iff_ne.2 (by omega)
        have q5 : ¬ (c : Int) < 48 := by omega
        have q6 : (57 : Int) < (c : Int) := by omega
        have HOK : Hid (okN k c = true) := by rw [Hid, okN]; simp; omega
        clear hcc
        have HN : Hid (nameGo (k + 1) (s.data.toList.drop (k + 1)) = tot) := by
          have := HG.out
          rw [HOK.out, Bool.true_and] at this
          exact this
        go_wp2
        go_round
        case rel => exact ⟨k + 1, by omega, by go_num, HN.out⟩
        case measure => simp [intOf]; omega
      · have q0 : ¬ (97 : Int) ≤ (c : Int) := by omega
        have q1 : (c : Int) ≤ 122 := by omega
        have q2 : (65 : Int) ≤ (c : Int) := by omega
        have q3 : ¬ (c : Int) ≤ 90 := by omega
        have q4 : ((c : Int) != 45) = true := by exact bne_iff_ne.2 (by omega)
        have q5 : ¬ (c : Int) < 48 := by omega
        have q6 : (57 : Int) < (c : Int) := by omega
        by_cases hk0 : k = 0
        · have e0 : ((k : Int) == 0) = true := by rw [hk0]; rfl
          have HOK : Hid (okN k c = false) := by rw [Hid, okN, Bool.eq_false_iff]; simp; omega
          clear hcc hk0
          have HF : Hid (tot = false) := by
            have := HG.out
            rw [HOK.out, Bool.false_and] at this
            exact this.symm
          go_wp2
          go_ret
          exact ⟨by rw [HVF.out HF.out]; rfl, Lib.bytesWorld_below _ _ _⟩
        · have e0 : ((k : Int) == 0) = false := beq_eq_false_iff_ne.2 (by omega)
          have HOK : Hid (okN k c = false) := by rw [Hid, okN, Bool.eq_false_iff]; simp; omega
          clear hcc hk0
          have HF : Hid (tot = false) := by
            have := HG.out
            rw [HOK.out, Bool.false_and] at this
            exact this.symm
          go_wp2
          go_ret
          exact ⟨by rw [HVF.out HF.out]; rfl, Lib.bytesWorld_below _ _ _⟩
      · have q0 : (97 : Int) ≤ (c : Int) := by omega
        have q1 : (c : Int) ≤ 122 := by omega
        have q2 : (65 : Int) ≤ (c : Int) := by omega
        have q3 : ¬ (c : Int) ≤ 90 := by omega
        have q4 : ((c : Int) != 45) = true := by exact bne_iff_ne.2 (by omega)
        have q5 : ¬ (c : Int) < 48 := by omega
        have q6 : (57 : Int) < (c : Int) := by omega
        have HOK : Hid (okN k c = true) := by rw [Hid, okN]; simp; omega
        clear hcc
        have HN : Hid (nameGo (k + 1) (s.data.toList.drop (k + 1)) = tot) := by
          have := HG.out
          rw [HOK.out, Bool.true_and] at this
          exact this
        go_wp2
        go_round
        case rel => exact ⟨k + 1, by omega, by go_num, HN.out⟩
        case measure => simp [intOf]; omega
      · have q0 : (97 : Int) ≤ (c : Int) := by omega
        have q1 : ¬ (c : Int) ≤ 122 := by omega
        have q2 : (65 : Int) ≤ (c : Int) := by omega
        have q3 : ¬ (c : Int) ≤ 90 := by omega
        have q4 : ((c : Int) != 45) = true := by exact bne_iff_ne.2 (by omega)
        have q5 : ¬ (c : Int) < 48 := by omega
        have q6 : (57 : Int) < (c : Int) := by omega
        by_cases hk0 : k = 0
        · have e0 : ((k : Int) == 0) = true := by rw [hk0]; rfl
          have HOK : Hid (okN k c = false) := by rw [Hid, okN, Bool.eq_false_iff]; simp; omega
          clear hcc hk0
          have HF : Hid (tot = false) := by
            have := HG.out
            rw [HOK.out, Bool.false_and] at this
            exact this.symm
          go_wp2
          go_ret
          exact ⟨by rw [HVF.out HF.out]; rfl, Lib.bytesWorld_below _ _ _⟩
        · have e0 : ((k : Int) == 0) = false := beq_eq_false_iff_ne.2 (by omega)
          have HOK : Hid (okN k c = false) := by rw [Hid, okN, Bool.eq_false_iff]; simp; omega
          clear hcc hk0
          have HF : Hid (tot = false) := by
            have := HG.out
            rw [HOK.out, Bool.false_and] at this
            exact this.symm
          go_wp2
          go_ret
          exact ⟨by rw [HVF.out HF.out]; rfl, Lib.bytesWorld_below _ _ _⟩
    · obtain rfl : k = s.size := by omega
      have HT : Hid (tot = true) := by
        have := HE.out
        rw [List.drop_eq_nil_iff.2 (by simp), nameGo] at this
        exact this.symm
      clear HE
      by_cases h0 : s.size = 0
      · obtain rfl : s = ⟨#[]⟩ := by
          cases s with
          | mk d =>
            have : d.size = 0 := h0
            rw [Array.eq_empty_of_size_eq_zero this]
        go_wp2
        go_ret
        exact ⟨by rw [HV.out]; rfl, Lib.bytesWorld_below _ _ _⟩
      · have hne0 : ¬ s.toList = [] := fun h => h0 (by
          rw [ByteArray.toList_eq] at h
          have := congrArg List.length h
          simpa using this)
        have hne1 : s.toList.isEmpty = false := by
          rw [Bool.eq_false_iff]
          exact fun h => hne0 (List.isEmpty_iff.1 h)
        by_cases h12 : s.size ≤ 12
        · have h12i : (s.size : Int) ≤ 12 := by omega
          have HV2 : Hid (nameB s = true) := by rw [Hid, HV.out, HT.out, decide_eq_true (show 1 ≤ s.size by omega), decide_eq_true h12]; rfl
          go_wp2
          go_ret
          exact ⟨by rw [HV2.out]; rfl, Lib.bytesWorld_below _ _ _⟩
        · have h12i : ¬ (s.size : Int) ≤ 12 := by omega
          have HV2 : Hid (nameB s = false) := by rw [Hid, HV.out, decide_eq_false h12, Bool.and_false, Bool.false_and]
          go_wp2
          go_ret
          exact ⟨by rw [HV2.out]; rfl, Lib.bytesWorld_below _ _ _⟩
end Go.Proofs.YtmcjnfghlpnghaaDoor

namespace Go.Proofs.YtmcjnfghlpnghaaDoor
open Go.RowKit

/-- a finding: by whom, when, which beam, by how much -/
abbrev Fd := ByteArray × Int × Int × Int
def fdVals (x : Fd) : List Value := [.string x.1, .int .i64 x.2.1, .int .i64 x.2.2.1, .int .i64 x.2.2.2]
def fdCells (l : List Fd) : List Value := l.flatMap fdVals
def fdF (x : Fd) : Fnd := (x.2.2.1, x.2.2.2)
theorem fdCells_cons (x : Fd) (l : List Fd) : fdCells (x :: l) = fdVals x ++ fdCells l := by simp [fdCells]
theorem fdCells_len : ∀ l : List Fd, (fdCells l).length = l.length * 4
  | [] => rfl
  | x :: l => by
    rw [fdCells_cons, List.length_append, fdCells_len l]
    simp [fdVals]
    omega
theorem fdCells_at : ∀ (l : List Fd) (k : Nat) (x : Fd), l[k]? = some x → (fdCells l)[k * 4]? = some (.string x.1) ∧ (fdCells l)[k * 4 + 1]? = some (.int .i64 x.2.1) ∧ (fdCells l)[k * 4 + 2]? = some (.int .i64 x.2.2.1) ∧ (fdCells l)[k * 4 + 3]? = some (.int .i64 x.2.2.2)
  | [], k, x, h => by simp at h
  | y :: l, 0, x, h => by
    obtain rfl : y = x := by simpa using h
    simp [fdCells_cons, fdVals]
  | y :: l, k + 1, x, h => by
    have ih := fdCells_at l k x (by simpa using h)
    rw [fdCells_cons, show (k + 1) * 4 = k * 4 + 4 by omega, show k * 4 + 4 + 1 = k * 4 + 1 + 4 by omega, show k * 4 + 4 + 2 = k * 4 + 2 + 4 by omega, show k * 4 + 4 + 3 = k * 4 + 3 + 4 by omega]
    rw [List.getElem?_append_right (by simp [fdVals]), List.getElem?_append_right (by simp [fdVals]), List.getElem?_append_right (by simp [fdVals]), List.getElem?_append_right (by simp [fdVals])]
    simpa [fdVals] using ih
theorem fdCells_one (l : List Fd) : ∀ u ∈ fdCells l, u.oneCell' = true := by
  intro u hu
  simp only [fdCells, List.mem_flatMap] at hu
  obtain ⟨x, _, hx⟩ := hu
  simp [fdVals] at hx
  rcases hx with rfl | rfl | rfl | rfl <;> rfl
theorem Rd.at4 {w : World} {B : Nat} {A : Option Addr} {xs : List Value} (h : Rd w B A xs) {k : Nat} {u0 u1 u2 u3 : Value} (h0 : xs[k * 4]? = some u0) (h1 : xs[k * 4 + 1]? = some u1) (h2 : xs[k * 4 + 2]? = some u2) (h3 : xs[k * 4 + 3]? = some u3) :
    ∃ b off, A = some ⟨b, off, none⟩ ∧ b < B ∧ w.cell? ⟨b, off + k * 4, none⟩ = some u0 ∧ w.cell? ⟨b, off + k * 4 + 1, none⟩ = some u1 ∧ w.cell? ⟨b, off + k * 4 + 2, none⟩ = some u2 ∧ w.cell? ⟨b, off + k * 4 + 3, none⟩ = some u3 := by
  obtain ⟨b, off, rfl, hbB, d0⟩ := h.at_ h0
  obtain ⟨b1, off1, hA1, _, d1⟩ := h.at_ h1
  obtain ⟨b2, off2, hA2, _, d2⟩ := h.at_ h2
  obtain ⟨b3, off3, hA3, _, d3⟩ := h.at_ h3
  simp only [Option.some.injEq, Addr.mk.injEq, and_true] at hA1 hA2 hA3
  obtain ⟨rfl, rfl⟩ := hA1
  obtain ⟨rfl, rfl⟩ := hA2
  obtain ⟨rfl, rfl⟩ := hA3
  exact ⟨b, off, rfl, hbB, d0, by rw [Nat.add_assoc]; exact d1, by rw [Nat.add_assoc]; exact d2, by rw [Nat.add_assoc]; exact d3⟩

def rightB (d b o : Int) : Bool := withinB d 0 100000 && withinB b 0 100000 && withinB o (-10000) 10000
/-- the error of a finding -/
def fdE (x : Fd) : Int := if nameB x.1 = true then (if rightB x.2.1 x.2.2.1 x.2.2.2 = true then 0 else 2) else 4
def fdGo : List Fd → Int
  | [] => 0
  | x :: l => if fdE x = 0 then fdGo l else fdE x
/-- the error of findings -/
def fdM (l : List Fd) : Int := if l.length ≤ 100 then fdGo l else 8

set_option maxRecDepth 100000 in
set_option maxHeartbeats 8000000 in
theorem findingErr_any (s : ByteArray) (d b o : Int) (hs : s.size ≤ 1000000000) (w : World) : Calls Tryd.prog 111 #[.agg #[.string s, .int .i64 d, .int .i64 b, .int .i64 o]] w (ErrVal w (fdE (s, d, b, o))) := by
  have hb0 : Below w.heap.size w (w.alloc (.cells #[.string s, .int .i64 d, .int .i64 b, .int .i64 o] 74)) := (Below.refl _ _).alloc (Nat.le_refl _) _
  have k0 : (w.alloc (.cells #[.string s, .int .i64 d, .int .i64 b, .int .i64 o] 74)).heap[w.heap.size]? = some (.cells #[.string s, .int .i64 d, .int .i64 b, .int .i64 o] 74 (0, 0)) := by rw [heapq_alloc, if_pos rfl]
  have c0 := (cell_of_row _ _ 0 _ _ _ k0).trans (by rfl : _ = some (.string s))
  have c1 := (cell_of_row _ _ 1 _ _ _ k0).trans (by rfl : _ = some (.int .i64 d))
  have c2 := (cell_of_row _ _ 2 _ _ _ k0).trans (by rfl : _ = some (.int .i64 b))
  have c3 := (cell_of_row _ _ 3 _ _ _ k0).trans (by rfl : _ = some (.int .i64 o))
  have hs0 := hb0.size
  have HB := Lib.hid hb0
  have N := fun W => isName_any s hs W
  obtain ⟨r, hr⟩ : ∃ r, rightB d b o = r := ⟨_, rfl⟩
  obtain ⟨n, hn⟩ : ∃ n, nameB s = n := ⟨_, rfl⟩
  have HV : Hid (fdE (s, d, b, o) = firstE [unlessE n 4, unlessE r 2]) := by
    rw [Hid, fdE, hn, hr]
    cases n <;> cases r <;> rfl
  rw [hn] at N
  have HR := Lib.hid hr
  clear hb0 k0 hs hn hr
  cases q1 : withinB d 0 100000 <;> cases q2 : withinB b 0 100000 <;> cases q3 : withinB o (-10000) 10000
  all_goals
    have HR2 : Hid (_ = r) := HR.out
    unfold rightB at HR2
    rw [q1, q2, q3] at HR2
    have V1 := fun W => within_val d 0 100000 _ q1 W
    have V2 := fun W => within_val b 0 100000 _ q2 W
    have V3 := fun W => within_val o (-10000) 10000 _ q3 W
    clear q1 q2 q3 HR
    go_enter Tryd.func111, Tryd.ntmps111
    go_upto_region 1 with (fail)
    generalize (w.alloc (.cells #[.string s, .int .i64 d, .int .i64 b, .int .i64 o] 74)) = w0 at *
    go_upto_region 2 with (first | (go_at_call_of 99 (Value.int .i64 d); refine (V1 _).mono ?_; rintro e w' ⟨rfl, rfl⟩) | (go_at_call_of 99 (Value.int .i64 b); refine (V2 _).mono ?_; rintro e w' ⟨rfl, rfl⟩) | (go_at_call_of 99 (Value.int .i64 o); refine (V3 _).mono ?_; rintro e w' ⟨rfl, rfl⟩))
    go_wp2_with (first | (go_at_call 147; refine (N _).mono ?_; rintro e w1 ⟨rfl, hb1⟩) | (go_at_call 92; refine (unless_any _ _ _).mono ?_; rintro e w' ⟨rfl, rfl⟩) | (go_at_call 91; refine (first2 _ _ _).mono ?_; rintro e w' ⟨rfl, rfl⟩))
    go_ret
    exact ⟨by rw [HV.out, ← HR2.out]; rfl, (HB.out.trans (hb1.mono hs0)).alloc (Nat.le_trans hs0 hb1.size) _⟩

set_option maxRecDepth 100000 in
set_option maxHeartbeats 8000000 in
theorem refFindingErr_any (s : ByteArray) (d b o : Int) (hs : s.size ≤ 1000000000) (w : World) : Calls Tryd.prog 113 #[.agg #[.string s, .int .i64 d, .int .i64 b, .int .i64 o]] w (ErrVal w (fdE (s, d, b, o))) := by
  have hb0 : Below w.heap.size w (w.alloc (.cells #[.string s, .int .i64 d, .int .i64 b, .int .i64 o] 74)) := (Below.refl _ _).alloc (Nat.le_refl _) _
  have k0 : (w.alloc (.cells #[.string s, .int .i64 d, .int .i64 b, .int .i64 o] 74)).heap[w.heap.size]? = some (.cells #[.string s, .int .i64 d, .int .i64 b, .int .i64 o] 74 (0, 0)) := by rw [heapq_alloc, if_pos rfl]
  have c0 := (cell_of_row _ _ 0 _ _ _ k0).trans (by rfl : _ = some (.string s))
  have c1 := (cell_of_row _ _ 1 _ _ _ k0).trans (by rfl : _ = some (.int .i64 d))
  have c2 := (cell_of_row _ _ 2 _ _ _ k0).trans (by rfl : _ = some (.int .i64 b))
  have c3 := (cell_of_row _ _ 3 _ _ _ k0).trans (by rfl : _ = some (.int .i64 o))
  have HB := Lib.hid hb0
  have N := fun W => refIsName_any s hs W
  clear hb0 k0 hs
  cases hn : nameB s with
  | false =>
    have HV : Hid (fdE (s, d, b, o) = 4) := by rw [Hid, fdE, hn, if_neg (by decide)]
    rw [hn] at N
    clear hn
    go_enter Tryd.func113, Tryd.ntmps113
    go_upto_region 1 with (fail)
    generalize (w.alloc (.cells #[.string s, .int .i64 d, .int .i64 b, .int .i64 o] 74)) = w0 at *
    go_wp2_with (go_at_call 150; refine (N _).mono ?_; rintro e w1 ⟨rfl, rfl⟩)
    go_ret
    exact ⟨by rw [HV.out]; rfl, HB.out⟩
  | true =>
    rw [hn] at N
    have HV : Hid (fdE (s, d, b, o) = if rightB d b o = true then 0 else 2) := by rw [Hid, fdE, hn, if_pos rfl]
    clear hn
    cases q1 : withinB d 0 100000 <;> cases q2 : withinB b 0 100000 <;> cases q3 : withinB o (-10000) 10000
    all_goals
      have HV2 : Hid (_ = _) := HV.out
      unfold rightB at HV2
      rw [q1, q2, q3] at HV2
      have V1 := fun W => Within_val d 0 100000 _ q1 W
      have V2 := fun W => Within_val b 0 100000 _ q2 W
      have V3 := fun W => Within_val o (-10000) 10000 _ q3 W
      clear q1 q2 q3 HV
      go_enter Tryd.func113, Tryd.ntmps113
      go_upto_region 1 with (fail)
      generalize (w.alloc (.cells #[.string s, .int .i64 d, .int .i64 b, .int .i64 o] 74)) = w0 at *
      go_wp2_with (first | (go_at_call 150; refine (N _).mono ?_; rintro e w1 ⟨rfl, rfl⟩) | (go_at_call_of 49 (Value.int .i64 d); refine (V1 _).mono ?_; rintro e w' ⟨rfl, rfl⟩) | (go_at_call_of 49 (Value.int .i64 b); refine (V2 _).mono ?_; rintro e w' ⟨rfl, rfl⟩) | (go_at_call_of 49 (Value.int .i64 o); refine (V3 _).mono ?_; rintro e w' ⟨rfl, rfl⟩))
      go_ret
      exact ⟨by rw [HV2.out]; rfl, HB.out⟩

theorem drop_consF {α : Type} {l : List α} {k : Nat} {a : α} (h : l[k]? = some a) : l.drop k = a :: l.drop (k + 1) := by
  obtain ⟨hk, rfl⟩ := List.getElem?_eq_some_iff.1 h
  exact List.drop_eq_getElem_cons hk
def FdRel (w0 : World) (l : List Fd) (n : Nat) (V : Int) (u : Value) (wr : World) : Prop := ∃ k : Nat, k ≤ n ∧ u = .int .i64 k ∧ fdGo (l.drop k) = V ∧ Below w0.heap.size w0 wr

set_option maxRecDepth 100000 in
set_option maxHeartbeats 8000000 in
theorem FindingsErr_any (w : World) (B : Nat) (A : Option Addr) (n c : Nat) (l : List Fd) (hl : l.length = n) (h : Rd w B A (fdCells l)) (hB : B ≤ w.heap.size) (hn : n ≤ 1000000000) (hz : n ≤ 100 → ∀ x ∈ l, x.1.size ≤ 1000000000) :
    Calls Tryd.prog 48 #[.slice A n c] w (ErrVal w (fdM l)) := by
  by_cases h100 : n ≤ 100
  · have HV : Hid (fdM l = fdGo l) := by rw [Hid, fdM, if_pos (by rw [hl]; exact h100)]
    have h100i : ¬ (100 : Int) < (n : Int) := by omega
    have hzz := hz h100
    obtain ⟨V, hV⟩ : ∃ V, fdGo l = V := ⟨_, rfl⟩
    rw [hV] at HV
    have HVV := Lib.hid hV
    have HL := Lib.hid hl
    have HZ := Lib.hid hzz
    clear hV hl hz hzz
    go_enter Tryd.func48, Tryd.ntmps48
    go_wp2
    go_loopw [3, 4] (fun u _ wr => FdRel w l n V u wr) (fun u _ _ => n - (intOf u).toNat)
    case atStart => exact ⟨0, Nat.zero_le _, rfl, by rw [List.drop_zero]; exact HVV.out, Below.refl _ _⟩
    case round =>
      obtain ⟨k, hk, rfl, hgo, hb⟩ := hrel
      have HGO := Lib.hid hgo
      have HBK := Lib.hid hb
      have hsk := hb.size
      have hr := h.below (hb.mono hB)
      clear hgo hb
      by_cases hlt : k < n
      · have hkl : k < l.length := by rw [HL.out]; exact hlt
        obtain ⟨ev, hev⟩ : ∃ ev, l[k]? = some ev := ⟨_, List.getElem?_eq_getElem hkl⟩
        have hes := HZ.out ev (List.mem_of_getElem? hev)
        obtain ⟨z0, z1, z2, z3⟩ := fdCells_at l k ev hev
        obtain ⟨bb, off, rfl, hbB, e0, e1, e2, e3⟩ := hr.at4 z0 z1 z2 z3
        have HS := Lib.hid (drop_consF hev)
        obtain ⟨s, d, b, o⟩ := ev
        simp only at e0 e1 e2 e3 hes
        have FE := refFindingErr_any s d b o hes wr
        unfold ErrVal at FE
        have HG : Hid ((if fdE (s, d, b, o) = 0 then fdGo (l.drop (k + 1)) else fdE (s, d, b, o)) = V) := by
          have := HGO.out
          rw [HS.out, fdGo] at this
          exact this
        generalize fdE (s, d, b, o) = er at *
        clear z0 z1 z2 z3 hev hkl hr HGO
        by_cases her : er = 0
        · subst her
          have HN : Hid (fdGo (l.drop (k + 1)) = V) := by
            have := HG.out
            rw [if_pos rfl] at this
            exact this
          go_wp2_with (go_at_call 113; refine FE.mono ?_; rintro e w1 ⟨rfl, hb1⟩)
          go_roundw
          case rel => exact ⟨k + 1, by omega, by go_num, HN.out, HBK.out.trans (hb1.mono hsk)⟩
          case measure => simp [intOf]; omega
        · have e9 : (er != 0) = true := bne_iff_ne.2 her
          have HN : Hid (V = er) := by
            have := HG.out
            rw [if_neg her] at this
            exact this.symm
          go_wp2_with (go_at_call 113; refine FE.mono ?_; rintro e w1 ⟨rfl, hb1⟩)
          go_ret
          exact ⟨by rw [HV.out, HN.out]; rfl, HBK.out.trans (hb1.mono hsk)⟩
      · have HN : Hid (V = 0) := by
          have := HGO.out
          rw [List.drop_eq_nil_iff.2 (by rw [HL.out]; omega), fdGo] at this
          exact this.symm
        go_wp2
        go_ret
        exact ⟨by rw [HV.out, HN.out]; rfl, HBK.out⟩
  · have HV : Hid (fdM l = 8) := by rw [Hid, fdM, if_neg (by rw [hl]; exact h100)]
    have h100i : (100 : Int) < (n : Int) := by omega
    clear h hl hz
    go_enter Tryd.func48, Tryd.ntmps48
    go_wp2
    go_ret
    exact ⟨by rw [HV.out]; rfl, Below.refl _ _⟩

theorem info74 : (Tryd.prog.info? 74).map (fun i => (i.zero, i.size, i.bytes)) = some (some (.agg #[.string ⟨#[]⟩, .int .i64 0, .int .i64 0, .int .i64 0]), 4, 40) := by kernel_rfl
def FdsPost (w : World) (l : List Fd) (n : Nat) (e : Ending) (w' : World) : Prop := ∃ A c, e = .returned (.slice A n c) ∧ Rd w' w'.heap.size A (fdCells l) ∧ Below w.heap.size w w'
set_option maxHeartbeats 4000000 in
theorem CopyFindings_any (w : World) (B : Nat) (A : Option Addr) (n c : Nat) (l : List Fd) (hl : l.length = n) (hn : n ≤ 1000000) (h : Rd w B A (fdCells l)) (hB : B ≤ w.heap.size) :
    Calls Tryd.prog 47 #[.slice A n c] w (FdsPost w l n) := by
  obtain ⟨i1, hi1, hy0, hy1, hy2⟩ := info_parts info74
  have HL := Lib.hid hl
  have h' := h.below (((Below.refl _ _).alloc (Nat.le_refl _) (.cells #[] 74) : Below w.heap.size w (w.alloc (.cells #[] 74))).mono hB)
  have hb0 : Below w.heap.size w (w.alloc (.cells #[] 74)) := (Below.refl _ _).alloc (Nat.le_refl _) _
  clear hl
  go_enter Tryd.func47, Tryd.ntmps47
  go_wp2_with (at_builtin; refine stp ?_)
  unfold Stp
  refine wpList_append_copy _ rfl _ _ 72 rfl w.heap.size 74 i1 _ 4 40 Tryd.underlying72 hi1 hy0 hy1 hy2 rfl (by omega) w.heap.size rfl (by rw [heapq_alloc, if_pos rfl]) (Nat.le_refl _) B A n c (fdCells l) rfl (by rw [fdCells_len, HL.out]) h' (fdCells_one l) (by simp only [maxLen]; omega) (by omega) (by simp) ?_
  intro g cap w1 hown hgrow _
  have hb1 : Below w.heap.size w w1 := hb0.grown hgrow (by simp) (fun k hk => by rw [← Option.some.inj hk]; exact Nat.le_refl _)
  have HR := Lib.hid (Rd_of_own hown)
  have HB := Lib.hid hb1
  clear hown hgrow hb0 hb1 h h'
  go_wp2
  go_ret
  exact ⟨_, _, rfl, HR.out, HB.out⟩
end Go.Proofs.YtmcjnfghlpnghaaDoor

namespace Go.Proofs.YtmcjnfghlpnghaaDoor
open Go.RowKit Go.Maps

def putF (m : DataW Unit) (f : Fnd) : DataW Unit := m.put (.int .i64 f.1) (.lit (.int .i64 f.2))
def mapD (l : List Fnd) : DataW Unit := l.foldl putF (.map [])
theorem key_ne {a b : Int} (h : a ≠ b) : Lit.int .i64 a ≠ Lit.int .i64 b := fun e => h (by cases e; rfl)
theorem mapGo_at (b : Int) : ∀ (l : List Fnd) (m : DataW Unit), IsMap m →
    has (l.foldl putF m) (.int .i64 b) = ((lastOff l b).isSome || has m (.int .i64 b)) ∧ ∀ z, (l.foldl putF m).atKey (.int .i64 b) z = match lastOff l b with
      | some o => .lit (.int .i64 o)
      | none => m.atKey (.int .i64 b) z
  | [], m, _ => ⟨rfl, fun _ => rfl⟩
  | f :: l, m, hm => by
    obtain ⟨h1, h2⟩ := mapGo_at b l (putF m f) (hm.put _ _)
    rw [List.foldl_cons]
    refine ⟨?_, fun z => ?_⟩
    · rw [h1, lastOff]
      cases hl : lastOff l b with
      | some o => rfl
      | none =>
        by_cases hb : f.1 = b
        · rw [if_pos hb, putF, hb, has_put_same (k := .int .i64 b) hm (by simp [WideAt.IsKeyLit])]
          rfl
        · rw [if_neg hb, putF, has_put_other (key_ne (fun e => hb e.symm))]
          rfl
    · rw [h2 z, lastOff]
      cases hl : lastOff l b with
      | some o => rfl
      | none =>
        by_cases hb : f.1 = b
        · rw [if_pos hb]
          show (putF m f).atKey _ z = _
          rw [putF, hb, atKey_put_same (k := .int .i64 b) hm (by simp [WideAt.IsKeyLit])]
          rfl
        · rw [if_neg hb]
          show (putF m f).atKey _ z = _
          rw [putF, atKey_put_other (key_ne (fun e => hb e.symm))]
          rfl
theorem mapD_snoc (l : List Fnd) (f : Fnd) : mapD (l ++ [f]) = (mapD l).put (.int .i64 f.1) (.lit (.int .i64 f.2)) := by simp [mapD, putF]
theorem mapD_has {l : List Fnd} {b : Int} : has (mapD l) (.int .i64 b) = (lastOff l b).isSome := by
  rw [mapD, (mapGo_at b l _ isMap_empty).1]
  cases lastOff l b <;> rfl
theorem mapD_at {l : List Fnd} {b o : Int} (h : lastOff l b = some o) (z : DataW Unit) : (mapD l).atKey (.int .i64 b) z = .lit (.int .i64 o) := by
  rw [mapD, (mapGo_at b l _ isMap_empty).2, h]
/-- what has been put out: the open ones among those that have come -/
def Outs (l : List Fnd) (lim : Int) (left : Lit → Bool) (out : List Int) : Prop := out.Nodup ∧ ∀ x, x ∈ out ↔ left (.int .i64 x) = false ∧ openB l lim x
theorem outs_start (l : List Fnd) (lim : Int) : Outs l lim (has (mapD l)) [] := ⟨List.nodup_nil, fun x => by
  simp only [List.not_mem_nil, false_iff, not_and]
  rintro h ⟨o, ho, _⟩
  rw [mapD_has, ho] at h
  cases h⟩
theorem outs_end {l : List Fnd} {lim : Int} {left : Lit → Bool} {out : List Int} (h : Outs l lim left out) (hl : ∀ k, left k = false) : sortI out = openM l lim := open_sort h.1 fun x => by
  rw [h.2 x]
  exact ⟨fun g => g.2, fun g => ⟨hl _, g⟩⟩
theorem same_key {a b : Int} : (Lit.int .i64 a).sameKey (Lit.int .i64 b) = decide (a = b) := by
  simp [Lit.sameKey]
theorem outs_last {l : List Fnd} {x c : Int} (hat : ∀ zd : DataW Unit, (mapD l).atKey (.int .i64 x) zd = .lit (.int .i64 c)) : lastOff l x = some c := by
  cases h : lastOff l x with
  | none =>
    have h1 := has_true_of_atKey hat
    rw [mapD_has, h] at h1
    cases h1
  | some o =>
    have h1 := hat (.lit (.int .i64 0))
    rw [mapD_at h] at h1
    cases h1
    rfl
theorem outs_yes {l : List Fnd} {lim : Int} {left : Lit → Bool} {out : List Int} {x c : Int} (h : Outs l lim left out) (hx : left (.int .i64 x) = true) (hc : lastOff l x = some c) (hlim : lim < sizeI c) :
    Outs l lim (fun z => left z && !z.sameKey (.int .i64 x)) (out ++ [x]) := by
  obtain ⟨h1, h2⟩ := h
  refine ⟨?_, fun y => ?_⟩
  · rw [List.nodup_append]
    refine ⟨h1, by simp, fun a ha b hb => ?_⟩
    obtain rfl : b = x := by simpa using hb
    rintro rfl
    rw [((h2 a).1 ha).1] at hx
    cases hx
  · rw [List.mem_append, h2 y]
    simp only [List.mem_singleton, same_key]
    by_cases hy : y = x
    · subst hy
      simp only [or_true, decide_true, Bool.not_true, Bool.and_false, true_and, true_iff]
      exact ⟨c, hc, hlim⟩
    · simp [hy]
theorem outs_no {l : List Fnd} {lim : Int} {left : Lit → Bool} {out : List Int} {x c : Int} (h : Outs l lim left out) (hx : left (.int .i64 x) = true) (hc : lastOff l x = some c) (hlim : ¬ lim < sizeI c) :
    Outs l lim (fun z => left z && !z.sameKey (.int .i64 x)) out := by
  obtain ⟨h1, h2⟩ := h
  refine ⟨h1, fun y => ?_⟩
  rw [h2 y]
  simp only [same_key]
  by_cases hy : y = x
  · subst hy
    rw [hx]
    simp only [Bool.true_eq_false, false_and, decide_true, Bool.not_true, Bool.and_false, true_and, false_iff]
    rintro ⟨o, ho, g⟩
    rw [hc] at ho
    cases ho
    exact hlim g
  · simp [hy]

/-- the error of open findings -/
def openErr (l : List Fd) (lim : Int) : Int := if fdM l = 0 then (if withinB lim 0 10000 = true then 0 else 2) else fdM l
def openO (l : List Fd) (lim E : Int) : Option (List Int) := if E = 0 then some (openM (l.map fdF) lim) else none
theorem openO_no {l : List Fd} {lim E : Int} (h : E ≠ 0) : openO l lim E = none := if_neg h
theorem openO_yes {l : List Fd} {lim : Int} : openO l lim 0 = some (openM (l.map fdF) lim) := if_pos rfl
def OutAt (w : World) : Option (List Int) → Value → Prop
  | none, v => v = .slice none 0 0
  | some T, v => ∃ A cap, v = .slice A T.length cap ∧ Rd w w.heap.size A (intCells T)
def OpenPost (w : World) (o : Option (List Int)) (e : Int) (x : Ending) (w' : World) : Prop :=
  ∃ v, x = .returned (.tuple #[v, .int .i64 e]) ∧ OutAt w' o v ∧ Below w.heap.size w w'
theorem own_map_keep {H : Type} {w w' : World} {P : Program} {k : TypeId} {R : Value → Option (DataW H × List MemPlace)} {b n : Nat} {D : DataW H} (h : w.ownsMap P k R b n D) (hb : Below w.heap.size w w') : w'.ownsMap P k R b n D := by
  have hlt := h.lt
  obtain ⟨es, clock, hbk, r⟩ := h
  exact ⟨es, clock, (hb.block b hlt).trans hbk, r⟩

def MapRel (w0 : World) (l : List Fd) (n : Nat) (V : Int) (bm : Nat) (u : Value) (wr : World) : Prop :=
  ∃ k : Nat, k ≤ n ∧ u = .int .i64 k ∧ fdGo (l.drop k) = V ∧ wr.ownsMap (H := Unit) Tryd.prog 3 (plainElem Tryd.prog 3) bm k (mapD ((l.take k).map fdF)) ∧ Below w0.heap.size w0 wr
def OutRel (w0 : World) (l : List Fnd) (lim : Int) (n bm r : Nat) (u : Value) (wr : World) : Prop :=
  ∃ (left : Lit → Bool) (cnt : Nat) (out : List Int), wr.ranges (H := Unit) Tryd.prog 3 (plainElem Tryd.prog 3) bm r n (mapD l) left cnt ∧ out.length + cnt ≤ 1000 ∧ Outs l lim left out ∧ wr.ownsRow w0.heap.size 3 1 u out.length (intCells out) ∧ Below w0.heap.size w0 wr
theorem lastOff_in {l : List Fnd} {x c : Int} (h : ∀ f ∈ l, -10000 ≤ f.2 ∧ f.2 ≤ 10000) (hx : lastOff l x = some c) : -10000 ≤ c ∧ c ≤ 10000 := by
  induction l with
  | nil => simp [lastOff] at hx
  | cons f l ih =>
    rw [lastOff] at hx
    cases hl : lastOff l x with
    | some o =>
      rw [hl] at hx
      exact ih (fun g hg => h g (by simp [hg])) (hl.trans hx)
    | none =>
      rw [hl] at hx
      simp only [Option.none_or] at hx
      split at hx
      · cases hx
        exact h f (by simp)
      · cases hx
theorem own_keep2 {w w' : World} {B e size : Nat} {v : Value} {n : Nat} {xs : List Value} (h : w.ownsRow B e size v n xs) (hk : ∀ (k : Nat) (cur : Array Value), w.heap[k]? = some (Obj.cells cur e (0, 0)) → w'.heap[k]? = w.heap[k]?) : w'.ownsRow B e size v n xs := by
  refine ⟨h.1, ?_⟩
  rcases h.2 with h2 | ⟨g, cap, cur, h1, h2, h3, h4⟩
  · exact .inl h2
  · exact .inr ⟨g, cap, cur, h1, h2, (hk g cur h3).trans h3, h4⟩
theorem own_not_map {w : World} {B e size n bm : Nat} {v : Value} {xs : List Value} (h : w.ownsRow B e size v n xs) (hm : ∃ es clock, w.heap[bm]? = some (.map es clock)) : some bm ≠ v.ownBlock := fun he => by
  obtain ⟨_, _, cur, hcur⟩ := ownBlk h he.symm
  obtain ⟨es, clock, hb⟩ := hm
  rw [hb] at hcur
  simp at hcur
theorem own_not_iter {w : World} {B e size n bm r k cnt : Nat} {P : Program} {R : Value → Option (DataW Unit × List MemPlace)} {D : DataW Unit} {kt : TypeId} {left : Lit → Bool} {v : Value} {xs : List Value} (h : w.ownsRow B e size v n xs) (hm : w.ranges P kt R bm r k D left cnt) : some r ≠ v.ownBlock := fun he => by
  obtain ⟨_, _, cur, hcur⟩ := ownBlk h he.symm
  obtain ⟨es, clock, since, seen, c0, _, _, _, _, hr, _⟩ := hm
  rw [hr] at hcur
  simp at hcur
theorem fdGo_in : ∀ {l : List Fd}, fdGo l = 0 → ∀ x ∈ l, fdE x = 0
  | [], _, _, h => by simp at h
  | a :: l, h, x, hx => by
    rw [fdGo] at h
    split at h
    · rename_i h0
      rcases List.mem_cons.1 hx with rfl | hx
      · exact h0
      · exact fdGo_in h x hx
    · rename_i h0
      exact absurd h h0
theorem fdE_in {x : Fd} (h : fdE x = 0) : 0 ≤ x.2.2.1 ∧ x.2.2.1 ≤ 100000 ∧ -10000 ≤ x.2.2.2 ∧ x.2.2.2 ≤ 10000 := by
  unfold fdE at h
  split at h
  · split at h
    · rename_i h2
      simp [rightB, withinB] at h2
      omega
    · cases h
  · cases h

set_option maxRecDepth 100000 in
set_option maxHeartbeats 16000000 in
theorem OpenOf_any (w : World) (B : Nat) (A : Option Addr) (n c : Nat) (l : List Fd) (lim : Int) (hl : l.length = n) (h : Rd w B A (fdCells l)) (hB : B ≤ w.heap.size) (hn : n ≤ 1000000000) (hz : n ≤ 100 → ∀ x ∈ l, x.1.size ≤ 1000000000) (E : Int) (hE : openErr l lim = E) :
    Calls Tryd.prog 46 #[.slice A n c, .int .i64 lim] w (OpenPost w (openO l lim E) E) := by
  obtain ⟨i1, hi1, hy0, hy1, hy2⟩ := info_parts info3
  by_cases h100 : n ≤ 100
  · have HM : Hid (fdM l = fdGo l) := by rw [Hid, fdM, if_pos (by rw [hl]; exact h100)]
    have h100i : ¬ (100 : Int) < (n : Int) := by omega
    have HZ := Lib.hid (hz h100)
    obtain ⟨V, hV⟩ : ∃ V, fdGo l = V := ⟨_, rfl⟩
    rw [hV] at HM
    have HVV := Lib.hid hV
    have HL := Lib.hid hl
    have HE1 : Hid (V ≠ 0 → E = V) := fun h0 => by rw [← hE, openErr, HM.out, if_neg h0]
    have HE2 : Hid (V = 0 → E = if withinB lim 0 10000 = true then 0 else 2) := fun h0 => by rw [← hE, openErr, HM.out, if_pos h0]
    have hmm := @run_makeMap Tryd.prog
    clear hV hl hz hE
    go_enter Tryd.func46, Tryd.ntmps46
    go_wp2
    have HREL : Hid (MapRel w l n V w.heap.size (.int .i64 0) (w.alloc (.map #[] 0))) := ⟨0, Nat.zero_le _, rfl, by rw [List.drop_zero]; exact HVV.out, World.ownsMap_made _ _ _ _, (Below.refl _ _).alloc (Nat.le_refl _) _⟩
    have HBW : Hid (Below w.heap.size w (w.alloc (.map #[] 0))) := (Below.refl _ _).alloc (Nat.le_refl _) _
    generalize hbm : w.heap.size = bm at *
    have HBM := Lib.hid hbm
    clear hbm
    go_loopw [19] (fun u wr => MapRel w l n V bm u wr) (fun u _ => n - (intOf u).toNat)
    case atStart => exact HREL.out
    case round =>
      clear HREL hmm
      obtain ⟨k, hk, rfl, hgo, hmap, hb⟩ := hrel
      have HGO := Lib.hid hgo
      have HBK := Lib.hid hb
      have HMAP := Lib.hid hmap
      have hsk := hb.size
      have hr := h.below (hb.mono (HBM.out ▸ hB))
      clear hgo hb hmap HBW
      rw [HBM.out] at hsk
      by_cases hlt : k < n
      · have hkl : k < l.length := by rw [HL.out]; exact hlt
        obtain ⟨ev, hev⟩ : ∃ ev, l[k]? = some ev := ⟨_, List.getElem?_eq_getElem hkl⟩
        have hes := HZ.out ev (List.mem_of_getElem? hev)
        obtain ⟨z0, z1, z2, z3⟩ := fdCells_at l k ev hev
        obtain ⟨bb, off, rfl, hbB, e0, e1, e2, e3⟩ := hr.at4 z0 z1 z2 z3
        have HS := Lib.hid (drop_consF hev)
        have HTK : Hid (l.take (k + 1) = l.take k ++ [ev]) := by rw [Hid, List.take_add_one, hev]; rfl
        obtain ⟨s, d, b, o⟩ := ev
        simp only at e0 e1 e2 e3 hes
        have HG : Hid ((if fdE (s, d, b, o) = 0 then fdGo (l.drop (k + 1)) else fdE (s, d, b, o)) = V) := by
          have := HGO.out
          rw [HS.out, fdGo] at this
          exact this
        have hba : Below wr.heap.size wr (wr.alloc (.cells #[.string s, .int .i64 d, .int .i64 b, .int .i64 o] 74)) := (Below.refl _ _).alloc (Nat.le_refl _) _
        have kb : (wr.alloc (.cells #[.string s, .int .i64 d, .int .i64 b, .int .i64 o] 74)).heap[wr.heap.size]? = some (.cells #[.string s, .int .i64 d, .int .i64 b, .int .i64 o] 74 (0, 0)) := by rw [heapq_alloc, if_pos rfl]
        have m0 := (cell_of_row _ _ 0 _ _ _ kb).trans (by rfl : _ = some (.string s))
        have m1 := (cell_of_row _ _ 1 _ _ _ kb).trans (by rfl : _ = some (.int .i64 d))
        have m2 := (cell_of_row _ _ 2 _ _ _ kb).trans (by rfl : _ = some (.int .i64 b))
        have m3 := (cell_of_row _ _ 3 _ _ _ kb).trans (by rfl : _ = some (.int .i64 o))
        have HMA := Lib.hid (own_map_keep HMAP.out hba)
        have HBA := Lib.hid (HBK.out.trans (hba.mono (HBM.out ▸ hsk)))
        have hsa := Nat.le_trans hsk hba.size
        clear hba kb z0 z1 z2 z3 hev hkl hr HGO HMAP HBK
        go_upto_region 7 with (fail)
        generalize wr.alloc (.cells #[.string s, .int .i64 d, .int .i64 b, .int .i64 o] 74) = wa at *
        clear e0 e1 e2 e3
        generalize wr.heap.size = zb at *
        have FE := findingErr_any s d b o hes wa
        unfold ErrVal at FE
        have HIN : Hid (fdE (s, d, b, o) = 0 → 0 ≤ b ∧ b ≤ 100000 ∧ -10000 ≤ o ∧ o ≤ 10000) := fun h0 => fdE_in h0
        generalize fdE (s, d, b, o) = er at *
        by_cases her : er = 0
        · have hin := HIN.out her
          subst her
          have HN : Hid (fdGo (l.drop (k + 1)) = V) := by
            have := HG.out
            rw [if_pos rfl] at this
            exact this
          go_upto_region 10 with (go_at_call 111; refine FE.mono ?_; rintro e w1 ⟨rfl, hb1⟩)
          replace m2 := kept hb1 m2
          replace m3 := kept hb1 m3
          have hmap := own_map_keep HMA.out hb1
          have HB1 := Lib.hid (HBA.out.trans (hb1.mono (HBM.out ▸ hsa)))
          replace hsa := Nat.le_trans hsa hb1.size
          clear hb1 HMA HBA m0 m1 FE
          go_wp2_with (at_mapUpdate; refine stp ?_)
          unfold Stp
          refine wpList_mapUpdate_own _ rfl _ _ _ 167 rfl 3 3 (Maps.int_keyed Tryd.underlying3) Tryd.underlying167 (plainElem Tryd.prog 3) bm k _ rfl hmap (by unfold maxLen; omega) _ _ _ rfl rfl (Maps.keyOf_int_mk Tryd.underlying3 (WalkArith.wf_i64 (by omega))) _ [] (plainElem_int Tryd.underlying3 (WalkArith.wf_i64 (by omega))) ?_
          intro w6 hmap6 hgrow6
          have MAP6 : Hid (w6.ownsMap (H := Unit) Tryd.prog 3 (plainElem Tryd.prog 3) bm (k + 1) (mapD ((l.take (k + 1)).map fdF))) := by
            rw [Hid, HTK.out, List.map_append, List.map_cons, List.map_nil, mapD_snoc]
            exact hmap6
          have HB6 := Lib.hid (HB1.out.grown hgrow6 (HBM.out ▸ hsa) (fun j hj => by rw [← Option.some.inj hj, HBM.out]; exact Nat.le_refl _))
          clear hmap hmap6 hgrow6
          go_wp2
          go_roundw
          case rel => exact ⟨k + 1, by omega, by go_num, HN.out, MAP6.out, HB6.out⟩
          case measure => simp [intOf]; omega
        · have e9 : (er != 0) = true := bne_iff_ne.2 her
          have HN : Hid (V = er) := by
            have := HG.out
            rw [if_neg her] at this
            exact this.symm
          have HE : Hid (E = er) := by rw [Hid, HE1.out (by rw [HN.out]; exact her), HN.out]
          go_wp2_with (go_at_call 111; refine FE.mono ?_; rintro e w1 ⟨rfl, hb1⟩)
          go_ret2
          exact ⟨.slice none 0 0, by rw [HE.out]; rfl, by rw [HE.out, openO_no her]; rfl, HBM.out.symm ▸ HBA.out.trans (hb1.mono (HBM.out ▸ hsa))⟩
      · obtain rfl : k = n := by omega
        have HN : Hid (V = 0) := by
          have := HGO.out
          rw [List.drop_eq_nil_iff.2 (by rw [HL.out]; omega), fdGo] at this
          exact this.symm
        have HTK : Hid (l.take k = l) := List.take_of_length_le (by rw [HL.out]; exact Nat.le_refl _)
        have hmap := HMAP.out
        rw [HTK.out] at hmap
        cases ql : withinB lim 0 10000 with
        | false =>
          have HE : Hid (E = 2) := by rw [Hid, HE2.out HN.out, ql, if_neg (by decide)]
          have V9 := fun W => within_val lim 0 10000 false ql W
          clear ql
          go_wp2_with (go_at_call 99; refine (V9 _).mono ?_; rintro e w1 ⟨rfl, rfl⟩)
          go_ret2
          exact ⟨.slice none 0 0, by rw [HE.out]; rfl, by rw [HE.out, openO_no (by decide)]; rfl, HBM.out.symm ▸ HBK.out⟩
        | true =>
          have HE : Hid (E = 0) := by rw [Hid, HE2.out HN.out, ql, if_pos rfl]
          have hlim : 0 ≤ lim ∧ lim ≤ 10000 := by simpa [withinB] using ql
          have V9 := fun W => within_val lim 0 10000 true ql W
          obtain ⟨L, hL⟩ : ∃ L, l.map fdF = L := ⟨_, rfl⟩
          rw [hL] at hmap
          have hcn := hmap.size_le
          have HLF := Lib.hid hL
          clear ql HMAP hL
          have HIN : Hid (∀ f ∈ L, -10000 ≤ f.2 ∧ f.2 ≤ 10000) := by
            intro f hf
            rw [← HLF.out] at hf
            obtain ⟨y, hy, rfl⟩ := List.mem_map.1 hf
            have := fdE_in (fdGo_in (HVV.out.trans HN.out) y hy)
            exact ⟨this.2.2.1, this.2.2.2⟩
          have HSW : Hid (w.heap.size ≤ wr.heap.size) := HBM.out ▸ hsk
          go_wp2_with (first | (go_at_call 99; refine (V9 _).mono ?_; rintro e w1 ⟨rfl, rfl⟩) | (at_range; refine wpList_range_own _ rfl _ 167 rfl 3 3 (Maps.int_keyed Tryd.underlying3) Tryd.underlying167 _ bm k _ rfl hmap ?_; intro wi hrg0 hg0 hs0))
          go_frame
          have hbq : Below wr.heap.size wr wi := (Below.refl _ _).grown hg0 (Nat.le_refl _) (fun j hj => by cases hj)
          have hbmr : bm < wr.heap.size := hmap.lt
          generalize wr = wq at *
          have HREL : Hid (OutRel wq L lim k bm wq.heap.size (.slice none 0 0) wi) := ⟨_, _, [], hrg0, by simp; omega, outs_start L lim, ⟨rfl, .inl ⟨rfl, rfl⟩⟩, hbq⟩
          have HBQ : Hid (∃ es clock, wi.heap[bm]? = some (.map es clock)) := by
            obtain ⟨es, clock, hb, _⟩ := hrg0.owns
            exact ⟨es, clock, hb⟩
          clear hrg0 hg0 hbq hmap V9
          go_loopw [10] (fun u wr => OutRel wq L lim k bm wq.heap.size u wr) (fun _ wr => wr.rangeLeft bm wq.heap.size)
          case atStart => exact HREL.out
          case round =>
            clear HREL
            obtain ⟨left, cnt, out, hrg, hcs, hout, hown, hb⟩ := hrel
            obtain ⟨Ao, co, rfl⟩ := rowForm hown
            have HOWN := Lib.hid hown
            have HBR := Lib.hid hb
            have hsr := hb.size
            clear hown hb
            go_wp2_with (at_next; refine stp ?_)
            unfold Stp
            refine wpList_next_ranges_ii _ rfl _ rfl 3 3 .i64 .i64 (Maps.int_keyed Tryd.underlying3) Tryd.underlying3 Tryd.underlying3 bm wq.heap.size k _ _ _ rfl hrg ?_ ?_
            · intro hc0 hl0
              have HSO := Lib.hid (outs_end hout hl0)
              by_cases ho0 : out = []
              · subst ho0
                have HO0 : Hid (openM L lim = []) := by rw [Hid, ← HSO.out]; simp [sortI]
                have SN := Tryd.slices_Sort_int_none Ao co wr
                go_wp2_with (go_at_call 112; refine SN.mono ?_; rintro e w1 ⟨rfl, rfl⟩)
                go_ret2
                exact ⟨.slice Ao 0 co, by rw [HE.out]; rfl, by rw [HE.out, openO_yes, HLF.out, HO0.out]; exact ⟨Ao, co, rfl, fun k u hk => by simp [intCells] at hk⟩, HBM.out.symm ▸ HBK.out.trans (HBR.out.mono HSW.out)⟩
              · obtain ⟨g, rfl⟩ : ∃ g, Ao = some ⟨g, 0, none⟩ := by
                  rcases HOWN.out.2 with ⟨_, h0⟩ | ⟨g, cap, cur, he, _⟩
                  · exact absurd (List.eq_nil_of_length_eq_zero h0) ho0
                  · simp only [Value.slice.injEq] at he
                    exact ⟨g, he.1⟩
                have SO := Sort_own wr wq.heap.size g co out HOWN.out (by omega)
                have hg1 := (ownBlk HOWN.out rfl).1
                have hg2 := (ownBlk HOWN.out rfl).2.1
                go_wp2_with (go_at_call 112; refine SO.mono ?_; rintro e w1 ⟨rfl, hs1, hs2, hb1⟩)
                go_ret2
                have hSL : (openM L lim).length = out.length := by rw [← HSO.out, sortI_len]
                exact ⟨.slice (some ⟨g, 0, none⟩) out.length co, by rw [HE.out]; rfl, by
                  rw [HE.out, openO_yes, HLF.out]
                  exact ⟨some ⟨g, 0, none⟩, co, by rw [hSL], fun j u hj => ⟨g, 0, rfl, Nat.lt_of_lt_of_le hg2 hb1.size, by
                    rw [Nat.zero_add]
                    rw [← HSO.out] at hj
                    exact hs1 j u hj⟩⟩, HBM.out.symm ▸ HBK.out.trans ((HBR.out.trans (hb1.mono hg1)).mono HSW.out)⟩
            · intro x c w1 cnt1 hwx hwc hlx hat hrg1 hlt9 hg1 hs1 hen
              have hlast := outs_last hat
              have hc10 := lastOff_in HIN.out hlast
              have OWN1 : Hid (w1.ownsRow wq.heap.size 3 1 (.slice Ao out.length co) out.length (intCells out)) := own_keep2 HOWN.out (fun j cur hj => hg1.block j (Array.getElem?_eq_some_iff.1 hj).1 (fun he => by
                obtain ⟨es, clock, since, seen, c0, _, _, _, _, hri, _⟩ := hrg
                rw [Option.some.inj he, hri] at hj
                simp at hj))
              have HB1 := Lib.hid (HBR.out.grown hg1 hsr (fun j hj => by rw [← Option.some.inj hj]; exact Nat.le_refl _))
              have hs1' : wq.heap.size ≤ w1.heap.size := by omega
              have HBQ : Hid (∃ es clock, w1.heap[bm]? = some (.map es clock)) := by
                obtain ⟨es, clock, hb, _⟩ := hrg1.owns
                exact ⟨es, clock, hb⟩
              clear HOWN HBR hg1 hs1
              by_cases hq : lim < sizeI c
              · rcases Int.lt_or_le c 0 with hsg | hsg
                · have hsg2 : c < -c := by omega
                  have hsg3 : ¬ -c < c := by omega
                  have hmx : sizeI c = -c := by rw [sizeI]; omega
                  have hlt2 : lim < -c := by rw [← hmx]; exact hq
                  have HO := Lib.hid (outs_yes hout hlx hlast hq)
                  clear hq hmx
                  go_upto_region 19 with fail
                  go_wp2_with (at_builtin; refine stp ?_)
                  unfold Stp
                  refine wpList_append_lies _ rfl _ _ 39 rfl wq.heap.size 3 i1 _ 1 8 Tryd.underlying39 hi1 hy0 hy1 hy2 rfl (by omega) (.slice Ao out.length co) out.length (intCells out) rfl (OWN1.out.alloc _) ⟨w1.heap.size, 0, none⟩ 1 1 [.int .i64 x] rfl rfl (news1 (by simp)) (by simp [Value.oneCell']) (by omega) (by simp only [maxLen]; omega) (by omega) (by simp; omega) _ rfl ?_
                  intro gg cap w6 hown6 hgrow6 hat6 hlt6
                  have hrg2 := (hrg1.alloc (.cells #[.int .i64 x] 3)).kept hgrow6 (own_not_map OWN1.out HBQ.out) (own_not_iter OWN1.out hrg1)
                  have HB6 := Lib.hid ((HB1.out.alloc hs1' _).grown hgrow6 (by simp; omega) (fun j hj => (ownBlk OWN1.out hj).1))
                  have HOWN6 := Lib.hid hown6
                  clear hown6 hgrow6 hat6 hlt6
                  go_wp2
                  go_roundw
                  case rel => exact ⟨_, cnt1, out ++ [x], hrg2, by simp; omega, HO.out, by simpa [intCells] using HOWN6.out, HB6.out⟩
                  case measure => rw [hrg2.left_eq, hrg.left_eq]; exact hlt9
                · have hsg2 : ¬ c < -c := by omega
                  have hsg3 : -c ≤ c := by omega
                  have hmx : sizeI c = c := by rw [sizeI]; omega
                  have hlt2 : lim < c := by rw [← hmx]; exact hq
                  have HO := Lib.hid (outs_yes hout hlx hlast hq)
                  clear hq hmx
                  go_upto_region 19 with fail
                  go_wp2_with (at_builtin; refine stp ?_)
                  unfold Stp
                  refine wpList_append_lies _ rfl _ _ 39 rfl wq.heap.size 3 i1 _ 1 8 Tryd.underlying39 hi1 hy0 hy1 hy2 rfl (by omega) (.slice Ao out.length co) out.length (intCells out) rfl (OWN1.out.alloc _) ⟨w1.heap.size, 0, none⟩ 1 1 [.int .i64 x] rfl rfl (news1 (by simp)) (by simp [Value.oneCell']) (by omega) (by simp only [maxLen]; omega) (by omega) (by simp; omega) _ rfl ?_
                  intro gg cap w6 hown6 hgrow6 hat6 hlt6
                  have hrg2 := (hrg1.alloc (.cells #[.int .i64 x] 3)).kept hgrow6 (own_not_map OWN1.out HBQ.out) (own_not_iter OWN1.out hrg1)
                  have HB6 := Lib.hid ((HB1.out.alloc hs1' _).grown hgrow6 (by simp; omega) (fun j hj => (ownBlk OWN1.out hj).1))
                  have HOWN6 := Lib.hid hown6
                  clear hown6 hgrow6 hat6 hlt6
                  go_wp2
                  go_roundw
                  case rel => exact ⟨_, cnt1, out ++ [x], hrg2, by simp; omega, HO.out, by simpa [intCells] using HOWN6.out, HB6.out⟩
                  case measure => rw [hrg2.left_eq, hrg.left_eq]; exact hlt9
              · rcases Int.lt_or_le c 0 with hsg | hsg
                · have hsg2 : c < -c := by omega
                  have hsg3 : ¬ -c < c := by omega
                  have hmx : sizeI c = -c := by rw [sizeI]; omega
                  have hlt2 : ¬ lim < -c := by rw [← hmx]; exact hq
                  have HO := Lib.hid (outs_no hout hlx hlast hq)
                  clear hq hmx
                  go_wp2
                  go_roundw
                  case rel => exact ⟨_, cnt1, out, hrg1, by omega, HO.out, OWN1.out, HB1.out⟩
                  case measure => rw [hrg1.left_eq, hrg.left_eq]; exact hlt9
                · have hsg2 : ¬ c < -c := by omega
                  have hsg3 : -c ≤ c := by omega
                  have hmx : sizeI c = c := by rw [sizeI]; omega
                  have hlt2 : ¬ lim < c := by rw [← hmx]; exact hq
                  have HO := Lib.hid (outs_no hout hlx hlast hq)
                  clear hq hmx
                  go_wp2
                  go_roundw
                  case rel => exact ⟨_, cnt1, out, hrg1, by omega, HO.out, OWN1.out, HB1.out⟩
                  case measure => rw [hrg1.left_eq, hrg.left_eq]; exact hlt9
  · have HV : Hid (fdM l = 8) := by rw [Hid, fdM, if_neg (by rw [hl]; exact h100)]
    have h100i : (100 : Int) < (n : Int) := by omega
    have HE : Hid (E = 8) := by rw [Hid, ← hE, openErr, HV.out, if_neg (by decide)]
    clear h hl hz hE
    go_enter Tryd.func46, Tryd.ntmps46
    go_wp2
    go_ret2
    exact ⟨.slice none 0 0, by rw [HE.out]; rfl, by rw [HE.out, openO_no (by decide)]; rfl, Below.refl _ _⟩
end Go.Proofs.YtmcjnfghlpnghaaDoor

namespace Go.Proofs.YtmcjnfghlpnghaaDoor
open Go.RowKit

def IntsHPost (w : World) (l : List Int) (n : Nat) (e : Ending) (w' : World) : Prop :=
  ∃ g c, e = .returned (.slice (some ⟨g, 0, none⟩) n c) ∧ w'.ownsRow w.heap.size 3 1 (.slice (some ⟨g, 0, none⟩) n c) n (intCells l) ∧ Below w.heap.size w w'
set_option maxHeartbeats 1000000 in
theorem CopyIntsH (w : World) (B : Nat) (A : Option Addr) (n c : Nat) (l : List Int) (hl : l.length = n) (hn : n ≤ 1000000) (h : Rd w B A (intCells l)) (hB : B ≤ w.heap.size) :
    Calls Tryd.prog 54 #[.slice A n c] w (IntsHPost w l n) := by
  obtain ⟨i1, hi1, hy0, hy1, hy2⟩ := info_parts info3
  have HL := Lib.hid hl
  have h' := h.below (((Below.refl _ _).alloc (Nat.le_refl _) (.cells #[] 3) : Below w.heap.size w (w.alloc (.cells #[] 3))).mono hB)
  have hb0 : Below w.heap.size w (w.alloc (.cells #[] 3)) := (Below.refl _ _).alloc (Nat.le_refl _) _
  clear hl
  go_enter Tryd.func54, Tryd.ntmps54
  go_wp2_with (at_builtin; refine stp ?_)
  unfold Stp
  refine wpList_append_copy _ rfl _ _ 39 rfl w.heap.size 3 i1 _ 1 8 Tryd.underlying39 hi1 hy0 hy1 hy2 rfl (by omega) w.heap.size rfl (by rw [heapq_alloc, if_pos rfl]) (Nat.le_refl _) B A n c (intCells l) rfl (by rw [intCells_len, HL.out, Nat.mul_one]) h' (intCells_one l) (by simp only [maxLen]; omega) (by omega) (by simp) ?_
  intro g cap w1 hown hgrow _
  have hb1 : Below w.heap.size w w1 := hb0.grown hgrow (by simp) (fun k hk => by rw [← Option.some.inj hk]; exact Nat.le_refl _)
  have HR := Lib.hid hown
  have HB := Lib.hid hb1
  clear hown hgrow hb0 hb1 h h'
  go_wp2
  go_ret
  exact ⟨_, _, rfl, HR.out, HB.out⟩

theorem insI_len (b : Int) : ∀ l : List Int, (insI b l).length = l.length + 1
  | [] => rfl
  | a :: l => by
    rw [insI]
    split
    · rw [List.length_cons, insI_len b l]
      rfl
    · rfl
theorem insI_all {b : Int} : ∀ {l : List Int} {a : Nat}, a ≤ l.length → (∀ x ∈ l.take a, x < b) → (∀ x, l[a]? = some x → ¬ x < b) → insI b l = l.take a ++ b :: l.drop a
  | [], a, h, _, _ => by
    obtain rfl : a = 0 := by simpa using h
    rfl
  | x :: l, 0, _, _, h => by
    rw [insI, if_neg (h x rfl)]
    rfl
  | x :: l, a + 1, h, h1, h2 => by
    rw [insI, if_pos (h1 x (by simp)), insI_all (a := a) (by simpa using h) (fun y hy => h1 y (by simp [hy])) (fun y hy => h2 y (by simpa using hy))]
    rfl
theorem capH {w : World} {B e size n c : Nat} {A : Option Addr} {xs : List Value} (h : w.ownsRow B e size (.slice A n c) n xs) : n ≤ c := by
  rcases h.2 with ⟨h1, _⟩ | ⟨g, cap, cur, h1, _, _, h2, _⟩
  · simp only [Value.slice.injEq] at h1
    omega
  · simp only [Value.slice.injEq] at h1
    omega
theorem rd_nil0 {w : World} {B : Nat} {A : Option Addr} : Rd w B A (intCells []) := fun k u hk => by simp [intCells] at hk
theorem rd_take {w : World} {B : Nat} {A : Option Addr} {l : List Int} (a : Nat) (h : Rd w B A (intCells l)) : Rd w B A (intCells (l.take a)) := fun k u hk => h k u (by
  simp only [intCells, List.map_take, List.getElem?_take] at hk ⊢
  split at hk
  · exact hk
  · cases hk)
theorem rd_end {w : World} {B : Nat} {A A' : Option Addr} {l : List Int} {a : Nat} (_ : Rd w B A (intCells l)) (h : l.length ≤ a) : Rd w B A' (intCells (l.drop a)) := fun k u hk => by
  rw [List.drop_eq_nil_iff.2 h] at hk
  simp [intCells] at hk
theorem rd_from {w : World} {B g : Nat} {l : List Int} (h : Rd w B (some ⟨g, 0, none⟩) (intCells l)) (a : Nat) : Rd w B (some ⟨g, a, none⟩) (intCells (l.drop a)) := by
  intro k u hk
  have hk2 : (intCells l)[a + k]? = some u := by
    have : intCells (l.drop a) = (intCells l).drop a := by simp [intCells]
    rw [this, List.getElem?_drop] at hk
    exact hk
  obtain ⟨b', o', he, hb, hc⟩ := h (a + k) u hk2
  simp only [Option.some.injEq, Addr.mk.injEq, and_true] at he
  obtain ⟨rfl, rfl⟩ := he
  exact ⟨g, a, rfl, hb, by rw [Nat.zero_add] at hc; exact hc⟩

def OpRel (w0 : World) (L : List Fnd) (lim : Int) (n : Nat) (FIN : List Int) (u5 u6 : Value) (wr : World) : Prop :=
  ∃ (k : Nat) (acc : List Int), k ≤ n ∧ acc.length ≤ k ∧ u6 = .int .i64 k ∧ wr.ownsRow w0.heap.size 3 1 u5 acc.length (intCells acc) ∧ (acc = [] → u5 = .slice none 0 0) ∧ openGo lim acc (L.drop k) = FIN ∧ Below w0.heap.size w0 wr
def LastRel (wq : World) (L : List Fnd) (n : Nat) (b : Int) (k : Nat) (TOT : Bool) (u7 u8 : Value) (wr : World) : Prop :=
  ∃ (j : Nat) (lb : Bool), k + 1 ≤ j ∧ j ≤ n ∧ u8 = .int .i64 j ∧ u7 = .bool lb ∧ (!lb || (L.drop j).any fun g => g.1 == b) = TOT ∧ Below wq.heap.size wq wr
def AtRel (wq : World) (acc : List Int) (b : Int) (u9 : Value) (wr : World) : Prop :=
  ∃ a : Nat, a ≤ acc.length ∧ u9 = .int .i64 a ∧ (∀ x ∈ acc.take a, x < b) ∧ Below wq.heap.size wq wr

set_option maxRecDepth 100000 in
set_option maxHeartbeats 16000000 in
theorem refOpenOf_any (w : World) (B : Nat) (A : Option Addr) (n c : Nat) (l : List Fd) (lim : Int) (hl : l.length = n) (h : Rd w B A (fdCells l)) (hB : B ≤ w.heap.size) (hn : n ≤ 1000) (_hlim : 0 ≤ lim ∧ lim ≤ 10000) (h0 : fdM l = 0) :
    Calls Tryd.prog 51 #[.slice A n c, .int .i64 lim] w (IntsPost w (openM (l.map fdF) lim) (openM (l.map fdF) lim).length) := by
  obtain ⟨i1, hi1, hy0, hy1, hy2⟩ := info_parts info3
  obtain ⟨L, hL⟩ : ∃ L, l.map fdF = L := ⟨_, rfl⟩
  rw [hL]
  obtain ⟨FIN, hF⟩ : ∃ F, openM L lim = F := ⟨_, rfl⟩
  rw [hF]
  have HF := Lib.hid hF
  have HLF := Lib.hid hL
  have HL := Lib.hid hl
  have HIN : Hid (∀ x ∈ l, 0 ≤ x.2.2.1 ∧ x.2.2.1 ≤ 100000 ∧ -10000 ≤ x.2.2.2 ∧ x.2.2.2 ≤ 10000) := fun x hx => by
    unfold fdM at h0
    split at h0
    · exact fdE_in (fdGo_in h0 x hx)
    · cases h0
  have HLL : Hid (L.length = n) := by rw [Hid, ← hL, List.length_map]; exact hl
  clear hl hL hF h0
  go_enter Tryd.func51, Tryd.ntmps51
  go_wp2
  go_loopw [5, 6] (fun u5 u6 wr => OpRel w L lim n FIN u5 u6 wr) (fun _ u6 _ => n - (intOf u6).toNat)
  case atStart => exact ⟨0, [], Nat.zero_le _, Nat.le_refl _, rfl, ⟨rfl, .inl ⟨rfl, rfl⟩⟩, fun _ => rfl, by rw [List.drop_zero]; exact HF.out, Below.refl _ _⟩
  case round =>
    obtain ⟨k, acc, hk, hacc, rfl, hown, hnil, hgo, hb⟩ := hrel
    obtain ⟨Ao, co, rfl⟩ := rowForm hown
    have HGO := Lib.hid hgo
    have HBK := Lib.hid hb
    have HOWN := Lib.hid hown
    have HNIL := Lib.hid hnil
    have hsk := hb.size
    have hr := h.below (hb.mono hB)
    clear hgo hb hown hnil
    by_cases hlt : k < n
    · have hkl : k < l.length := by rw [HL.out]; exact hlt
      obtain ⟨ev, hev⟩ : ∃ ev, l[k]? = some ev := ⟨_, List.getElem?_eq_getElem hkl⟩
      have hin := HIN.out ev (List.mem_of_getElem? hev)
      obtain ⟨z0, z1, z2, z3⟩ := fdCells_at l k ev hev
      obtain ⟨bb, off, rfl, hbB, e0, e1, e2, e3⟩ := hr.at4 z0 z1 z2 z3
      have HS : Hid (L.drop k = fdF ev :: L.drop (k + 1)) := by
        rw [Hid]
        exact drop_consF (by rw [← HLF.out, List.getElem?_map, hev]; rfl)
      obtain ⟨s, d, b, o⟩ := ev
      simp only at e0 e1 e2 e3 hin
      obtain ⟨TOT, hTOT⟩ : ∃ t, ((L.drop (k + 1)).any fun g => g.1 == b) = t := ⟨_, rfl⟩
      have HTOT := Lib.hid hTOT
      have HG : Hid (openGo lim (if TOT = true ∨ sizeI o ≤ lim then acc else insI b acc) (L.drop (k + 1)) = FIN) := by
        have := HGO.out
        rw [HS.out, openGo] at this
        simp only [fdF, hTOT] at this
        exact this
      have E2 := Lib.hid e2
      have E3 := Lib.hid e3
      clear z0 z1 z2 z3 hev hkl HGO hTOT e0 e1
      generalize hwq : wr = wq at *
      clear hwq
      go_wp2
      go_loopw [7, 8] (fun u7 u8 wr => LastRel wq L n b k TOT u7 u8 wr) (fun _ u8 _ => n - (intOf u8).toNat)
      case atStart => exact ⟨k + 1, true, Nat.le_refl _, by omega, by go_num, rfl, by simpa using HTOT.out, Below.refl _ _⟩
      case round =>
        clear e2 e3
        obtain ⟨j, lb, hkj, hjn, rfl, rfl, hlb, hbj⟩ := hrel
        have HLB := Lib.hid hlb
        have HBJ := Lib.hid hbj
        have e2 := kept hbj E2.out
        have e3 := kept hbj E3.out
        have hrj := hr.below (hbj.mono (Nat.le_trans hB hsk))
        have hsj := hbj.size
        clear hlb hbj
        by_cases hlj : j < n
        · have hjl : j < l.length := by rw [HL.out]; exact hlj
          obtain ⟨ev, hev⟩ : ∃ ev, l[j]? = some ev := ⟨_, List.getElem?_eq_getElem hjl⟩
          obtain ⟨z0, z1, z2, z3⟩ := fdCells_at l j ev hev
          obtain ⟨bb', off', hA, hbB', f0, f1, f2, f3⟩ := hrj.at4 z0 z1 z2 z3
          simp only [Option.some.injEq, Addr.mk.injEq, and_true] at hA
          obtain ⟨rfl, rfl⟩ := hA
          have HS2 : Hid (L.drop j = fdF ev :: L.drop (j + 1)) := by
            rw [Hid]
            exact drop_consF (by rw [← HLF.out, List.getElem?_map, hev]; rfl)
          obtain ⟨s', d', b', o'⟩ := ev
          simp only at f0 f1 f2 f3
          clear z0 z1 z2 z3 hev hjl f0 f1 f3 hrj
          have HST : Hid ((!lb || (b' == b || (L.drop (j + 1)).any fun g => g.1 == b)) = TOT) := by
            have := HLB.out
            rw [HS2.out, List.any_cons] at this
            exact this
          clear HLB
          go_upto_region 9 with fail
          have y0 := fun y : Xt wr => y.cell e2
          have y1 := fun y : Xt wr => y.cell f2
          cases lb with
          | false =>
            have HN : Hid ((!false || (L.drop (j + 1)).any fun g => g.1 == b) = TOT) := HST.out
            refine wp_region_xt (by kernel_rfl) (by kernel_rfl) ?_
            repeat (go_big_quiet_step (fail))
            refine wpQuiet_nil ?_
            intro w1 hx1
            have HB1 := Lib.hid (HBJ.out.trans ((Xt.below hx1).mono hsj))
            clear hx1 y0 y1
            go_wp2
            go_roundw
            case rel => exact ⟨j + 1, false, by omega, by omega, by go_num, rfl, HN.out, HB1.out⟩
            case measure => simp [intOf]; omega
          | true =>
            by_cases hbb : b' = b
            · have q : (b' != b) = false := by rw [hbb]; simp
              have HN : Hid ((!false || (L.drop (j + 1)).any fun g => g.1 == b) = TOT) := by
                have := HST.out
                rw [hbb] at this
                rw [Hid]
                simpa using this
              clear hbb
              refine wp_region_xt (by kernel_rfl) (by kernel_rfl) ?_
              repeat (go_big_quiet_step (fail))
              refine wpQuiet_nil ?_
              intro w1 hx1
              have HB1 := Lib.hid (HBJ.out.trans ((Xt.below hx1).mono hsj))
              clear hx1 y0 y1 q
              go_wp2
              go_roundw
              case rel => exact ⟨j + 1, false, by omega, by omega, by go_num, rfl, HN.out, HB1.out⟩
              case measure => simp [intOf]; omega
            · have q : (b' != b) = true := bne_iff_ne.2 hbb
              have HN : Hid ((!true || (L.drop (j + 1)).any fun g => g.1 == b) = TOT) := by
                have := HST.out
                rw [beq_eq_false_iff_ne.2 hbb] at this
                rw [Hid]
                simpa using this
              clear hbb
              refine wp_region_xt (by kernel_rfl) (by kernel_rfl) ?_
              repeat (go_big_quiet_step (fail))
              refine wpQuiet_nil ?_
              intro w1 hx1
              have HB1 := Lib.hid (HBJ.out.trans ((Xt.below hx1).mono hsj))
              clear hx1 y0 y1 q
              go_wp2
              go_roundw
              case rel => exact ⟨j + 1, true, by omega, by omega, by go_num, rfl, HN.out, HB1.out⟩
              case measure => simp [intOf]; omega
        · have HLT : Hid (lb = !TOT) := by
            have := HLB.out
            rw [List.drop_eq_nil_iff.2 (by rw [HLL.out]; omega), List.any_nil, Bool.or_false] at this
            rw [Hid, ← this, Bool.not_not]
          replace HBK := Lib.hid (HBK.out.trans (HBJ.out.mono hsk))
          replace HOWN := Lib.hid (ownsRow_below HOWN.out HBJ.out)
          replace hsk := Nat.le_trans hsk hsj
          clear E2 E3 HBJ hr HLB
          have SZ := fun W => Size_any o (by omega) W
          have hsz : 0 ≤ sizeI o ∧ sizeI o ≤ 10000 := by rw [sizeI]; omega
          generalize hso : sizeI o = so at *
          clear hso
          have hSKIP : Hid ((TOT = true ∨ so ≤ lim) → openGo lim acc (L.drop (k + 1)) = FIN) := fun h => by
            have := HG.out
            rw [if_pos h] at this
            exact this
          by_cases hT : TOT = true
          · have HN := Lib.hid (hSKIP.out (.inl hT))
            have hlbf : lb = false := by rw [HLT.out, hT]; rfl
            subst hlbf
            have HREL : Hid (OpRel w L lim n FIN (.slice Ao acc.length co) (.int .i64 ((k : Int) + 1)) wr) := ⟨k + 1, acc, by omega, by omega, by simp, HOWN.out, HNIL.out, HN.out, HBK.out⟩
            go_wp2
            go_roundw
            case rel =>
              first
                | exact HREL.out
                | (repeat apply Exists.intro
                   exact ⟨HREL.out, rfl⟩)
            case measure => simp [intOf]; omega
          · have hlbf : lb = true := by rw [HLT.out, Bool.eq_false_iff.2 hT]; rfl
            subst hlbf
            by_cases hso : so ≤ lim
            · have HN := Lib.hid (hSKIP.out (.inr hso))
              have HREL : Hid (OpRel w L lim n FIN (.slice Ao acc.length co) (.int .i64 ((k : Int) + 1)) wr) := ⟨k + 1, acc, by omega, by omega, by simp, HOWN.out, HNIL.out, HN.out, HBK.out⟩
              go_wp2_with (go_at_call 114; refine (SZ _).mono ?_; rintro e9 w' ⟨rfl, rfl⟩)
              go_roundw
              case rel =>
                first
                  | exact HREL.out
                  | (repeat apply Exists.intro
                     exact ⟨HREL.out, rfl⟩)
              case measure => simp [intOf]; omega
            · have HNX : Hid (openGo lim (insI b acc) (L.drop (k + 1)) = FIN) := by
                have := HG.out
                rw [if_neg (by rw [not_or]; exact ⟨hT, hso⟩)] at this
                exact this
              clear HG hSKIP hT HLT HTOT
              have E2 := Lib.hid e2
              generalize hwv : wr = wv at *
              clear hwv
              go_wp2_with (go_at_call 114; refine (SZ _).mono ?_; rintro e9 w' ⟨rfl, rfl⟩)
              clear SZ e2 e3
              go_loopw [9] (fun u9 wr => AtRel wv acc b u9 wr) (fun u9 _ => acc.length - (intOf u9).toNat)
              case atStart => exact ⟨0, Nat.zero_le _, rfl, fun x hx => by simp at hx, Below.refl _ _⟩
              case round =>
                obtain ⟨a, ha, rfl, hta, hba⟩ := hrel
                have HTA := Lib.hid hta
                have HBA := Lib.hid hba
                have e2 := kept hba E2.out
                have HOWA := Lib.hid (ownsRow_below HOWN.out hba)
                have hrd0 := rd_own HOWA.out
                have hsa := hba.size
                clear hta hba
                go_upto_region 12 with fail
                have y0 := fun y : Xt wr => y.cell e2
                by_cases hal : a < acc.length
                · obtain ⟨gA, oA, hA, hgA, d1⟩ := hrd0.at_ (intCells_at acc a hal)
                  have HAX : Hid (acc[a]? = some (acc[a]?.getD 0)) := by rw [Hid, List.getElem?_eq_getElem hal]; rfl
                  subst hA
                  generalize acc[a]?.getD 0 = x at *
                  have y1 := fun y : Xt wr => y.cell d1
                  have q0 : decide ((a : Int) < (acc.length : Int)) = true := decide_eq_true (by omega)
                  have q0' : decide (a < acc.length) = true := decide_eq_true hal
                  by_cases hxb : x < b
                  · have q : decide (x < b) = true := decide_eq_true hxb
                    have HT2 : Hid (∀ y ∈ acc.take (a + 1), y < b) := by
                      intro y hy
                      rw [List.take_add_one, HAX.out] at hy
                      rcases List.mem_append.1 hy with hy | hy
                      · exact HTA.out y hy
                      · obtain rfl : y = x := by simpa using hy
                        exact hxb
                    refine wp_region_xt (by kernel_rfl) (by kernel_rfl) ?_
                    repeat (go_big_quiet_step (fail))
                    refine wpQuiet_nil ?_
                    intro w1 hx1
                    have HB1 := Lib.hid (HBA.out.trans ((Xt.below hx1).mono hsa))
                    clear hx1 y0 y1 q q0 q0'
                    go_wp2
                    go_roundw
                    case rel => exact ⟨a + 1, by omega, by go_num, HT2.out, HB1.out⟩
                    case measure => simp [intOf]; omega
                  · have q : decide (x < b) = false := decide_eq_false hxb
                    have HIA : Hid (insI b acc = acc.take a ++ b :: acc.drop a) := insI_all ha HTA.out (fun y hy => by
                      rw [HAX.out] at hy
                      cases hy
                      exact hxb)
                    refine wp_region_xt (by kernel_rfl) (by kernel_rfl) ?_
                    repeat (go_big_quiet_step (fail))
                    refine wpQuiet_nil ?_
                    intro w1 hx1
                    have hb1 := Xt.below hx1
                    clear hx1 y0 y1 q q0 q0'
                    replace e2 := kept hb1 e2
                    have HOWB := Lib.hid (ownsRow_below HOWA.out hb1)
                    replace HBK := Lib.hid (HBK.out.trans ((HBA.out.trans (hb1.mono hsa)).mono hsk))
                    replace hsk := Nat.le_trans hsk (Nat.le_trans hsa hb1.size)
                    have hcap := capH HOWB.out
                    clear hrd0 HOWA HBA hb1 hsa E2 HTA
                    obtain rfl : oA = 0 := by
                      rcases HOWB.out.2 with ⟨he, _⟩ | ⟨g, cap, cur, he, _⟩
                      · simp at he
                      · simp only [Value.slice.injEq, Option.some.injEq, Addr.mk.injEq, and_true] at he
                        exact he.1.2
                    have hrd1 := rd_own HOWB.out
                    have hca : ¬ co = a := by omega
                    have hac : a ≤ co := by omega
                    have HINS := HIA
                    clear HIA HAX
                    go_upto_region 14 with fail
                    have x2 := fun y : Xt w1 => y.cell e2
                    refine wp_region_eager [15] (fun w' => ∃ y : Xt w1, w' = y.1) (by kernel_rfl) ⟨⟨w1.drew, (Below.refl _ _).drew⟩, rfl⟩ ?_
                    refine wpE_reads4 [0, 1, 2, 4, 5, 6, 7, 8, 11, 12, 13] 5 rfl (by kernel_rfl) ?_
                    simp only [opsAt_nil, opsAt_cons, consOpt_some, List.getElem?_toArray, List.getElem?_cons_zero, List.getElem?_cons_succ]
                    repeat (go_big_quiet_step (fail))
                    refine wpQuiet_nil ?_
                    have hbd : Below w1.heap.size w1 w1.drew := (Below.refl _ _).drew
                    show wpE _ _ _ _ _ _ _ _ _ w1.drew
                    clear x2
                    generalize w1.drew = wd at *
                    refine wpE_two (i := 3) (k := 9) rfl (by kernel_rfl) rfl rfl ?_ ?_
                    · unfold wpMid
                      simp only [opsAt_nil, opsAt_cons, consOpt_some, List.getElem?_toArray, List.getElem?_cons_zero, List.getElem?_cons_succ]
                      go_wp2_with (go_at_call 54; refine (CopyIntsH wd w1.heap.size (some ⟨gA, 0, none⟩) (a) co (acc.take a) (by rw [List.length_take]; omega) (by omega) ((rd_take a hrd1).below hbd) hbd.size).mono ?_; rintro e3 y2 ⟨g2, c2, rfl, hown2, hb2⟩)
                      have hb02 := hbd.trans (hb2.mono hbd.size)
                      refine onlyNormal_mk ⟨⟨⟨_, hb02⟩, rfl⟩, ?_⟩
                      refine wpE_one (i := 9) rfl (by kernel_rfl) rfl ?_
                      unfold wpMid
                      simp only [opsAt_nil, opsAt_cons, consOpt_some, List.getElem?_toArray, List.getElem?_cons_zero, List.getElem?_cons_succ]
                      go_wp2
                      have hb03 : Below w1.heap.size w1 (y2.alloc (.cells #[.int .i64 b] 3)) := hb02.alloc hb02.size _
                      have n3 : (y2.alloc (.cells #[.int .i64 b] 3)).cell? ⟨y2.heap.size, 0, none⟩ = some (.int .i64 b) := (cell_of_row _ _ 0 _ _ _ (by rw [heapq_alloc, if_pos rfl])).trans rfl
                      have OW3 : Hid ((y2.alloc (.cells #[.int .i64 b] 3)).ownsRow wd.heap.size 3 1 (.slice (some ⟨g2, 0, none⟩) (a) c2) (a) (intCells (acc.take a))) := hown2.alloc _
                      have hbs1 : w1.heap.size ≤ wd.heap.size := hbd.size
                      have hbs2 : wd.heap.size ≤ (y2.alloc (.cells #[.int .i64 b] 3)).heap.size := Nat.le_trans hb2.size ((Below.refl _ _).alloc (Nat.le_refl _) _ : Below y2.heap.size y2 _).size
                      clear hown2 hb2 hb02
                      generalize y2.alloc (.cells #[.int .i64 b] 3) = y3 at *
                      generalize y2.heap.size = gz at *
                      generalize wd.heap.size = bs at *
                      refine onlyNormal_mk ⟨⟨⟨_, hb03⟩, rfl⟩, ?_⟩
                      refine wpE_one (i := 10) rfl (by kernel_rfl) rfl ?_
                      unfold wpMid
                      simp only [opsAt_nil, opsAt_cons, consOpt_some, List.getElem?_toArray, List.getElem?_cons_zero, List.getElem?_cons_succ]
                      go_wp2_with (at_builtin; refine stp ?_)
                      unfold Stp
                      refine wpList_append_lies _ rfl _ _ 39 rfl bs 3 i1 _ 1 8 Tryd.underlying39 hi1 hy0 hy1 hy2 rfl (by omega) (.slice (some ⟨g2, 0, none⟩) a c2) (a) (intCells (acc.take a)) rfl OW3.out ⟨gz, 0, none⟩ 1 1 [.int .i64 b] rfl rfl (news1 n3) (by simp [Value.oneCell']) (by omega) (by simp only [maxLen]; omega) (by omega) hbs2 _ rfl ?_
                      intro gg cap y5 hown5 hgrow5 hat5 hlt5
                      have hb5 : Below w1.heap.size w1 y5 := hb03.grown hgrow5 hb03.size (fun k hk => Nat.le_trans hbs1 (ownBlk OW3.out hk).1)
                      have OW5 := Lib.hid hown5
                      have hbs5 : bs ≤ y5.heap.size := Nat.le_trans hbs2 hgrow5.size
                      clear hown5 hgrow5 hat5 hlt5 OW3 n3 hbs2 hb03
                      go_wp2
                      refine onlyNormal_mk ⟨⟨⟨_, hb5⟩, rfl⟩, ?_⟩
                      refine wpE_one (i := 14) rfl (by kernel_rfl) rfl ?_
                      unfold wpMid
                      simp only [opsAt_nil, opsAt_cons, consOpt_some, List.getElem?_toArray, List.getElem?_cons_zero, List.getElem?_cons_succ]
                      go_wp2_with (at_builtin; refine stp ?_)
                      unfold Stp
                      refine wpList_append_on _ rfl _ _ 39 rfl bs 3 i1 _ 1 8 Tryd.underlying39 hi1 hy0 hy1 hy2 rfl (by omega) gg (a + 1) cap (intCells (acc.take a) ++ [.int .i64 b]) rfl OW5.out w1.heap.size (some ⟨gA, a, none⟩) (acc.length - a) (co - a) (intCells (acc.drop a)) rfl (by simp [intCells]) ((rd_from hrd1 a).below hb5) (intCells_one _) (by simp only [maxLen]; omega) (by omega) hbs5 ?_
                      intro g9 cap9 y9 hown9 hgrow9 hat9
                      have hb9 : Below w1.heap.size w1 y9 := hb5.grown hgrow9 hb5.size (fun k hk => Nat.le_trans hbs1 (by rw [← Option.some.inj hk]; exact (ownBlk OW5.out rfl).1))
                      have HLI : Hid (a + 1 + (acc.length - a) = (insI b acc).length) := by rw [Hid, HINS.out]; simp <;> omega
                      have OW9 : Hid (y9.ownsRow w.heap.size 3 1 (.slice (some ⟨g9, 0, none⟩) (a + 1 + (acc.length - a)) cap9) (a + 1 + (acc.length - a)) (intCells (insI b acc))) := by
                        have h1 := ownsRow_more hown9 (base' := w.heap.size) (Nat.le_trans hsk hbs1)
                        have e2 : intCells (insI b acc) = intCells (acc.take a) ++ [.int .i64 b] ++ intCells (acc.drop a) := by rw [HINS.out]; simp [intCells]
                        rw [Hid, e2]
                        exact h1
                      have HB9 := Lib.hid (HBK.out.trans (hb9.mono hsk))
                      clear hown9 hgrow9 hat9 OW5 hb5 hbs5 hbs1
                      go_wp2
                      refine onlyNormal_mk ⟨⟨⟨_, hb9⟩, rfl⟩, ?_⟩
                      refine wpE_tail rfl (by kernel_rfl) ?_
                      simp only [opsAt_nil, opsAt_cons, consOpt_some, List.getElem?_toArray, List.getElem?_cons_zero, List.getElem?_cons_succ]
                      go_wp2
                      refine onlyNormal_mk ?_
                      clear hb9
                      generalize a + 1 + (acc.length - a) = nn at *
                      have HREL : Hid (OpRel w L lim n FIN (.slice (some ⟨g9, 0, none⟩) nn cap9) (.int .i64 ((k : Int) + 1)) y9) := ⟨k + 1, insI b acc, by omega, by rw [insI_len]; omega, by simp, by have := OW9.out; rw [HLI.out] at this ⊢; exact this, (fun h0 => absurd (congrArg List.length h0) (by rw [insI_len]; simp)), HNX.out, HB9.out⟩
                      go_wp2
                      go_roundw
                      case rel =>
                        first
                          | exact HREL.out
                          | (repeat apply Exists.intro
                             exact ⟨HREL.out, rfl⟩)
                      case measure => simp [intOf]; omega
                    · unfold wpMid
                      simp only [opsAt_nil, opsAt_cons, consOpt_some, List.getElem?_toArray, List.getElem?_cons_zero, List.getElem?_cons_succ]
                      go_wp2
                      have hb02 : Below w1.heap.size w1 (wd.alloc (.cells #[.int .i64 b] 3)) := hbd.alloc hbd.size _
                      have n2 : (wd.alloc (.cells #[.int .i64 b] 3)).cell? ⟨wd.heap.size, 0, none⟩ = some (.int .i64 b) := (cell_of_row _ _ 0 _ _ _ (by rw [heapq_alloc, if_pos rfl])).trans rfl
                      generalize wd.alloc (.cells #[.int .i64 b] 3) = y2 at *
                      generalize wd.heap.size = gz at *
                      refine onlyNormal_mk ⟨⟨⟨_, hb02⟩, rfl⟩, ?_⟩
                      refine wpE_one (i := 3) rfl (by kernel_rfl) rfl ?_
                      unfold wpMid
                      simp only [opsAt_nil, opsAt_cons, consOpt_some, List.getElem?_toArray, List.getElem?_cons_zero, List.getElem?_cons_succ]
                      go_wp2_with (go_at_call 54; refine (CopyIntsH y2 w1.heap.size (some ⟨gA, 0, none⟩) (a) co (acc.take a) (by rw [List.length_take]; omega) (by omega) ((rd_take a hrd1).below hb02) hb02.size).mono ?_; rintro e3 y3 ⟨g2, c2, rfl, hown2, hb2⟩)
                      have hb03 := hb02.trans (hb2.mono hb02.size)
                      have n3 := kept hb2 n2
                      have OW3 := Lib.hid hown2
                      have hbs1 : w1.heap.size ≤ y2.heap.size := hb02.size
                      have hbs2 : y2.heap.size ≤ y3.heap.size := hb2.size
                      clear hown2 hb2 hb02 n2
                      generalize y2.heap.size = bs at *
                      refine onlyNormal_mk ⟨⟨⟨_, hb03⟩, rfl⟩, ?_⟩
                      refine wpE_one (i := 10) rfl (by kernel_rfl) rfl ?_
                      unfold wpMid
                      simp only [opsAt_nil, opsAt_cons, consOpt_some, List.getElem?_toArray, List.getElem?_cons_zero, List.getElem?_cons_succ]
                      go_wp2_with (at_builtin; refine stp ?_)
                      unfold Stp
                      refine wpList_append_lies _ rfl _ _ 39 rfl bs 3 i1 _ 1 8 Tryd.underlying39 hi1 hy0 hy1 hy2 rfl (by omega) (.slice (some ⟨g2, 0, none⟩) a c2) (a) (intCells (acc.take a)) rfl OW3.out ⟨gz, 0, none⟩ 1 1 [.int .i64 b] rfl rfl (news1 n3) (by simp [Value.oneCell']) (by omega) (by simp only [maxLen]; omega) (by omega) hbs2 _ rfl ?_
                      intro gg cap y5 hown5 hgrow5 hat5 hlt5
                      have hb5 : Below w1.heap.size w1 y5 := hb03.grown hgrow5 hb03.size (fun k hk => Nat.le_trans hbs1 (ownBlk OW3.out hk).1)
                      have OW5 := Lib.hid hown5
                      have hbs5 : bs ≤ y5.heap.size := Nat.le_trans hbs2 hgrow5.size
                      clear hown5 hgrow5 hat5 hlt5 OW3 n3 hbs2 hb03
                      go_wp2
                      refine onlyNormal_mk ⟨⟨⟨_, hb5⟩, rfl⟩, ?_⟩
                      refine wpE_one (i := 14) rfl (by kernel_rfl) rfl ?_
                      unfold wpMid
                      simp only [opsAt_nil, opsAt_cons, consOpt_some, List.getElem?_toArray, List.getElem?_cons_zero, List.getElem?_cons_succ]
                      go_wp2_with (at_builtin; refine stp ?_)
                      unfold Stp
                      refine wpList_append_on _ rfl _ _ 39 rfl bs 3 i1 _ 1 8 Tryd.underlying39 hi1 hy0 hy1 hy2 rfl (by omega) gg (a + 1) cap (intCells (acc.take a) ++ [.int .i64 b]) rfl OW5.out w1.heap.size (some ⟨gA, a, none⟩) (acc.length - a) (co - a) (intCells (acc.drop a)) rfl (by simp [intCells]) ((rd_from hrd1 a).below hb5) (intCells_one _) (by simp only [maxLen]; omega) (by omega) hbs5 ?_
                      intro g9 cap9 y9 hown9 hgrow9 hat9
                      have hb9 : Below w1.heap.size w1 y9 := hb5.grown hgrow9 hb5.size (fun k hk => Nat.le_trans hbs1 (by rw [← Option.some.inj hk]; exact (ownBlk OW5.out rfl).1))
                      have HLI : Hid (a + 1 + (acc.length - a) = (insI b acc).length) := by rw [Hid, HINS.out]; simp <;> omega
                      have OW9 : Hid (y9.ownsRow w.heap.size 3 1 (.slice (some ⟨g9, 0, none⟩) (a + 1 + (acc.length - a)) cap9) (a + 1 + (acc.length - a)) (intCells (insI b acc))) := by
                        have h1 := ownsRow_more hown9 (base' := w.heap.size) (Nat.le_trans hsk hbs1)
                        have e2 : intCells (insI b acc) = intCells (acc.take a) ++ [.int .i64 b] ++ intCells (acc.drop a) := by rw [HINS.out]; simp [intCells]
                        rw [Hid, e2]
                        exact h1
                      have HB9 := Lib.hid (HBK.out.trans (hb9.mono hsk))
                      clear hown9 hgrow9 hat9 OW5 hb5 hbs5 hbs1
                      go_wp2
                      refine onlyNormal_mk ⟨⟨⟨_, hb9⟩, rfl⟩, ?_⟩
                      refine wpE_tail rfl (by kernel_rfl) ?_
                      simp only [opsAt_nil, opsAt_cons, consOpt_some, List.getElem?_toArray, List.getElem?_cons_zero, List.getElem?_cons_succ]
                      go_wp2
                      refine onlyNormal_mk ?_
                      clear hb9
                      generalize a + 1 + (acc.length - a) = nn at *
                      have HREL : Hid (OpRel w L lim n FIN (.slice (some ⟨g9, 0, none⟩) nn cap9) (.int .i64 ((k : Int) + 1)) y9) := ⟨k + 1, insI b acc, by omega, by rw [insI_len]; omega, by simp, by have := OW9.out; rw [HLI.out] at this ⊢; exact this, (fun h0 => absurd (congrArg List.length h0) (by rw [insI_len]; simp)), HNX.out, HB9.out⟩
                      go_wp2
                      go_roundw
                      case rel =>
                        first
                          | exact HREL.out
                          | (repeat apply Exists.intro
                             exact ⟨HREL.out, rfl⟩)
                      case measure => simp [intOf]; omega
                · have q0 : decide ((a : Int) < (acc.length : Int)) = false := decide_eq_false (by omega)
                  have q0' : decide (a < acc.length) = false := decide_eq_false hal
                  have HIA : Hid (insI b acc = acc.take a ++ b :: acc.drop a) := insI_all ha HTA.out (fun y hy => by
                    rw [List.getElem?_eq_none (by omega)] at hy
                    cases hy)
                  refine wp_region_xt (by kernel_rfl) (by kernel_rfl) ?_
                  repeat (go_big_quiet_step (fail))
                  refine wpQuiet_nil ?_
                  intro w1 hx1
                  have hb1 := Xt.below hx1
                  clear hx1 y0 q0 q0'
                  replace e2 := kept hb1 e2
                  have HOWB := Lib.hid (ownsRow_below HOWA.out hb1)
                  replace HBK := Lib.hid (HBK.out.trans ((HBA.out.trans (hb1.mono hsa)).mono hsk))
                  replace hsk := Nat.le_trans hsk (Nat.le_trans hsa hb1.size)
                  have hcap := capH HOWB.out
                  clear hrd0 HOWA HBA hb1 hsa E2 HTA
                  obtain rfl : a = acc.length := by omega
                  have HINS : Hid (insI b acc = acc ++ b :: ([] : List Int)) := by
                    have := HIA.out
                    rw [List.take_length, List.drop_length] at this
                    exact this
                  clear HIA
                  have hrd1 := rd_own HOWB.out
                  by_cases hemp : acc = []
                  · have hnl := HNIL.out hemp
                    simp only [Value.slice.injEq] at hnl
                    obtain ⟨rfl, _, rfl⟩ := hnl
                    subst hemp
                    go_upto_region 14 with fail
                    have x2 := fun y : Xt w1 => y.cell e2
                    refine wp_region_eager [15] (fun w' => ∃ y : Xt w1, w' = y.1) (by kernel_rfl) ⟨⟨w1.drew, (Below.refl _ _).drew⟩, rfl⟩ ?_
                    refine wpE_reads4 [0, 1, 2, 4, 5, 6, 7, 8, 11, 12, 13] 5 rfl (by kernel_rfl) ?_
                    simp only [opsAt_nil, opsAt_cons, consOpt_some, List.getElem?_toArray, List.getElem?_cons_zero, List.getElem?_cons_succ]
                    repeat (go_big_quiet_step (fail))
                    refine wpQuiet_nil ?_
                    have hbd : Below w1.heap.size w1 w1.drew := (Below.refl _ _).drew
                    show wpE _ _ _ _ _ _ _ _ _ w1.drew
                    clear x2
                    generalize w1.drew = wd at *
                    refine wpE_two (i := 3) (k := 9) rfl (by kernel_rfl) rfl rfl ?_ ?_
                    · unfold wpMid
                      simp only [opsAt_nil, opsAt_cons, consOpt_some, List.getElem?_toArray, List.getElem?_cons_zero, List.getElem?_cons_succ]
                      go_wp2_with (go_at_call 54; refine (CopyIntsH wd w1.heap.size none (0) 0 ([] : List Int) rfl (by omega) ((rd_nil0 (w := w1) (B := w1.heap.size) (A := none)).below hbd) hbd.size).mono ?_; rintro e3 y2 ⟨g2, c2, rfl, hown2, hb2⟩)
                      have hb02 := hbd.trans (hb2.mono hbd.size)
                      refine onlyNormal_mk ⟨⟨⟨_, hb02⟩, rfl⟩, ?_⟩
                      refine wpE_one (i := 9) rfl (by kernel_rfl) rfl ?_
                      unfold wpMid
                      simp only [opsAt_nil, opsAt_cons, consOpt_some, List.getElem?_toArray, List.getElem?_cons_zero, List.getElem?_cons_succ]
                      go_wp2
                      have hb03 : Below w1.heap.size w1 (y2.alloc (.cells #[.int .i64 b] 3)) := hb02.alloc hb02.size _
                      have n3 : (y2.alloc (.cells #[.int .i64 b] 3)).cell? ⟨y2.heap.size, 0, none⟩ = some (.int .i64 b) := (cell_of_row _ _ 0 _ _ _ (by rw [heapq_alloc, if_pos rfl])).trans rfl
                      have OW3 : Hid ((y2.alloc (.cells #[.int .i64 b] 3)).ownsRow wd.heap.size 3 1 (.slice (some ⟨g2, 0, none⟩) (0) c2) (0) (intCells ([] : List Int))) := hown2.alloc _
                      have hbs1 : w1.heap.size ≤ wd.heap.size := hbd.size
                      have hbs2 : wd.heap.size ≤ (y2.alloc (.cells #[.int .i64 b] 3)).heap.size := Nat.le_trans hb2.size ((Below.refl _ _).alloc (Nat.le_refl _) _ : Below y2.heap.size y2 _).size
                      clear hown2 hb2 hb02
                      generalize y2.alloc (.cells #[.int .i64 b] 3) = y3 at *
                      generalize y2.heap.size = gz at *
                      generalize wd.heap.size = bs at *
                      refine onlyNormal_mk ⟨⟨⟨_, hb03⟩, rfl⟩, ?_⟩
                      refine wpE_one (i := 10) rfl (by kernel_rfl) rfl ?_
                      unfold wpMid
                      simp only [opsAt_nil, opsAt_cons, consOpt_some, List.getElem?_toArray, List.getElem?_cons_zero, List.getElem?_cons_succ]
                      go_wp2_with (at_builtin; refine stp ?_)
                      unfold Stp
                      refine wpList_append_lies _ rfl _ _ 39 rfl bs 3 i1 _ 1 8 Tryd.underlying39 hi1 hy0 hy1 hy2 rfl (by omega) (.slice (some ⟨g2, 0, none⟩) 0 c2) (0) (intCells ([] : List Int)) rfl OW3.out ⟨gz, 0, none⟩ 1 1 [.int .i64 b] rfl rfl (news1 n3) (by simp [Value.oneCell']) (by omega) (by simp only [maxLen]; omega) (by omega) hbs2 _ rfl ?_
                      intro gg cap y5 hown5 hgrow5 hat5 hlt5
                      have hb5 : Below w1.heap.size w1 y5 := hb03.grown hgrow5 hb03.size (fun k hk => Nat.le_trans hbs1 (ownBlk OW3.out hk).1)
                      have OW5 := Lib.hid hown5
                      have hbs5 : bs ≤ y5.heap.size := Nat.le_trans hbs2 hgrow5.size
                      clear hown5 hgrow5 hat5 hlt5 OW3 n3 hbs2 hb03
                      go_wp2
                      refine onlyNormal_mk ⟨⟨⟨_, hb5⟩, rfl⟩, ?_⟩
                      refine wpE_one (i := 14) rfl (by kernel_rfl) rfl ?_
                      unfold wpMid
                      simp only [opsAt_nil, opsAt_cons, consOpt_some, List.getElem?_toArray, List.getElem?_cons_zero, List.getElem?_cons_succ]
                      go_wp2_with (at_builtin; refine stp ?_)
                      unfold Stp
                      refine wpList_append_on _ rfl _ _ 39 rfl bs 3 i1 _ 1 8 Tryd.underlying39 hi1 hy0 hy1 hy2 rfl (by omega) gg (0 + 1) cap (intCells ([] : List Int) ++ [.int .i64 b]) rfl OW5.out w1.heap.size none 0 0 (intCells ([] : List Int)) rfl (by simp [intCells]) ((rd_nil0 (w := w1) (B := w1.heap.size) (A := none)).below hb5) (intCells_one _) (by simp only [maxLen]; omega) (by omega) hbs5 ?_
                      intro g9 cap9 y9 hown9 hgrow9 hat9
                      have hb9 : Below w1.heap.size w1 y9 := hb5.grown hgrow9 hb5.size (fun k hk => Nat.le_trans hbs1 (by rw [← Option.some.inj hk]; exact (ownBlk OW5.out rfl).1))
                      have HLI : Hid (0 + 1 + 0 = (insI b []).length) := by rw [Hid, HINS.out]; simp <;> omega
                      have OW9 : Hid (y9.ownsRow w.heap.size 3 1 (.slice (some ⟨g9, 0, none⟩) (0 + 1 + 0) cap9) (0 + 1 + 0) (intCells (insI b []))) := by
                        have h1 := ownsRow_more hown9 (base' := w.heap.size) (Nat.le_trans hsk hbs1)
                        have e2 : intCells (insI b []) = intCells ([] : List Int) ++ [.int .i64 b] ++ intCells ([] : List Int) := by rw [HINS.out]; simp [intCells]
                        rw [Hid, e2]
                        exact h1
                      have HB9 := Lib.hid (HBK.out.trans (hb9.mono hsk))
                      clear hown9 hgrow9 hat9 OW5 hb5 hbs5 hbs1
                      go_wp2
                      refine onlyNormal_mk ⟨⟨⟨_, hb9⟩, rfl⟩, ?_⟩
                      refine wpE_tail rfl (by kernel_rfl) ?_
                      simp only [opsAt_nil, opsAt_cons, consOpt_some, List.getElem?_toArray, List.getElem?_cons_zero, List.getElem?_cons_succ]
                      go_wp2
                      refine onlyNormal_mk ?_
                      clear hb9
                      have HREL : Hid (OpRel w L lim n FIN (.slice (some ⟨g9, 0, none⟩) 1 cap9) (.int .i64 ((k : Int) + 1)) y9) := ⟨k + 1, insI b [], by omega, by rw [insI_len]; omega, by simp, OW9.out, (fun h0 => absurd (congrArg List.length h0) (by rw [insI_len]; simp)), HNX.out, HB9.out⟩
                      go_wp2
                      go_roundw
                      case rel =>
                        first
                          | exact HREL.out
                          | (repeat apply Exists.intro
                             exact ⟨HREL.out, rfl⟩)
                      case measure => simp [intOf]; omega
                    · unfold wpMid
                      simp only [opsAt_nil, opsAt_cons, consOpt_some, List.getElem?_toArray, List.getElem?_cons_zero, List.getElem?_cons_succ]
                      go_wp2
                      have hb02 : Below w1.heap.size w1 (wd.alloc (.cells #[.int .i64 b] 3)) := hbd.alloc hbd.size _
                      have n2 : (wd.alloc (.cells #[.int .i64 b] 3)).cell? ⟨wd.heap.size, 0, none⟩ = some (.int .i64 b) := (cell_of_row _ _ 0 _ _ _ (by rw [heapq_alloc, if_pos rfl])).trans rfl
                      generalize wd.alloc (.cells #[.int .i64 b] 3) = y2 at *
                      generalize wd.heap.size = gz at *
                      refine onlyNormal_mk ⟨⟨⟨_, hb02⟩, rfl⟩, ?_⟩
                      refine wpE_one (i := 3) rfl (by kernel_rfl) rfl ?_
                      unfold wpMid
                      simp only [opsAt_nil, opsAt_cons, consOpt_some, List.getElem?_toArray, List.getElem?_cons_zero, List.getElem?_cons_succ]
                      go_wp2_with (go_at_call 54; refine (CopyIntsH y2 w1.heap.size none (0) 0 ([] : List Int) rfl (by omega) ((rd_nil0 (w := w1) (B := w1.heap.size) (A := none)).below hb02) hb02.size).mono ?_; rintro e3 y3 ⟨g2, c2, rfl, hown2, hb2⟩)
                      have hb03 := hb02.trans (hb2.mono hb02.size)
                      have n3 := kept hb2 n2
                      have OW3 := Lib.hid hown2
                      have hbs1 : w1.heap.size ≤ y2.heap.size := hb02.size
                      have hbs2 : y2.heap.size ≤ y3.heap.size := hb2.size
                      clear hown2 hb2 hb02 n2
                      generalize y2.heap.size = bs at *
                      refine onlyNormal_mk ⟨⟨⟨_, hb03⟩, rfl⟩, ?_⟩
                      refine wpE_one (i := 10) rfl (by kernel_rfl) rfl ?_
                      unfold wpMid
                      simp only [opsAt_nil, opsAt_cons, consOpt_some, List.getElem?_toArray, List.getElem?_cons_zero, List.getElem?_cons_succ]
                      go_wp2_with (at_builtin; refine stp ?_)
                      unfold Stp
                      refine wpList_append_lies _ rfl _ _ 39 rfl bs 3 i1 _ 1 8 Tryd.underlying39 hi1 hy0 hy1 hy2 rfl (by omega) (.slice (some ⟨g2, 0, none⟩) 0 c2) (0) (intCells ([] : List Int)) rfl OW3.out ⟨gz, 0, none⟩ 1 1 [.int .i64 b] rfl rfl (news1 n3) (by simp [Value.oneCell']) (by omega) (by simp only [maxLen]; omega) (by omega) hbs2 _ rfl ?_
                      intro gg cap y5 hown5 hgrow5 hat5 hlt5
                      have hb5 : Below w1.heap.size w1 y5 := hb03.grown hgrow5 hb03.size (fun k hk => Nat.le_trans hbs1 (ownBlk OW3.out hk).1)
                      have OW5 := Lib.hid hown5
                      have hbs5 : bs ≤ y5.heap.size := Nat.le_trans hbs2 hgrow5.size
                      clear hown5 hgrow5 hat5 hlt5 OW3 n3 hbs2 hb03
                      go_wp2
                      refine onlyNormal_mk ⟨⟨⟨_, hb5⟩, rfl⟩, ?_⟩
                      refine wpE_one (i := 14) rfl (by kernel_rfl) rfl ?_
                      unfold wpMid
                      simp only [opsAt_nil, opsAt_cons, consOpt_some, List.getElem?_toArray, List.getElem?_cons_zero, List.getElem?_cons_succ]
                      go_wp2_with (at_builtin; refine stp ?_)
                      unfold Stp
                      refine wpList_append_on _ rfl _ _ 39 rfl bs 3 i1 _ 1 8 Tryd.underlying39 hi1 hy0 hy1 hy2 rfl (by omega) gg (0 + 1) cap (intCells ([] : List Int) ++ [.int .i64 b]) rfl OW5.out w1.heap.size none 0 0 (intCells ([] : List Int)) rfl (by simp [intCells]) ((rd_nil0 (w := w1) (B := w1.heap.size) (A := none)).below hb5) (intCells_one _) (by simp only [maxLen]; omega) (by omega) hbs5 ?_
                      intro g9 cap9 y9 hown9 hgrow9 hat9
                      have hb9 : Below w1.heap.size w1 y9 := hb5.grown hgrow9 hb5.size (fun k hk => Nat.le_trans hbs1 (by rw [← Option.some.inj hk]; exact (ownBlk OW5.out rfl).1))
                      have HLI : Hid (0 + 1 + 0 = (insI b []).length) := by rw [Hid, HINS.out]; simp <;> omega
                      have OW9 : Hid (y9.ownsRow w.heap.size 3 1 (.slice (some ⟨g9, 0, none⟩) (0 + 1 + 0) cap9) (0 + 1 + 0) (intCells (insI b []))) := by
                        have h1 := ownsRow_more hown9 (base' := w.heap.size) (Nat.le_trans hsk hbs1)
                        have e2 : intCells (insI b []) = intCells ([] : List Int) ++ [.int .i64 b] ++ intCells ([] : List Int) := by rw [HINS.out]; simp [intCells]
                        rw [Hid, e2]
                        exact h1
                      have HB9 := Lib.hid (HBK.out.trans (hb9.mono hsk))
                      clear hown9 hgrow9 hat9 OW5 hb5 hbs5 hbs1
                      go_wp2
                      refine onlyNormal_mk ⟨⟨⟨_, hb9⟩, rfl⟩, ?_⟩
                      refine wpE_tail rfl (by kernel_rfl) ?_
                      simp only [opsAt_nil, opsAt_cons, consOpt_some, List.getElem?_toArray, List.getElem?_cons_zero, List.getElem?_cons_succ]
                      go_wp2
                      refine onlyNormal_mk ?_
                      clear hb9
                      have HREL : Hid (OpRel w L lim n FIN (.slice (some ⟨g9, 0, none⟩) 1 cap9) (.int .i64 ((k : Int) + 1)) y9) := ⟨k + 1, insI b [], by omega, by rw [insI_len]; omega, by simp, OW9.out, (fun h0 => absurd (congrArg List.length h0) (by rw [insI_len]; simp)), HNX.out, HB9.out⟩
                      go_wp2
                      go_roundw
                      case rel =>
                        first
                          | exact HREL.out
                          | (repeat apply Exists.intro
                             exact ⟨HREL.out, rfl⟩)
                      case measure => simp [intOf]; omega
                  · obtain ⟨gA, rfl⟩ : ∃ g, Ao = some ⟨g, 0, none⟩ := by
                      rcases HOWB.out.2 with ⟨_, h0⟩ | ⟨g, cap, cur, he, _⟩
                      · exact absurd (List.eq_nil_of_length_eq_zero h0) hemp
                      · simp only [Value.slice.injEq] at he
                        exact ⟨g, he.1⟩
                    by_cases hca : co = acc.length
                    · subst hca
                      go_upto_region 14 with fail
                      have x2 := fun y : Xt w1 => y.cell e2
                      refine wp_region_eager [15] (fun w' => ∃ y : Xt w1, w' = y.1) (by kernel_rfl) ⟨⟨w1.drew, (Below.refl _ _).drew⟩, rfl⟩ ?_
                      refine wpE_reads4 [0, 1, 2, 4, 5, 6, 7, 8, 11, 12, 13] 5 rfl (by kernel_rfl) ?_
                      simp only [opsAt_nil, opsAt_cons, consOpt_some, List.getElem?_toArray, List.getElem?_cons_zero, List.getElem?_cons_succ]
                      repeat (go_big_quiet_step (fail))
                      refine wpQuiet_nil ?_
                      have hbd : Below w1.heap.size w1 w1.drew := (Below.refl _ _).drew
                      show wpE _ _ _ _ _ _ _ _ _ w1.drew
                      clear x2
                      generalize w1.drew = wd at *
                      refine wpE_two (i := 3) (k := 9) rfl (by kernel_rfl) rfl rfl ?_ ?_
                      · unfold wpMid
                        simp only [opsAt_nil, opsAt_cons, consOpt_some, List.getElem?_toArray, List.getElem?_cons_zero, List.getElem?_cons_succ]
                        go_wp2_with (go_at_call 54; refine (CopyIntsH wd w1.heap.size (some ⟨gA, 0, none⟩) (acc.length) acc.length acc rfl (by omega) (hrd1.below hbd) hbd.size).mono ?_; rintro e3 y2 ⟨g2, c2, rfl, hown2, hb2⟩)
                        have hb02 := hbd.trans (hb2.mono hbd.size)
                        refine onlyNormal_mk ⟨⟨⟨_, hb02⟩, rfl⟩, ?_⟩
                        refine wpE_one (i := 9) rfl (by kernel_rfl) rfl ?_
                        unfold wpMid
                        simp only [opsAt_nil, opsAt_cons, consOpt_some, List.getElem?_toArray, List.getElem?_cons_zero, List.getElem?_cons_succ]
                        go_wp2
                        have hb03 : Below w1.heap.size w1 (y2.alloc (.cells #[.int .i64 b] 3)) := hb02.alloc hb02.size _
                        have n3 : (y2.alloc (.cells #[.int .i64 b] 3)).cell? ⟨y2.heap.size, 0, none⟩ = some (.int .i64 b) := (cell_of_row _ _ 0 _ _ _ (by rw [heapq_alloc, if_pos rfl])).trans rfl
                        have OW3 : Hid ((y2.alloc (.cells #[.int .i64 b] 3)).ownsRow wd.heap.size 3 1 (.slice (some ⟨g2, 0, none⟩) (acc.length) c2) (acc.length) (intCells acc)) := hown2.alloc _
                        have hbs1 : w1.heap.size ≤ wd.heap.size := hbd.size
                        have hbs2 : wd.heap.size ≤ (y2.alloc (.cells #[.int .i64 b] 3)).heap.size := Nat.le_trans hb2.size ((Below.refl _ _).alloc (Nat.le_refl _) _ : Below y2.heap.size y2 _).size
                        clear hown2 hb2 hb02
                        generalize y2.alloc (.cells #[.int .i64 b] 3) = y3 at *
                        generalize y2.heap.size = gz at *
                        generalize wd.heap.size = bs at *
                        refine onlyNormal_mk ⟨⟨⟨_, hb03⟩, rfl⟩, ?_⟩
                        refine wpE_one (i := 10) rfl (by kernel_rfl) rfl ?_
                        unfold wpMid
                        simp only [opsAt_nil, opsAt_cons, consOpt_some, List.getElem?_toArray, List.getElem?_cons_zero, List.getElem?_cons_succ]
                        go_wp2_with (at_builtin; refine stp ?_)
                        unfold Stp
                        refine wpList_append_lies _ rfl _ _ 39 rfl bs 3 i1 _ 1 8 Tryd.underlying39 hi1 hy0 hy1 hy2 rfl (by omega) (.slice (some ⟨g2, 0, none⟩) acc.length c2) (acc.length) (intCells acc) rfl OW3.out ⟨gz, 0, none⟩ 1 1 [.int .i64 b] rfl rfl (news1 n3) (by simp [Value.oneCell']) (by omega) (by simp only [maxLen]; omega) (by omega) hbs2 _ rfl ?_
                        intro gg cap y5 hown5 hgrow5 hat5 hlt5
                        have hb5 : Below w1.heap.size w1 y5 := hb03.grown hgrow5 hb03.size (fun k hk => Nat.le_trans hbs1 (ownBlk OW3.out hk).1)
                        have OW5 := Lib.hid hown5
                        have hbs5 : bs ≤ y5.heap.size := Nat.le_trans hbs2 hgrow5.size
                        clear hown5 hgrow5 hat5 hlt5 OW3 n3 hbs2 hb03
                        go_wp2
                        refine onlyNormal_mk ⟨⟨⟨_, hb5⟩, rfl⟩, ?_⟩
                        refine wpE_one (i := 14) rfl (by kernel_rfl) rfl ?_
                        unfold wpMid
                        simp only [opsAt_nil, opsAt_cons, consOpt_some, List.getElem?_toArray, List.getElem?_cons_zero, List.getElem?_cons_succ]
                        go_wp2_with (at_builtin; refine stp ?_)
                        unfold Stp
                        refine wpList_append_on _ rfl _ _ 39 rfl bs 3 i1 _ 1 8 Tryd.underlying39 hi1 hy0 hy1 hy2 rfl (by omega) gg (acc.length + 1) cap (intCells acc ++ [.int .i64 b]) rfl OW5.out w1.heap.size (some ⟨gA, 0, none⟩) 0 0 (intCells ([] : List Int)) rfl (by simp [intCells]) ((rd_nil0 (w := w1) (B := w1.heap.size) (A := some ⟨gA, 0, none⟩)).below hb5) (intCells_one _) (by simp only [maxLen]; omega) (by omega) hbs5 ?_
                        intro g9 cap9 y9 hown9 hgrow9 hat9
                        have hb9 : Below w1.heap.size w1 y9 := hb5.grown hgrow9 hb5.size (fun k hk => Nat.le_trans hbs1 (by rw [← Option.some.inj hk]; exact (ownBlk OW5.out rfl).1))
                        have HLI : Hid (acc.length + 1 + 0 = (insI b acc).length) := by rw [Hid, HINS.out]; simp <;> omega
                        have OW9 : Hid (y9.ownsRow w.heap.size 3 1 (.slice (some ⟨g9, 0, none⟩) (acc.length + 1 + 0) cap9) (acc.length + 1 + 0) (intCells (insI b acc))) := by
                          have h1 := ownsRow_more hown9 (base' := w.heap.size) (Nat.le_trans hsk hbs1)
                          have e2 : intCells (insI b acc) = intCells acc ++ [.int .i64 b] ++ intCells ([] : List Int) := by rw [HINS.out]; simp [intCells]
                          rw [Hid, e2]
                          exact h1
                        have HB9 := Lib.hid (HBK.out.trans (hb9.mono hsk))
                        clear hown9 hgrow9 hat9 OW5 hb5 hbs5 hbs1
                        go_wp2
                        refine onlyNormal_mk ⟨⟨⟨_, hb9⟩, rfl⟩, ?_⟩
                        refine wpE_tail rfl (by kernel_rfl) ?_
                        simp only [opsAt_nil, opsAt_cons, consOpt_some, List.getElem?_toArray, List.getElem?_cons_zero, List.getElem?_cons_succ]
                        go_wp2
                        refine onlyNormal_mk ?_
                        clear hb9
                        generalize acc.length + 1 + 0 = nn at *
                        have HREL : Hid (OpRel w L lim n FIN (.slice (some ⟨g9, 0, none⟩) nn cap9) (.int .i64 ((k : Int) + 1)) y9) := ⟨k + 1, insI b acc, by omega, by rw [insI_len]; omega, by simp, by have := OW9.out; rw [HLI.out] at this ⊢; exact this, (fun h0 => absurd (congrArg List.length h0) (by rw [insI_len]; simp)), HNX.out, HB9.out⟩
                        go_wp2
                        go_roundw
                        case rel =>
                          first
                            | exact HREL.out
                            | (repeat apply Exists.intro
                               exact ⟨HREL.out, rfl⟩)
                        case measure => simp [intOf]; omega
                      · unfold wpMid
                        simp only [opsAt_nil, opsAt_cons, consOpt_some, List.getElem?_toArray, List.getElem?_cons_zero, List.getElem?_cons_succ]
                        go_wp2
                        have hb02 : Below w1.heap.size w1 (wd.alloc (.cells #[.int .i64 b] 3)) := hbd.alloc hbd.size _
                        have n2 : (wd.alloc (.cells #[.int .i64 b] 3)).cell? ⟨wd.heap.size, 0, none⟩ = some (.int .i64 b) := (cell_of_row _ _ 0 _ _ _ (by rw [heapq_alloc, if_pos rfl])).trans rfl
                        generalize wd.alloc (.cells #[.int .i64 b] 3) = y2 at *
                        generalize wd.heap.size = gz at *
                        refine onlyNormal_mk ⟨⟨⟨_, hb02⟩, rfl⟩, ?_⟩
                        refine wpE_one (i := 3) rfl (by kernel_rfl) rfl ?_
                        unfold wpMid
                        simp only [opsAt_nil, opsAt_cons, consOpt_some, List.getElem?_toArray, List.getElem?_cons_zero, List.getElem?_cons_succ]
                        go_wp2_with (go_at_call 54; refine (CopyIntsH y2 w1.heap.size (some ⟨gA, 0, none⟩) (acc.length) acc.length acc rfl (by omega) (hrd1.below hb02) hb02.size).mono ?_; rintro e3 y3 ⟨g2, c2, rfl, hown2, hb2⟩)
                        have hb03 := hb02.trans (hb2.mono hb02.size)
                        have n3 := kept hb2 n2
                        have OW3 := Lib.hid hown2
                        have hbs1 : w1.heap.size ≤ y2.heap.size := hb02.size
                        have hbs2 : y2.heap.size ≤ y3.heap.size := hb2.size
                        clear hown2 hb2 hb02 n2
                        generalize y2.heap.size = bs at *
                        refine onlyNormal_mk ⟨⟨⟨_, hb03⟩, rfl⟩, ?_⟩
                        refine wpE_one (i := 10) rfl (by kernel_rfl) rfl ?_
                        unfold wpMid
                        simp only [opsAt_nil, opsAt_cons, consOpt_some, List.getElem?_toArray, List.getElem?_cons_zero, List.getElem?_cons_succ]
                        go_wp2_with (at_builtin; refine stp ?_)
                        unfold Stp
                        refine wpList_append_lies _ rfl _ _ 39 rfl bs 3 i1 _ 1 8 Tryd.underlying39 hi1 hy0 hy1 hy2 rfl (by omega) (.slice (some ⟨g2, 0, none⟩) acc.length c2) (acc.length) (intCells acc) rfl OW3.out ⟨gz, 0, none⟩ 1 1 [.int .i64 b] rfl rfl (news1 n3) (by simp [Value.oneCell']) (by omega) (by simp only [maxLen]; omega) (by omega) hbs2 _ rfl ?_
                        intro gg cap y5 hown5 hgrow5 hat5 hlt5
                        have hb5 : Below w1.heap.size w1 y5 := hb03.grown hgrow5 hb03.size (fun k hk => Nat.le_trans hbs1 (ownBlk OW3.out hk).1)
                        have OW5 := Lib.hid hown5
                        have hbs5 : bs ≤ y5.heap.size := Nat.le_trans hbs2 hgrow5.size
                        clear hown5 hgrow5 hat5 hlt5 OW3 n3 hbs2 hb03
                        go_wp2
                        refine onlyNormal_mk ⟨⟨⟨_, hb5⟩, rfl⟩, ?_⟩
                        refine wpE_one (i := 14) rfl (by kernel_rfl) rfl ?_
                        unfold wpMid
                        simp only [opsAt_nil, opsAt_cons, consOpt_some, List.getElem?_toArray, List.getElem?_cons_zero, List.getElem?_cons_succ]
                        go_wp2_with (at_builtin; refine stp ?_)
                        unfold Stp
                        refine wpList_append_on _ rfl _ _ 39 rfl bs 3 i1 _ 1 8 Tryd.underlying39 hi1 hy0 hy1 hy2 rfl (by omega) gg (acc.length + 1) cap (intCells acc ++ [.int .i64 b]) rfl OW5.out w1.heap.size (some ⟨gA, 0, none⟩) 0 0 (intCells ([] : List Int)) rfl (by simp [intCells]) ((rd_nil0 (w := w1) (B := w1.heap.size) (A := some ⟨gA, 0, none⟩)).below hb5) (intCells_one _) (by simp only [maxLen]; omega) (by omega) hbs5 ?_
                        intro g9 cap9 y9 hown9 hgrow9 hat9
                        have hb9 : Below w1.heap.size w1 y9 := hb5.grown hgrow9 hb5.size (fun k hk => Nat.le_trans hbs1 (by rw [← Option.some.inj hk]; exact (ownBlk OW5.out rfl).1))
                        have HLI : Hid (acc.length + 1 + 0 = (insI b acc).length) := by rw [Hid, HINS.out]; simp <;> omega
                        have OW9 : Hid (y9.ownsRow w.heap.size 3 1 (.slice (some ⟨g9, 0, none⟩) (acc.length + 1 + 0) cap9) (acc.length + 1 + 0) (intCells (insI b acc))) := by
                          have h1 := ownsRow_more hown9 (base' := w.heap.size) (Nat.le_trans hsk hbs1)
                          have e2 : intCells (insI b acc) = intCells acc ++ [.int .i64 b] ++ intCells ([] : List Int) := by rw [HINS.out]; simp [intCells]
                          rw [Hid, e2]
                          exact h1
                        have HB9 := Lib.hid (HBK.out.trans (hb9.mono hsk))
                        clear hown9 hgrow9 hat9 OW5 hb5 hbs5 hbs1
                        go_wp2
                        refine onlyNormal_mk ⟨⟨⟨_, hb9⟩, rfl⟩, ?_⟩
                        refine wpE_tail rfl (by kernel_rfl) ?_
                        simp only [opsAt_nil, opsAt_cons, consOpt_some, List.getElem?_toArray, List.getElem?_cons_zero, List.getElem?_cons_succ]
                        go_wp2
                        refine onlyNormal_mk ?_
                        clear hb9
                        generalize acc.length + 1 + 0 = nn at *
                        have HREL : Hid (OpRel w L lim n FIN (.slice (some ⟨g9, 0, none⟩) nn cap9) (.int .i64 ((k : Int) + 1)) y9) := ⟨k + 1, insI b acc, by omega, by rw [insI_len]; omega, by simp, by have := OW9.out; rw [HLI.out] at this ⊢; exact this, (fun h0 => absurd (congrArg List.length h0) (by rw [insI_len]; simp)), HNX.out, HB9.out⟩
                        go_wp2
                        go_roundw
                        case rel =>
                          first
                            | exact HREL.out
                            | (repeat apply Exists.intro
                               exact ⟨HREL.out, rfl⟩)
                        case measure => simp [intOf]; omega
                    · go_upto_region 14 with fail
                      have x2 := fun y : Xt w1 => y.cell e2
                      refine wp_region_eager [15] (fun w' => ∃ y : Xt w1, w' = y.1) (by kernel_rfl) ⟨⟨w1.drew, (Below.refl _ _).drew⟩, rfl⟩ ?_
                      refine wpE_reads4 [0, 1, 2, 4, 5, 6, 7, 8, 11, 12, 13] 5 rfl (by kernel_rfl) ?_
                      simp only [opsAt_nil, opsAt_cons, consOpt_some, List.getElem?_toArray, List.getElem?_cons_zero, List.getElem?_cons_succ]
                      repeat (go_big_quiet_step (fail))
                      refine wpQuiet_nil ?_
                      have hbd : Below w1.heap.size w1 w1.drew := (Below.refl _ _).drew
                      show wpE _ _ _ _ _ _ _ _ _ w1.drew
                      clear x2
                      generalize w1.drew = wd at *
                      refine wpE_two (i := 3) (k := 9) rfl (by kernel_rfl) rfl rfl ?_ ?_
                      · unfold wpMid
                        simp only [opsAt_nil, opsAt_cons, consOpt_some, List.getElem?_toArray, List.getElem?_cons_zero, List.getElem?_cons_succ]
                        go_wp2_with (go_at_call 54; refine (CopyIntsH wd w1.heap.size (some ⟨gA, 0, none⟩) (acc.length) co acc rfl (by omega) (hrd1.below hbd) hbd.size).mono ?_; rintro e3 y2 ⟨g2, c2, rfl, hown2, hb2⟩)
                        have hb02 := hbd.trans (hb2.mono hbd.size)
                        refine onlyNormal_mk ⟨⟨⟨_, hb02⟩, rfl⟩, ?_⟩
                        refine wpE_one (i := 9) rfl (by kernel_rfl) rfl ?_
                        unfold wpMid
                        simp only [opsAt_nil, opsAt_cons, consOpt_some, List.getElem?_toArray, List.getElem?_cons_zero, List.getElem?_cons_succ]
                        go_wp2
                        have hb03 : Below w1.heap.size w1 (y2.alloc (.cells #[.int .i64 b] 3)) := hb02.alloc hb02.size _
                        have n3 : (y2.alloc (.cells #[.int .i64 b] 3)).cell? ⟨y2.heap.size, 0, none⟩ = some (.int .i64 b) := (cell_of_row _ _ 0 _ _ _ (by rw [heapq_alloc, if_pos rfl])).trans rfl
                        have OW3 : Hid ((y2.alloc (.cells #[.int .i64 b] 3)).ownsRow wd.heap.size 3 1 (.slice (some ⟨g2, 0, none⟩) (acc.length) c2) (acc.length) (intCells acc)) := hown2.alloc _
                        have hbs1 : w1.heap.size ≤ wd.heap.size := hbd.size
                        have hbs2 : wd.heap.size ≤ (y2.alloc (.cells #[.int .i64 b] 3)).heap.size := Nat.le_trans hb2.size ((Below.refl _ _).alloc (Nat.le_refl _) _ : Below y2.heap.size y2 _).size
                        clear hown2 hb2 hb02
                        generalize y2.alloc (.cells #[.int .i64 b] 3) = y3 at *
                        generalize y2.heap.size = gz at *
                        generalize wd.heap.size = bs at *
                        refine onlyNormal_mk ⟨⟨⟨_, hb03⟩, rfl⟩, ?_⟩
                        refine wpE_one (i := 10) rfl (by kernel_rfl) rfl ?_
                        unfold wpMid
                        simp only [opsAt_nil, opsAt_cons, consOpt_some, List.getElem?_toArray, List.getElem?_cons_zero, List.getElem?_cons_succ]
                        go_wp2_with (at_builtin; refine stp ?_)
                        unfold Stp
                        refine wpList_append_lies _ rfl _ _ 39 rfl bs 3 i1 _ 1 8 Tryd.underlying39 hi1 hy0 hy1 hy2 rfl (by omega) (.slice (some ⟨g2, 0, none⟩) acc.length c2) (acc.length) (intCells acc) rfl OW3.out ⟨gz, 0, none⟩ 1 1 [.int .i64 b] rfl rfl (news1 n3) (by simp [Value.oneCell']) (by omega) (by simp only [maxLen]; omega) (by omega) hbs2 _ rfl ?_
                        intro gg cap y5 hown5 hgrow5 hat5 hlt5
                        have hb5 : Below w1.heap.size w1 y5 := hb03.grown hgrow5 hb03.size (fun k hk => Nat.le_trans hbs1 (ownBlk OW3.out hk).1)
                        have OW5 := Lib.hid hown5
                        have hbs5 : bs ≤ y5.heap.size := Nat.le_trans hbs2 hgrow5.size
                        clear hown5 hgrow5 hat5 hlt5 OW3 n3 hbs2 hb03
                        go_wp2
                        refine onlyNormal_mk ⟨⟨⟨_, hb5⟩, rfl⟩, ?_⟩
                        refine wpE_one (i := 14) rfl (by kernel_rfl) rfl ?_
                        unfold wpMid
                        simp only [opsAt_nil, opsAt_cons, consOpt_some, List.getElem?_toArray, List.getElem?_cons_zero, List.getElem?_cons_succ]
                        go_wp2_with (at_builtin; refine stp ?_)
                        unfold Stp
                        refine wpList_append_on _ rfl _ _ 39 rfl bs 3 i1 _ 1 8 Tryd.underlying39 hi1 hy0 hy1 hy2 rfl (by omega) gg (acc.length + 1) cap (intCells acc ++ [.int .i64 b]) rfl OW5.out w1.heap.size (some ⟨gA, acc.length, none⟩) 0 (co - acc.length) (intCells ([] : List Int)) rfl (by simp [intCells]) ((rd_nil0 (w := w1) (B := w1.heap.size) (A := some ⟨gA, acc.length, none⟩)).below hb5) (intCells_one _) (by simp only [maxLen]; omega) (by omega) hbs5 ?_
                        intro g9 cap9 y9 hown9 hgrow9 hat9
                        have hb9 : Below w1.heap.size w1 y9 := hb5.grown hgrow9 hb5.size (fun k hk => Nat.le_trans hbs1 (by rw [← Option.some.inj hk]; exact (ownBlk OW5.out rfl).1))
                        have HLI : Hid (acc.length + 1 + 0 = (insI b acc).length) := by rw [Hid, HINS.out]; simp <;> omega
                        have OW9 : Hid (y9.ownsRow w.heap.size 3 1 (.slice (some ⟨g9, 0, none⟩) (acc.length + 1 + 0) cap9) (acc.length + 1 + 0) (intCells (insI b acc))) := by
                          have h1 := ownsRow_more hown9 (base' := w.heap.size) (Nat.le_trans hsk hbs1)
                          have e2 : intCells (insI b acc) = intCells acc ++ [.int .i64 b] ++ intCells ([] : List Int) := by rw [HINS.out]; simp [intCells]
                          rw [Hid, e2]
                          exact h1
                        have HB9 := Lib.hid (HBK.out.trans (hb9.mono hsk))
                        clear hown9 hgrow9 hat9 OW5 hb5 hbs5 hbs1
                        go_wp2
                        refine onlyNormal_mk ⟨⟨⟨_, hb9⟩, rfl⟩, ?_⟩
                        refine wpE_tail rfl (by kernel_rfl) ?_
                        simp only [opsAt_nil, opsAt_cons, consOpt_some, List.getElem?_toArray, List.getElem?_cons_zero, List.getElem?_cons_succ]
                        go_wp2
                        refine onlyNormal_mk ?_
                        clear hb9
                        generalize acc.length + 1 + 0 = nn at *
                        have HREL : Hid (OpRel w L lim n FIN (.slice (some ⟨g9, 0, none⟩) nn cap9) (.int .i64 ((k : Int) + 1)) y9) := ⟨k + 1, insI b acc, by omega, by rw [insI_len]; omega, by simp, by have := OW9.out; rw [HLI.out] at this ⊢; exact this, (fun h0 => absurd (congrArg List.length h0) (by rw [insI_len]; simp)), HNX.out, HB9.out⟩
                        go_wp2
                        go_roundw
                        case rel =>
                          first
                            | exact HREL.out
                            | (repeat apply Exists.intro
                               exact ⟨HREL.out, rfl⟩)
                        case measure => simp [intOf]; omega
                      · unfold wpMid
                        simp only [opsAt_nil, opsAt_cons, consOpt_some, List.getElem?_toArray, List.getElem?_cons_zero, List.getElem?_cons_succ]
                        go_wp2
                        have hb02 : Below w1.heap.size w1 (wd.alloc (.cells #[.int .i64 b] 3)) := hbd.alloc hbd.size _
                        have n2 : (wd.alloc (.cells #[.int .i64 b] 3)).cell? ⟨wd.heap.size, 0, none⟩ = some (.int .i64 b) := (cell_of_row _ _ 0 _ _ _ (by rw [heapq_alloc, if_pos rfl])).trans rfl
                        generalize wd.alloc (.cells #[.int .i64 b] 3) = y2 at *
                        generalize wd.heap.size = gz at *
                        refine onlyNormal_mk ⟨⟨⟨_, hb02⟩, rfl⟩, ?_⟩
                        refine wpE_one (i := 3) rfl (by kernel_rfl) rfl ?_
                        unfold wpMid
                        simp only [opsAt_nil, opsAt_cons, consOpt_some, List.getElem?_toArray, List.getElem?_cons_zero, List.getElem?_cons_succ]
                        go_wp2_with (go_at_call 54; refine (CopyIntsH y2 w1.heap.size (some ⟨gA, 0, none⟩) (acc.length) co acc rfl (by omega) (hrd1.below hb02) hb02.size).mono ?_; rintro e3 y3 ⟨g2, c2, rfl, hown2, hb2⟩)
                        have hb03 := hb02.trans (hb2.mono hb02.size)
                        have n3 := kept hb2 n2
                        have OW3 := Lib.hid hown2
                        have hbs1 : w1.heap.size ≤ y2.heap.size := hb02.size
                        have hbs2 : y2.heap.size ≤ y3.heap.size := hb2.size
                        clear hown2 hb2 hb02 n2
                        generalize y2.heap.size = bs at *
                        refine onlyNormal_mk ⟨⟨⟨_, hb03⟩, rfl⟩, ?_⟩
                        refine wpE_one (i := 10) rfl (by kernel_rfl) rfl ?_
                        unfold wpMid
                        simp only [opsAt_nil, opsAt_cons, consOpt_some, List.getElem?_toArray, List.getElem?_cons_zero, List.getElem?_cons_succ]
                        go_wp2_with (at_builtin; refine stp ?_)
                        unfold Stp
                        refine wpList_append_lies _ rfl _ _ 39 rfl bs 3 i1 _ 1 8 Tryd.underlying39 hi1 hy0 hy1 hy2 rfl (by omega) (.slice (some ⟨g2, 0, none⟩) acc.length c2) (acc.length) (intCells acc) rfl OW3.out ⟨gz, 0, none⟩ 1 1 [.int .i64 b] rfl rfl (news1 n3) (by simp [Value.oneCell']) (by omega) (by simp only [maxLen]; omega) (by omega) hbs2 _ rfl ?_
                        intro gg cap y5 hown5 hgrow5 hat5 hlt5
                        have hb5 : Below w1.heap.size w1 y5 := hb03.grown hgrow5 hb03.size (fun k hk => Nat.le_trans hbs1 (ownBlk OW3.out hk).1)
                        have OW5 := Lib.hid hown5
                        have hbs5 : bs ≤ y5.heap.size := Nat.le_trans hbs2 hgrow5.size
                        clear hown5 hgrow5 hat5 hlt5 OW3 n3 hbs2 hb03
                        go_wp2
                        refine onlyNormal_mk ⟨⟨⟨_, hb5⟩, rfl⟩, ?_⟩
                        refine wpE_one (i := 14) rfl (by kernel_rfl) rfl ?_
                        unfold wpMid
                        simp only [opsAt_nil, opsAt_cons, consOpt_some, List.getElem?_toArray, List.getElem?_cons_zero, List.getElem?_cons_succ]
                        go_wp2_with (at_builtin; refine stp ?_)
                        unfold Stp
                        refine wpList_append_on _ rfl _ _ 39 rfl bs 3 i1 _ 1 8 Tryd.underlying39 hi1 hy0 hy1 hy2 rfl (by omega) gg (acc.length + 1) cap (intCells acc ++ [.int .i64 b]) rfl OW5.out w1.heap.size (some ⟨gA, acc.length, none⟩) 0 (co - acc.length) (intCells ([] : List Int)) rfl (by simp [intCells]) ((rd_nil0 (w := w1) (B := w1.heap.size) (A := some ⟨gA, acc.length, none⟩)).below hb5) (intCells_one _) (by simp only [maxLen]; omega) (by omega) hbs5 ?_
                        intro g9 cap9 y9 hown9 hgrow9 hat9
                        have hb9 : Below w1.heap.size w1 y9 := hb5.grown hgrow9 hb5.size (fun k hk => Nat.le_trans hbs1 (by rw [← Option.some.inj hk]; exact (ownBlk OW5.out rfl).1))
                        have HLI : Hid (acc.length + 1 + 0 = (insI b acc).length) := by rw [Hid, HINS.out]; simp <;> omega
                        have OW9 : Hid (y9.ownsRow w.heap.size 3 1 (.slice (some ⟨g9, 0, none⟩) (acc.length + 1 + 0) cap9) (acc.length + 1 + 0) (intCells (insI b acc))) := by
                          have h1 := ownsRow_more hown9 (base' := w.heap.size) (Nat.le_trans hsk hbs1)
                          have e2 : intCells (insI b acc) = intCells acc ++ [.int .i64 b] ++ intCells ([] : List Int) := by rw [HINS.out]; simp [intCells]
                          rw [Hid, e2]
                          exact h1
                        have HB9 := Lib.hid (HBK.out.trans (hb9.mono hsk))
                        clear hown9 hgrow9 hat9 OW5 hb5 hbs5 hbs1
                        go_wp2
                        refine onlyNormal_mk ⟨⟨⟨_, hb9⟩, rfl⟩, ?_⟩
                        refine wpE_tail rfl (by kernel_rfl) ?_
                        simp only [opsAt_nil, opsAt_cons, consOpt_some, List.getElem?_toArray, List.getElem?_cons_zero, List.getElem?_cons_succ]
                        go_wp2
                        refine onlyNormal_mk ?_
                        clear hb9
                        generalize acc.length + 1 + 0 = nn at *
                        have HREL : Hid (OpRel w L lim n FIN (.slice (some ⟨g9, 0, none⟩) nn cap9) (.int .i64 ((k : Int) + 1)) y9) := ⟨k + 1, insI b acc, by omega, by rw [insI_len]; omega, by simp, by have := OW9.out; rw [HLI.out] at this ⊢; exact this, (fun h0 => absurd (congrArg List.length h0) (by rw [insI_len]; simp)), HNX.out, HB9.out⟩
                        go_wp2
                        go_roundw
                        case rel =>
                          first
                            | exact HREL.out
                            | (repeat apply Exists.intro
                               exact ⟨HREL.out, rfl⟩)
                        case measure => simp [intOf]; omega
    · have HFE : Hid (acc = FIN) := by
        have := HGO.out
        rw [List.drop_eq_nil_iff.2 (by rw [HLL.out]; omega), openGo] at this
        exact this
      go_wp2
      go_ret
      exact ⟨Ao, co, by rw [← HFE.out]; rfl, by rw [← HFE.out]; exact rd_own HOWN.out, HBK.out⟩
end Go.Proofs.YtmcjnfghlpnghaaDoor

namespace Go.Proofs.YtmcjnfghlpnghaaDoor
open Go.RowKit

theorem openGo_len (lim : Int) : ∀ (l : List Fnd) (acc : List Int), (openGo lim acc l).length ≤ acc.length + l.length
  | [], acc => by simp [openGo]
  | f :: l, acc => by
    rw [openGo]
    refine Nat.le_trans (openGo_len lim l _) ?_
    split
    · simp
    · rw [insI_len]
      simp
      omega
theorem openM_len (l : List Fnd) (lim : Int) : (openM l lim).length ≤ l.length := by simpa [openM] using openGo_len lim l []
theorem hasI_mem {l : List Int} {x : Int} : hasI l x = true ↔ x ∈ l := by simp [hasI]
def NamesRel (w0 : World) (l : List Fd) (n : Nat) (u : Value) (wr : World) : Prop := ∃ k : Nat, k ≤ n ∧ u = .int .i64 k ∧ (∀ x ∈ l.take k, x.1.size ≤ 20) ∧ Below w0.heap.size w0 wr
def OutRelL (w0 : World) (n : Nat) (u : Value) (wr : World) : Prop := ∃ k : Nat, k ≤ n ∧ u = .int .i64 k ∧ Below w0.heap.size w0 wr

set_option maxRecDepth 100000 in
set_option maxHeartbeats 16000000 in
theorem CareFindings_all (w : World) (A : Option Addr) (n c : Nat) (l : List Fd) (lim : Int) (hk : KindsAt w) (hl : l.length = n) (hr : Rd w w.heap.size A (fdCells l)) :
    Calls Tryd.prog 8 #[.slice A n c, .int .i64 lim] w (AwakePost w) := by
  have HB : Hid (Below w.heap.size w w) := Below.refl _ _
  have hs : w.heap.size ≤ w.heap.size := Nat.le_refl _
  have A0 := awake_any _ hk
  have HL := Lib.hid hl
  clear hl hk
  go_enter Tryd.func8, Tryd.ntmps8
  go_upto_region 1 with (fail)
  go_wp2_with fail
  refine (A0).mono ?_
  rintro e w1 ⟨rfl, hb1⟩
  replace hr := hr.below (hb1)
  replace HB := Lib.hid (HB.out.trans (hb1))
  replace hs := Nat.le_trans hs hb1.size
  clear hb1
  clear A0
  by_cases g1 : (12 : Int) < (n : Int)
  · by_cases g2 : (n : Int) ≤ 100
    · go_wp2
      go_ret
      exact ⟨rfl, HB.out⟩
    · by_cases g3 : (102 : Int) < (n : Int)
      · go_wp2
        go_ret
        exact ⟨rfl, HB.out⟩
      · go_upto_region 5 with fail
        have HRL : Hid (NamesRel w1 l n (.int .i64 0) w1) := ⟨0, Nat.zero_le _, rfl, fun x hx => by simp at hx, Below.refl _ _⟩
        go_wp2
        go_loopw [5] (fun u wr => NamesRel w1 l n u wr) (fun u _ => n - (intOf u).toNat)
        case atStart => exact HRL.out
        case round =>
          clear HRL
          obtain ⟨k, hk, rfl, hle, hb1⟩ := hrel
          have HLE := Lib.hid hle
          replace hr := hr.below (hb1.mono hs)
          have HBK := Lib.hid hb1
          have HBW := Lib.hid (HB.out.trans (hb1.mono hs))
          have hsk := Nat.le_trans hs hb1.size
          clear hb1 hle
          by_cases hlt : k < n
          · have hkl : k < l.length := by rw [HL.out]; exact hlt
            obtain ⟨ev, hev⟩ : ∃ ev, l[k]? = some ev := ⟨_, List.getElem?_eq_getElem hkl⟩
            obtain ⟨z0, z1, z2, z3⟩ := fdCells_at l k ev hev
            have hr' := hr
            obtain ⟨bb, off, rfl, hbB, e0, e1, e2, e3⟩ := hr'.at4 z0 z1 z2 z3
            have HTK : Hid (l.take (k + 1) = l.take k ++ [ev]) := by rw [Hid, List.take_add_one, hev]; rfl
            clear hr' z0 z1 z2 z3 e1 e2 e3 hkl hev
            by_cases h20 : ev.1.size ≤ 20
            · have h20i : ¬ (20 : Int) < (ev.1.size : Int) := by omega
              go_wp2
              go_roundw
              case rel =>
                refine ⟨k + 1, by omega, by go_num, fun x hx => ?_, HBK.out⟩
                rw [HTK.out, List.mem_append, List.mem_singleton] at hx
                rcases hx with hx | rfl
                · exact HLE.out x hx
                · exact h20
              case measure => simp [intOf]; omega
            · have h20i : (20 : Int) < (ev.1.size : Int) := by omega
              go_wp2
              go_ret
              exact ⟨rfl, HBW.out⟩
          · have HZ : Hid (∀ x ∈ l, x.1.size ≤ 1000000000) := fun x hx => by
              have := HLE.out x (by rw [List.take_of_length_le (by rw [HL.out]; omega)]; exact hx)
              omega
            go_upto_region 10 with fail
            clear HLE HBK hlt hs HB
            have HB := Lib.hid HBW.out
            have hs := hsk
            clear HBW hsk
            generalize wr = w2 at *
            have hV : fdM l ≠ 0 := by
              rw [fdM, if_neg (by rw [HL.out]; omega)]
              decide
            have HEE : Hid (openErr l lim = fdM l) := by rw [Hid, openErr, if_neg hV]
            have OP := fun W0 A1 c1 (h1 : Rd W0 W0.heap.size A1 (fdCells l)) => OpenOf_any W0 W0.heap.size A1 n c1 l lim HL.out h1 (Nat.le_refl _) (by omega) (fun _ => HZ.out) _ HEE.out
            have FE := fun W0 (h1 : Rd W0 w.heap.size A (fdCells l)) (h2 : w.heap.size ≤ W0.heap.size) => FindingsErr_any W0 w.heap.size A n c l HL.out h1 h2 (by omega) (fun _ => HZ.out)
            unfold ErrVal at FE
            simp only [openO_no hV] at OP
            generalize fdM l = er at *
            have e9 : (er != 0) = true := bne_iff_ne.2 hV
            have e8 : (er == 0) = false := beq_eq_false_iff_ne.2 hV
            go_wp2_with fail
            refine (CopyFindings_any w2 w.heap.size A n c l HL.out (by omega) hr hs).mono ?_
            rintro e w3 ⟨A1, c1, rfl, hp, hb1⟩
            replace hr := hr.below (hb1.mono hs)
            replace HB := Lib.hid (HB.out.trans (hb1.mono hs))
            replace hs := Nat.le_trans hs hb1.size
            clear hb1
            go_upto_region 11 with (go_at_call 46; refine (OP w3 A1 c1 hp).mono ?_; rintro e w4 ⟨v, rfl, rfl, hb1⟩)
            replace hr := hr.below (hb1.mono hs)
            replace hp := (hp.below hb1).mono hb1.size
            replace HB := Lib.hid (HB.out.trans (hb1.mono hs))
            replace hs := Nat.le_trans hs hb1.size
            clear hb1
            clear hp
            go_upto_region 12 with (go_at_call 48; refine (FE w4 hr hs).mono ?_; rintro e w5 ⟨rfl, hb1⟩)
            replace hr := hr.below (hb1.mono hs)
            replace HB := Lib.hid (HB.out.trans (hb1.mono hs))
            replace hs := Nat.le_trans hs hb1.size
            clear hb1
            go_wp2
            go_ret
            exact ⟨rfl, HB.out⟩
  · have g3 : ¬ (102 : Int) < (n : Int) := by omega
    go_upto_region 5 with fail
    have HRL : Hid (NamesRel w1 l n (.int .i64 0) w1) := ⟨0, Nat.zero_le _, rfl, fun x hx => by simp at hx, Below.refl _ _⟩
    go_wp2
    go_loopw [5] (fun u wr => NamesRel w1 l n u wr) (fun u _ => n - (intOf u).toNat)
    case atStart => exact HRL.out
    case round =>
      clear HRL
      obtain ⟨k, hk, rfl, hle, hb1⟩ := hrel
      have HLE := Lib.hid hle
      replace hr := hr.below (hb1.mono hs)
      have HBK := Lib.hid hb1
      have HBW := Lib.hid (HB.out.trans (hb1.mono hs))
      have hsk := Nat.le_trans hs hb1.size
      clear hb1 hle
      by_cases hlt : k < n
      · have hkl : k < l.length := by rw [HL.out]; exact hlt
        obtain ⟨ev, hev⟩ : ∃ ev, l[k]? = some ev := ⟨_, List.getElem?_eq_getElem hkl⟩
        obtain ⟨z0, z1, z2, z3⟩ := fdCells_at l k ev hev
        have hr' := hr
        obtain ⟨bb, off, rfl, hbB, e0, e1, e2, e3⟩ := hr'.at4 z0 z1 z2 z3
        have HTK : Hid (l.take (k + 1) = l.take k ++ [ev]) := by rw [Hid, List.take_add_one, hev]; rfl
        clear hr' z0 z1 z2 z3 e1 e2 e3 hkl hev
        by_cases h20 : ev.1.size ≤ 20
        · have h20i : ¬ (20 : Int) < (ev.1.size : Int) := by omega
          go_wp2
          go_roundw
          case rel =>
            refine ⟨k + 1, by omega, by go_num, fun x hx => ?_, HBK.out⟩
            rw [HTK.out, List.mem_append, List.mem_singleton] at hx
            rcases hx with hx | rfl
            · exact HLE.out x hx
            · exact h20
          case measure => simp [intOf]; omega
        · have h20i : (20 : Int) < (ev.1.size : Int) := by omega
          go_wp2
          go_ret
          exact ⟨rfl, HBW.out⟩
      · have HZ : Hid (∀ x ∈ l, x.1.size ≤ 1000000000) := fun x hx => by
          have := HLE.out x (by rw [List.take_of_length_le (by rw [HL.out]; omega)]; exact hx)
          omega
        go_upto_region 10 with fail
        clear HLE HBK hlt hs HB
        have HB := Lib.hid HBW.out
        have hs := hsk
        clear HBW hsk
        generalize wr = w2 at *
        by_cases hV : fdM l = 0
        · cases ql : withinB lim 0 10000 with
          | false =>
            have HEE : Hid (openErr l lim = 2) := by rw [Hid, openErr, if_pos hV, ql]; rfl
            have OP := fun W0 A1 c1 (h1 : Rd W0 W0.heap.size A1 (fdCells l)) => OpenOf_any W0 W0.heap.size A1 n c1 l lim HL.out h1 (Nat.le_refl _) (by omega) (fun _ => HZ.out) _ HEE.out
            have FE := fun W0 (h1 : Rd W0 w.heap.size A (fdCells l)) (h2 : w.heap.size ≤ W0.heap.size) => FindingsErr_any W0 w.heap.size A n c l HL.out h1 h2 (by omega) (fun _ => HZ.out)
            unfold ErrVal at FE
            simp only [openO_no (show (2 : Int) ≠ 0 by decide)] at OP
            simp only [hV] at FE
            go_wp2_with fail
            refine (CopyFindings_any w2 w.heap.size A n c l HL.out (by omega) hr hs).mono ?_
            rintro e w3 ⟨A1, c1, rfl, hp, hb1⟩
            replace hr := hr.below (hb1.mono hs)
            replace HB := Lib.hid (HB.out.trans (hb1.mono hs))
            replace hs := Nat.le_trans hs hb1.size
            clear hb1
            go_upto_region 11 with (go_at_call 46; refine (OP w3 A1 c1 hp).mono ?_; rintro e w4 ⟨v, rfl, rfl, hb1⟩)
            replace hr := hr.below (hb1.mono hs)
            replace hp := (hp.below hb1).mono hb1.size
            replace HB := Lib.hid (HB.out.trans (hb1.mono hs))
            replace hs := Nat.le_trans hs hb1.size
            clear hb1
            clear hp
            go_upto_region 12 with (go_at_call 48; refine (FE w4 hr hs).mono ?_; rintro e w5 ⟨rfl, hb1⟩)
            replace hr := hr.below (hb1.mono hs)
            replace HB := Lib.hid (HB.out.trans (hb1.mono hs))
            replace hs := Nat.le_trans hs hb1.size
            clear hb1
            go_wp2_with (go_at_call 49; refine (Within_val _ _ _ _ ql _).mono ?_; rintro e w' ⟨rfl, rfl⟩)
            go_ret
            exact ⟨rfl, HB.out⟩
          | true =>
            have hlim : 0 ≤ lim ∧ lim ≤ 10000 := by simpa [withinB] using ql
            obtain ⟨lim2, hl2⟩ : ∃ x, min (lim + 1) 10000 = x := ⟨_, rfl⟩
            have hlim2 : 0 ≤ lim2 ∧ lim2 ≤ 10000 ∧ lim ≤ lim2 := by omega
            have q2 : withinB lim2 0 10000 = true := by simp [withinB, hlim2.1, hlim2.2.1]
            have HE1 : Hid (openErr l lim = 0) := by rw [Hid, openErr, if_pos hV, ql]; rfl
            have HE2 : Hid (openErr l lim2 = 0) := by rw [Hid, openErr, if_pos hV, q2]; rfl
            obtain ⟨T, hT⟩ : ∃ T, openM (l.map fdF) lim = T := ⟨_, rfl⟩
            obtain ⟨T2, hT2⟩ : ∃ T, openM (l.map fdF) lim2 = T := ⟨_, rfl⟩
            have HSUB : Hid (∀ x ∈ T2, x ∈ T) := fun x hx => by rw [← hT]; exact open_sub hlim2.2.2 (by rw [hT2]; exact hx)
            have hTl : T.length ≤ n := by have := openM_len (l.map fdF) lim; rw [hT, List.length_map, HL.out] at this; exact this
            have hTl2 : T2.length ≤ n := by have := openM_len (l.map fdF) lim2; rw [hT2, List.length_map, HL.out] at this; exact this
            have OP := fun W0 A1 c1 (h1 : Rd W0 W0.heap.size A1 (fdCells l)) => OpenOf_any W0 W0.heap.size A1 n c1 l lim HL.out h1 (Nat.le_refl _) (by omega) (fun _ => HZ.out) _ HE1.out
            have OP2 := fun W0 A1 c1 (h1 : Rd W0 W0.heap.size A1 (fdCells l)) => OpenOf_any W0 W0.heap.size A1 n c1 l lim2 HL.out h1 (Nat.le_refl _) (by omega) (fun _ => HZ.out) _ HE2.out
            have FE := fun W0 (h1 : Rd W0 w.heap.size A (fdCells l)) (h2 : w.heap.size ≤ W0.heap.size) => FindingsErr_any W0 w.heap.size A n c l HL.out h1 h2 (by omega) (fun _ => HZ.out)
            have RO := fun W0 (h1 : Rd W0 w.heap.size A (fdCells l)) (h2 : w.heap.size ≤ W0.heap.size) => refOpenOf_any W0 w.heap.size A n c l lim HL.out h1 h2 (by omega) hlim hV
            unfold ErrVal at FE
            simp only [openO_yes] at OP OP2
            simp only [hV] at FE
            rw [hT] at OP RO
            rw [hT2] at OP2
            clear hT hT2 q2 HE1 HE2 hV
            go_wp2_with fail
            refine (CopyFindings_any w2 w.heap.size A n c l HL.out (by omega) hr hs).mono ?_
            rintro e w3 ⟨A1, c1, rfl, hp, hb1⟩
            replace hr := hr.below (hb1.mono hs)
            replace HB := Lib.hid (HB.out.trans (hb1.mono hs))
            replace hs := Nat.le_trans hs hb1.size
            clear hb1
            go_upto_region 11 with (go_at_call 46; refine (OP w3 A1 c1 hp).mono ?_; rintro e w4 ⟨v, rfl, ⟨A2, c2, rfl, ht⟩, hb1⟩)
            replace hr := hr.below (hb1.mono hs)
            replace hp := (hp.below hb1).mono hb1.size
            replace HB := Lib.hid (HB.out.trans (hb1.mono hs))
            replace hs := Nat.le_trans hs hb1.size
            clear hb1
            clear hp
            clear OP
            go_upto_region 12 with (go_at_call 48; refine (FE w4 hr hs).mono ?_; rintro e w5 ⟨rfl, hb1⟩)
            replace hr := hr.below (hb1.mono hs)
            replace ht := (ht.below hb1).mono hb1.size
            replace HB := Lib.hid (HB.out.trans (hb1.mono hs))
            replace hs := Nat.le_trans hs hb1.size
            clear hb1
            clear FE
            go_upto_region 14 with (go_at_call 49; refine (Within_val _ _ _ _ ql _).mono ?_; rintro e w' ⟨rfl, rfl⟩)
            clear ql
            go_wp2_with (go_at_call 51; refine (RO w5 hr hs).mono ?_; rintro e w6 ⟨A3, c3, rfl, hu, hb1⟩)
            replace hr := hr.below (hb1.mono hs)
            replace ht := (ht.below hb1).mono hb1.size
            replace HB := Lib.hid (HB.out.trans (hb1.mono hs))
            replace hs := Nat.le_trans hs hb1.size
            clear hb1
            clear RO
            go_upto_region 18 with (go_at_call 50; refine (Ints_same A2 A3 T.length c2 c3 w6.heap.size w6.heap.size T w6 (by omega) rfl ht hu (Nat.le_refl _) (Nat.le_refl _)).mono ?_; rintro e w7 ⟨rfl, hb1⟩)
            replace hr := hr.below (hb1.mono hs)
            replace ht := (ht.below hb1).mono hb1.size
            replace hu := (hu.below hb1).mono hb1.size
            replace HB := Lib.hid (HB.out.trans (hb1.mono hs))
            replace hs := Nat.le_trans hs hb1.size
            clear hb1
            clear hu
            go_wp2_with fail
            refine (CopyFindings_any w7 w.heap.size A n c l HL.out (by omega) hr hs).mono ?_
            rintro e w8 ⟨A1, c1, rfl, hp, hb1⟩
            replace hr := hr.below (hb1.mono hs)
            replace ht := (ht.below hb1).mono hb1.size
            replace HB := Lib.hid (HB.out.trans (hb1.mono hs))
            replace hs := Nat.le_trans hs hb1.size
            clear hb1
            go_upto_region 19 with (first | (go_at_call 46; refine (OP2 w8 A1 c1 hp).mono ?_; rintro e w9 ⟨v, rfl, ⟨A4, c4, rfl, hu⟩, hb1⟩))
            replace hr := hr.below (hb1.mono hs)
            replace ht := (ht.below hb1).mono hb1.size
            replace hp := (hp.below hb1).mono hb1.size
            replace HB := Lib.hid (HB.out.trans (hb1.mono hs))
            replace hs := Nat.le_trans hs hb1.size
            clear hb1
            clear hp
            clear OP2
            go_upto_region 21 with fail
            go_wp2
            have HRL : Hid (OutRelL w9 T2.length (.int .i64 0) w9) := ⟨0, Nat.zero_le _, rfl, Below.refl _ _⟩
            go_loopw [11] (fun u wr => OutRelL w9 T2.length u wr) (fun u _ => T2.length - (intOf u).toNat)
            case atStart => exact HRL.out
            case round =>
              clear HRL
              obtain ⟨k, hk, rfl, hb1⟩ := hrel
              have HBK := Lib.hid hb1
              replace hr := hr.below (hb1.mono hs)
              replace ht := (ht.below hb1).mono hb1.size
              replace hu := (hu.below hb1).mono hb1.size
              replace HB := Lib.hid (HB.out.trans (hb1.mono hs))
              replace hs := Nat.le_trans hs hb1.size
              clear hb1
              by_cases hlt : k < T2.length
              · have hu' := hu
                obtain ⟨bb, off, rfl, _, d0⟩ := hu'.at_ (intCells_at T2 k hlt)
                have hmem : hasI T (T2[k]?.getD 0) = true := by
                  rw [hasI_mem]
                  exact HSUB.out _ (by rw [List.getElem?_eq_getElem hlt]; exact List.getElem_mem hlt)
                clear hu'
                generalize T2[k]?.getD 0 = x at *
                have HS := Has_any A2 T.length c2 wr.heap.size T x wr (by omega) rfl ht
                simp only [hmem] at HS
                go_wp2_with (go_at_call 52; refine HS.mono ?_; rintro e w' ⟨rfl, rfl⟩)
                go_roundw
                case rel => exact ⟨k + 1, by omega, by go_num, HBK.out⟩
                case measure => simp [intOf]; omega
              · go_wp2
                go_ret
                exact ⟨rfl, HB.out⟩
        · have HEE : Hid (openErr l lim = fdM l) := by rw [Hid, openErr, if_neg hV]
          have OP := fun W0 A1 c1 (h1 : Rd W0 W0.heap.size A1 (fdCells l)) => OpenOf_any W0 W0.heap.size A1 n c1 l lim HL.out h1 (Nat.le_refl _) (by omega) (fun _ => HZ.out) _ HEE.out
          have FE := fun W0 (h1 : Rd W0 w.heap.size A (fdCells l)) (h2 : w.heap.size ≤ W0.heap.size) => FindingsErr_any W0 w.heap.size A n c l HL.out h1 h2 (by omega) (fun _ => HZ.out)
          unfold ErrVal at FE
          simp only [openO_no hV] at OP
          generalize fdM l = er at *
          have e9 : (er != 0) = true := bne_iff_ne.2 hV
          have e8 : (er == 0) = false := beq_eq_false_iff_ne.2 hV
          go_wp2_with fail
          refine (CopyFindings_any w2 w.heap.size A n c l HL.out (by omega) hr hs).mono ?_
          rintro e w3 ⟨A1, c1, rfl, hp, hb1⟩
          replace hr := hr.below (hb1.mono hs)
          replace HB := Lib.hid (HB.out.trans (hb1.mono hs))
          replace hs := Nat.le_trans hs hb1.size
          clear hb1
          go_upto_region 11 with (go_at_call 46; refine (OP w3 A1 c1 hp).mono ?_; rintro e w4 ⟨v, rfl, rfl, hb1⟩)
          replace hr := hr.below (hb1.mono hs)
          replace hp := (hp.below hb1).mono hb1.size
          replace HB := Lib.hid (HB.out.trans (hb1.mono hs))
          replace hs := Nat.le_trans hs hb1.size
          clear hb1
          clear hp
          go_upto_region 12 with (go_at_call 48; refine (FE w4 hr hs).mono ?_; rintro e w5 ⟨rfl, hb1⟩)
          replace hr := hr.below (hb1.mono hs)
          replace HB := Lib.hid (HB.out.trans (hb1.mono hs))
          replace hs := Nat.le_trans hs hb1.size
          clear hb1
          go_wp2
          go_ret
          exact ⟨rfl, HB.out⟩
end Go.Proofs.YtmcjnfghlpnghaaDoor

namespace Go.Proofs.YtmcjnfghlpnghaaDoor
open Go.ChangeShapes Go.WideShapes Go.Deep Go.RowKit Go Go.Joins

section
variable {H : Type} {enc : TypeId × Value → H} {w : World} {base : Nat} {spare : Nat → Bool} {held : Bool}

theorem ofc74 : Tryd.prog.cellsOf 74 = 4 := by kernel_rfl
set_option maxRecDepth 100000 in
theorem open_finding {n : Nat} {cs : List Value} {y : DataW H × List MemPlace} (h : DataW.trod enc Tryd.prog w base spare held n 74 cs = some y) : ∃ e : Fd, cs = fdVals e := by
  obtain ⟨xs, n, _, _, hl, hlen, hf⟩ := DataW.trod_struct Tryd.underlying74 h
  match xs, hlen with
  | [y0, y1, y2, y3], _ =>
    rw [ofc74] at hl
    match cs, hl with
    | [a, b, c, d], _ =>
      have h0 : DataW.trod enc Tryd.prog w base spare held n 9 (([a, b, c, d].drop 0).take (Tryd.prog.cellsOf 9)) = some y0 := hf 0 _ rfl
      have h1 : DataW.trod enc Tryd.prog w base spare held n 3 (([a, b, c, d].drop 1).take (Tryd.prog.cellsOf 3)) = some y1 := hf 1 _ rfl
      have h2 : DataW.trod enc Tryd.prog w base spare held n 3 (([a, b, c, d].drop 2).take (Tryd.prog.cellsOf 3)) = some y2 := hf 2 _ rfl
      have h3 : DataW.trod enc Tryd.prog w base spare held n 3 (([a, b, c, d].drop 3).take (Tryd.prog.cellsOf 3)) = some y3 := hf 3 _ rfl
      rw [cells9] at h0
      rw [ofc3] at h1 h2 h3
      simp only [List.drop_zero, List.take_succ_cons, List.take_zero, List.drop_succ_cons] at h0 h1 h2 h3
      obtain ⟨s, e0, _⟩ := DataW.trod_string Tryd.underlying9 h0
      obtain ⟨i, e1, _⟩ := DataW.trod_int Tryd.underlying3 h1
      obtain ⟨j, e2, _⟩ := DataW.trod_int Tryd.underlying3 h2
      obtain ⟨k, e3, _⟩ := DataW.trod_int Tryd.underlying3 h3
      simp only [List.cons.injEq, and_true] at e0 e1 e2 e3
      subst e0 e1 e2 e3
      exact ⟨(s, i, j, k), rfl⟩
theorem open_findings {fuel : Nat} {cs : List Value} {x : DataW H × List MemPlace} (h : DataW.trod enc Tryd.prog w base spare held fuel 72 cs = some x) :
    ∃ A n c, ∃ l : List Fd, cs = [.slice A n c] ∧ l.length = n ∧ n ≤ maxLen ∧ Rd w w.heap.size A (fdCells l) :=
  open_rows (P := Tryd.prog) (k := 4) fdVals Tryd.underlying72 ofc74 (fun _ => rfl) (fun _ _ _ hy => open_finding hy) h
end
end Go.Proofs.YtmcjnfghlpnghaaDoor
