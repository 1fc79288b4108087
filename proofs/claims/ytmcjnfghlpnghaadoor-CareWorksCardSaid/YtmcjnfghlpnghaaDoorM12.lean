/- What other texts lend to this one: only the declarations that are used. Windows for jobs: both searches find the same first ones, and more hours do no harm: plain. Work: its error, and what is accepted: plain. Work: the copy, few jobs, the closures of its error. Work: the error of work. place: the windows that the code finds. FirstWork: what the code returns. CheckWork: what the code answers. Work in the reference: its error. Work in the reference: what windows are accepted. Work in the reference: what windows are accepted, and the first ones. CopyWork: the copy lies in memory of its own. CareWorks: the walk. Arguments opened: work. -/
import Derived.Test.YtmcjnfghlpnghaaDoorM8
import Derived.Test.YtmcjnfghlpnghaaDoorW6
import Derived.Test.YtmcjnfghlpnghaaDoorC1
import Derived.Test.YtmcjnfghlpnghaaDoorC2
import Derived.Test.YtmcjnfghlpnghaaDoorX1
import Derived.Test.YtmcjnfghlpnghaaDoorProg
import Derived.Test.YtmcjnfghlpnghaaDoorW4
import Derived.Test.YtmcjnfghlpnghaaDoorM2
import Derived.Test.YtmcjnfghlpnghaaDoorR4
import Derived.Maps.OwnSet
import Derived.Test.YtmcjnfghlpnghaaDoorE1
import Derived.Test.YtmcjnfghlpnghaaDoorM4
namespace Go.Proofs.YtmcjnfghlpnghaaDoor
open Go.RowKit
/-- the best set so far, as a value -/
def BestAt (w : World) : Option (List Nat) → Value → Prop
  | none, v => v = .slice none 0 0
  | some T, v => ∃ b cap, v = .slice (some ⟨b, 0, none⟩) T.length cap ∧ Rd w w.heap.size (some ⟨b, 0, none⟩) (natCells T)
theorem BestAt.below {w w' : World} {o : Option (List Nat)} {v : Value} (h : BestAt w o v) (hb : Below w.heap.size w w') : BestAt w' o v := by
  cases o with
  | none => exact h
  | some T =>
    obtain ⟨b, cap, h1, h2⟩ := h
    exact ⟨b, cap, h1, (h2.below hb).mono hb.size⟩
end Go.Proofs.YtmcjnfghlpnghaaDoor
namespace Go.Proofs.YtmcjnfghlpnghaaDoor
open Go.RowKit
theorem own_cap {w : World} {B e size n c : Nat} {A : Option Addr} {xs : List Value} (h : w.ownsRow B e size (.slice A n c) n xs) : n ≤ c := by
  rcases h.2 with ⟨h1, h2⟩ | ⟨g, cap, cur, h1, _, _, h3, _⟩
  · omega
  · simp only [Value.slice.injEq] at h1
    omega
/-- an append of a whole list to a slice of the call's own -/
theorem wpList_append_on (w : World) {ops : Array Oper} {rest : List Oper} {o : Oper} {a : Act} {Q : Exit → Act → World → Prop} (hgd : o.guard = none) (s x : Operand) (t : TypeId)
    (ho : o.op = .call { callee := .builtin .append, args := #[s, x], argTypes := #[t, t] })
    (base : Nat) (e : TypeId) (i : TypeInfo) (z : Value) (size bytes : Nat) (ht : Tryd.prog.underlying t = some (.slice e)) (hi : Tryd.prog.info? e = some i) (hz : i.zero = some z)
    (hsize : i.size = size) (hby : i.bytes = bytes) (hzs : z.cells.size = size) (hsz : 0 < size)
    (g0 n0 cap0 : Nat) (olds : List Value) (hs : a.eval s = .slice (some ⟨g0, 0, none⟩) n0 cap0) (hown : w.ownsRow base e size (.slice (some ⟨g0, 0, none⟩) n0 cap0) n0 olds)
    (B : Nat) (A : Option Addr) (m c : Nat) (news : List Value) (hx : a.eval x = .slice A m c) (hl : news.length = m * size) (hrd : Rd w B A news) (h1 : ∀ u ∈ news, u.oneCell' = true)
    (h63 : n0 + m ≤ maxLen) (hbytes : (n0 + m) * bytes ≤ 140737488355328) (hbase : base ≤ w.heap.size)
    (h : ∀ g cap w', w'.ownsRow base e size (.slice (some ⟨g, 0, none⟩) (n0 + m) cap) (n0 + m) (olds ++ news) → w.grownBy w' (some g0) → (g0 = g ∨ g = w.heap.size) → wpList Tryd.prog ops Q rest (a.put o.dst (.slice (some ⟨g, 0, none⟩) (n0 + m) cap)) w') : wpList Tryd.prog ops Q (o :: rest) a w := by
  rcases Nat.eq_zero_or_pos m with rfl | hm
  · have hn : news = [] := by simpa using hl
    subst hn
    refine wpList_plain hgd fun K hK' => ?_
    have hr := run_append_nothing (P := Tryd.prog) w t t o.type e i ht hi (some ⟨g0, 0, none⟩) n0 cap0 (own_cap hown) (.slice A 0 c) ?_
    · unfold Oper.wp
      simp [execOp, ho, resolve, invoke, builtin, hs, hx, hr, Result.andThen]
      exact hK' _ _ (h g0 cap0 w (by simpa using hown) ⟨rfl, rfl, rfl, Nat.le_refl _, fun _ _ _ => rfl⟩ (.inl rfl))
    · rw [hsize]
      cases A with
      | none => exact Src.ofNil w ht c
      | some ad => exact Src.ofSlice w ht ad 0 c [] (by simp) (fun j u hu => by simp at hu) (fun u hu => by simp at hu)
  · have hlen : 0 < news.length := by rw [hl]; exact Nat.mul_pos hm hsz
    obtain ⟨b, off, rfl, _, _⟩ := hrd 0 _ (List.getElem?_eq_getElem hlen)
    refine wpList_append_lies w hgd s x t ho base e i z size bytes ht hi hz hsize hby hzs hsz (.slice (some ⟨g0, 0, none⟩) n0 cap0) n0 olds hs hown ⟨b, off, none⟩ m c news hx hl ?_ h1 hm h63 hbytes hbase _ rfl ?_
    · intro j u hu
      obtain ⟨b', off', he, _, hc⟩ := hrd j u hu
      simp only [Option.some.injEq, Addr.mk.injEq, and_true] at he
      obtain ⟨rfl, rfl⟩ := he
      simp only [Addr.add]
      split
      · rename_i hj
        subst hj
        simpa using hc
      · exact hc
    · intro g cap w' hown' hgrow hat _
      refine h g cap w' hown' hgrow ?_
      rcases hat with h2 | h2
      · left
        simpa [Value.ownBlock] using h2
      · exact .inr h2
/-- rows of numbers, each in memory of its own -/
def SetsAt (w : World) (B : Nat) (hs : List Value) (xss : List (List Int)) : Prop :=
  hs.length = xss.length ∧ ∀ (i : Nat) (xs : List Int), xss[i]? = some xs → ∃ v, hs[i]? = some v ∧ w.ownsRow B 3 1 v xs.length (intCells xs)
theorem own_keep {w w' : World} {B e size : Nat} {v : Value} {n : Nat} {xs : List Value} (h : w.ownsRow B e size v n xs) (hk : ∀ (k : Nat) (cur : Array Value), w.heap[k]? = some (Obj.cells cur e (0, 0)) → w'.heap[k]? = w.heap[k]?) : w'.ownsRow B e size v n xs := by
  refine ⟨h.1, ?_⟩
  rcases h.2 with h2 | ⟨g, cap, cur, h1, h2, h3, h4⟩
  · exact .inl h2
  · exact .inr ⟨g, cap, cur, h1, h2, (hk g cur h3).trans h3, h4⟩
theorem SetsAt.keep {w w' : World} {B : Nat} {hs : List Value} {xss : List (List Int)} (h : SetsAt w B hs xss) (hk : ∀ (k : Nat) (cur : Array Value), w.heap[k]? = some (Obj.cells cur 3 (0, 0)) → w'.heap[k]? = w.heap[k]?) : SetsAt w' B hs xss :=
  ⟨h.1, fun i xs hi => by
    obtain ⟨v, h1, h2⟩ := h.2 i xs hi
    exact ⟨v, h1, own_keep h2 hk⟩⟩
theorem SetsAt.below {w w' : World} {B : Nat} {hs : List Value} {xss : List (List Int)} (h : SetsAt w B hs xss) (hb : Below w.heap.size w w') : SetsAt w' B hs xss :=
  h.keep fun k _ hk => hb.block k (lt_of_block hk)
theorem SetsAt.mono {w : World} {B B' : Nat} {hs : List Value} {xss : List (List Int)} (h : SetsAt w B hs xss) (hB : B' ≤ B) : SetsAt w B' hs xss :=
  ⟨h.1, fun i xs hi => by
    obtain ⟨v, h1, h2, h3⟩ := h.2 i xs hi
    refine ⟨v, h1, h2, ?_⟩
    rcases h3 with h3 | ⟨g, cap, cur, h3, h4, h5⟩
    · exact .inl h3
    · exact .inr ⟨g, cap, cur, h3, Nat.le_trans hB h4, h5⟩⟩
end Go.Proofs.YtmcjnfghlpnghaaDoor
namespace Go.Proofs.YtmcjnfghlpnghaaDoor
open Go.RowKit
/-- a set of beams as a value -/
def BeamsAt (w : World) : Option (List Int) → Value → Prop
  | none, v => v = .slice none 0 0
  | some T, v => ∃ A cap, v = .slice A T.length cap ∧ Rd w w.heap.size A (intCells T)
def RefLeastPost (w : World) (o : Option (List Int)) (x : Ending) (w' : World) : Prop :=
  ∃ v, x = .returned (.tuple #[v, .bool o.isSome]) ∧ BeamsAt w' o v ∧ Below w.heap.size w w'
end Go.Proofs.YtmcjnfghlpnghaaDoor
namespace Go.Proofs.YtmcjnfghlpnghaaDoor
open Go.RowKit
def leastE : Option (List Int) → Int
  | none => 12
  | some _ => 0
def LeastOutPost (w : World) (o : Option (List Int)) (e : Int) (x : Ending) (w' : World) : Prop :=
  ∃ v, x = .returned (.tuple #[v, .int .i64 e]) ∧ BeamsAt w' o v ∧ Below w.heap.size w w'
end Go.Proofs.YtmcjnfghlpnghaaDoor
namespace Go.Proofs.YtmcjnfghlpnghaaDoor
open Go.RowKit
theorem drop_mem {S : List Int} {k : Nat} (h : k < S.length) : S[k]?.getD 0 ∈ S := by
  rw [List.getElem?_eq_getElem h]
  exact List.getElem_mem h
def IntsOwnPost (w : World) (l : List Int) (n : Nat) (e : Ending) (w' : World) : Prop :=
  ∃ A c, e = .returned (.slice A n c) ∧ w'.ownsRow w.heap.size 3 1 (.slice A n c) n (intCells l) ∧ Below w.heap.size w w'
theorem CloneI_any (w : World) (B : Nat) (A : Option Addr) (n c : Nat) (l : List Int) (hl : l.length = n) (hn : n ≤ 1000) (h : Rd w B A (intCells l)) (hB : B ≤ w.heap.size) : Calls Tryd.prog 134 #[.slice A n c] w (IntsOwnPost w l n) := by
  cases A with
  | none =>
    have hl0 : l = [] := by
      cases l with
      | nil => rfl
      | cons x l =>
        obtain ⟨b, off, he, _⟩ := h 0 _ (intCells_at (x :: l) 0 (by simp))
        cases he
    subst hl0
    obtain rfl : 0 = n := hl
    refine (Tryd.slices_Clone_nil_f134 0 c w).mono ?_
    rintro e w' ⟨rfl, rfl⟩
    exact ⟨none, 0, rfl, ⟨rfl, .inl ⟨rfl, rfl⟩⟩, Below.refl _ _⟩
  | some a =>
    obtain ⟨i1, hi1, hy0, hy1, hy2⟩ := info_parts info3
    cases l with
    | nil =>
      obtain rfl : 0 = n := hl
      obtain ⟨b, off, idx⟩ := a
      refine (Tryd.slices_Clone_int_zero ⟨b, off, idx⟩ c w).mono ?_
      rintro e w' ⟨v, rfl, hown, _, hb⟩
      obtain ⟨A', c', rfl⟩ := rowForm hown
      exact ⟨A', c', rfl, hown, hb⟩
    | cons x l =>
      obtain ⟨b, off, he, hbB, hc⟩ := h 0 _ (intCells_at (x :: l) 0 (by simp))
      obtain rfl : a = ⟨b, off, none⟩ := by simpa using he
      have HC : ∀ j, j < (x :: l).length → w.cell? ⟨b, off + j, none⟩ = some (.int .i64 ((x :: l).getD j 0)) := by
        intro j hj
        obtain ⟨b', off', he', _, hc'⟩ := h j _ (intCells_at (x :: l) j hj)
        simp only [Option.some.injEq, Addr.mk.injEq, and_true] at he'
        obtain ⟨rfl, rfl⟩ := he'
        rw [hc']
        simp
      have q := Tryd.slices_Clone_int b off n c (x :: l) w (by omega) (by omega) HC
      rw [List.take_of_length_le (by omega)] at q
      refine q.mono ?_
      rintro e w' ⟨v, rfl, hown, _, hb⟩
      obtain ⟨A', c', rfl⟩ := rowForm hown
      exact ⟨A', c', rfl, hown, hb⟩
end Go.Proofs.YtmcjnfghlpnghaaDoor

namespace Go.Proofs.YtmcjnfghlpnghaaDoor

/-- a job: its hours, its first and its last window -/
abbrev Jb := Int × Int × Int
def atI (l : List Int) (w : Int) : Int := l[w.toNat]?.getD 0
def takeI (l : List Int) (w h : Int) : List Int := l.set w.toNat (atI l w - h)
/-- the error of a window for a job -/
def jobE (n : Nat) (left : List Int) (j : Jb) (w : Int) : Int :=
  if withinB w 0 ((n : Int) - 1) = true then (if withinB w j.2.1 j.2.2 = true then (if atI left w < j.1 then 16 else 0) else 25) else 6
def placedGo (n : Nat) : List Int → List Jb → List Int → Int
  | left, j :: js, w :: ws => if jobE n left j w = 0 then placedGo n (takeI left w j.1) js ws else jobE n left j w
  | _, _, _ => 0
def leftGo : List Int → List Jb → List Int → List Int
  | left, j :: js, w :: ws => leftGo (takeI left w j.1) js ws
  | left, _, _ => left
/-- the first windows that are accepted for jobs -/
def placeM : List Jb → List Int → Option (List Int)
  | [], _ => some []
  | j :: js, left => (List.range (j.2.2 + 1 - j.2.1).toNat).findSome? fun (d : Nat) =>
      if atI left (j.2.1 + (d : Int)) < j.1 then none else (placeM js (takeI left (j.2.1 + (d : Int)) j.1)).map (fun l => (j.2.1 + (d : Int)) :: l)
/-- the reference's search: windows that go on from some -/
def refWork (n : Nat) (js : List Jb) (W : List Int) : Nat → List Int → Option (List Int)
  | 0, hv => some hv
  | k + 1, hv => (List.range n).findSome? fun (w : Nat) => if placedGo n W js (hv ++ [(w : Int)]) = 0 then refWork n js W k (hv ++ [(w : Int)]) else none
def JobOk (n : Nat) (j : Jb) : Prop := 0 ≤ j.2.1 ∧ j.2.1 ≤ j.2.2 ∧ j.2.2 < n

theorem placedGo_append (n : Nat) : ∀ (pre : List Jb) (hv left : List Int) (j : Jb) (suf : List Jb) (w : Int), hv.length = pre.length → placedGo n left pre hv = 0 →
    placedGo n left (pre ++ j :: suf) (hv ++ [w]) = jobE n (leftGo left pre hv) j w
  | [], [], left, j, suf, w, _, _ => by
    simp only [List.nil_append, placedGo, leftGo]
    split
    · rename_i h
      rw [h]
    · rfl
  | [], _ :: _, _, _, _, _, h, _ => by simp at h
  | _ :: _, [], _, _, _, _, h, _ => by simp at h
  | p :: pre, v :: hv, left, j, suf, w, h, h0 => by
    rw [placedGo] at h0
    by_cases hp : jobE n left p v = 0
    · rw [if_pos hp] at h0
      rw [List.cons_append, List.cons_append, placedGo, if_pos hp, leftGo]
      exact placedGo_append n pre hv (takeI left v p.1) j suf w (by simpa using h) h0
    · rw [if_neg hp] at h0
      exact absurd h0 hp
theorem placedGo_snoc (n : Nat) : ∀ (pre : List Jb) (hv left : List Int) (j : Jb) (w : Int), hv.length = pre.length → placedGo n left pre hv = 0 → jobE n (leftGo left pre hv) j w = 0 →
    placedGo n left (pre ++ [j]) (hv ++ [w]) = 0 := fun pre hv left j w h h0 hj => by
  rw [placedGo_append n pre hv left j [] w h h0]
  exact hj
theorem leftGo_snoc : ∀ (pre : List Jb) (hv left : List Int) (j : Jb) (w : Int), hv.length = pre.length → leftGo left (pre ++ [j]) (hv ++ [w]) = takeI (leftGo left pre hv) w j.1
  | [], [], _, _, _, _ => rfl
  | [], _ :: _, _, _, _, h => by simp at h
  | _ :: _, [], _, _, _, h => by simp at h
  | p :: pre, v :: hv, left, j, w, h => by
    rw [List.cons_append, List.cons_append, leftGo, leftGo]
    exact leftGo_snoc pre hv _ j w (by simpa using h)

theorem range_cut {β : Type} (f : Nat → Option β) (n a c : Nat) (h : a + c ≤ n) (h1 : ∀ w, w < a → f w = none) (h2 : ∀ w, a + c ≤ w → w < n → f w = none) :
    (List.range n).findSome? f = (List.range c).findSome? fun d => f (a + d) := by
  obtain ⟨r, rfl⟩ : ∃ r, n = a + (c + r) := ⟨n - a - c, by omega⟩
  rw [List.range_add, List.findSome?_append, List.findSome?_eq_none_iff.2 (fun x hx => h1 x (by simpa using hx)), Option.none_or, List.findSome?_map, List.range_add, List.findSome?_append]
  have : ((List.range r).map (c + ·)).findSome? (f ∘ (a + ·)) = none := by
    rw [List.findSome?_eq_none_iff]
    intro x hx
    obtain ⟨y, hy, rfl⟩ := List.mem_map.1 hx
    rw [List.mem_range] at hy
    exact h2 (a + (c + y)) (by omega) (by omega)
  rw [this, Option.or_none]
  rfl

theorem findSome_congr {α β : Type} {f g : α → Option β} : ∀ (l : List α), (∀ x ∈ l, f x = g x) → l.findSome? f = l.findSome? g
  | [], _ => rfl
  | a :: l, h => by
    rw [List.findSome?_cons, List.findSome?_cons, h a (by simp), findSome_congr l fun x hx => h x (by simp [hx])]

/-- **Both searches find the same windows.** -/
theorem work_eq (n : Nat) (W : List Int) : ∀ (suf pre : List Jb) (hv : List Int), (∀ j ∈ suf, JobOk n j) → hv.length = pre.length → placedGo n W pre hv = 0 →
    refWork n (pre ++ suf) W suf.length hv = (placeM suf (leftGo W pre hv)).map (hv ++ ·)
  | [], pre, hv, _, _, _ => by simp [refWork, placeM]
  | j :: suf, pre, hv, hok, hl, h0 => by
    obtain ⟨o1, o2, o3⟩ := hok j (by simp)
    have happ := fun w => placedGo_append n pre hv W j suf w hl h0
    rw [List.length_cons, refWork, placeM]
    simp only [happ]
    rw [range_cut _ n j.2.1.toNat (j.2.2 + 1 - j.2.1).toNat (by omega)]
    · rw [List.map_findSome?]
      refine findSome_congr _ fun d hd' => ?_
      rw [List.mem_range] at hd'
      simp only [Function.comp]
      have hw : ((j.2.1.toNat + d : Nat) : Int) = j.2.1 + (d : Int) := by omega
      have hd : j.2.1 + (d : Int) ≤ j.2.2 := by omega
      · have hj : jobE n (leftGo W pre hv) j (j.2.1 + (d : Int)) = if atI (leftGo W pre hv) (j.2.1 + (d : Int)) < j.1 then 16 else 0 := by
          unfold jobE
          rw [if_pos (by simp [withinB]; omega), if_pos (by simp [withinB]; omega)]
        rw [hw, hj]
        by_cases hlt : atI (leftGo W pre hv) (j.2.1 + (d : Int)) < j.1
        · rw [if_pos hlt, if_pos hlt, if_neg (by omega)]
          rfl
        · rw [if_neg hlt, if_neg hlt, if_pos rfl]
          have ih := work_eq n W suf (pre ++ [j]) (hv ++ [j.2.1 + (d : Int)]) (fun q hq => hok q (by simp [hq])) (by simp [hl]) (placedGo_snoc n pre hv W j _ hl h0 (by rw [hj, if_neg hlt]))
          rw [leftGo_snoc pre hv W j _ hl] at ih
          rw [List.append_assoc, List.singleton_append] at ih
          rw [ih, Option.map_map]
          congr 1
          funext l
          simp
    · intro w hw
      rw [if_neg]
      unfold jobE
      rw [if_pos (by simp [withinB]; omega), if_neg (by simp [withinB]; omega)]
      omega
    · intro w h1 h2
      rw [if_neg]
      unfold jobE
      rw [if_pos (by simp [withinB]; omega), if_neg (by simp [withinB]; omega)]
      omega

theorem atI_take {l : List Int} {w v h : Int} (hw : 0 ≤ w ∧ w < l.length) (hv : 0 ≤ v) : atI (takeI l w h) v = if v = w then atI l w - h else atI l v := by
  unfold atI takeI
  rw [List.getElem?_set]
  by_cases hvw : v = w
  · subst hvw
    rw [if_pos rfl, if_pos (by omega), if_pos rfl]
    rfl
  · rw [if_neg (by omega), if_neg hvw]
theorem takeI_len (l : List Int) (w h : Int) : (takeI l w h).length = l.length := List.length_set ..

/-- more hours do no harm -/
theorem placed_more {n : Nat} : ∀ (js : List Jb) (ws left left' : List Int), left.length = n → left'.length = n → (∀ v : Int, 0 ≤ v → atI left v ≤ atI left' v) → placedGo n left js ws = 0 → placedGo n left' js ws = 0
  | [], _, _, _, _, _, _, _ => by simp [placedGo]
  | _ :: _, [], _, _, _, _, _, _ => by simp [placedGo]
  | j :: js, w :: ws, left, left', hl, hl', hle, h => by
    rw [placedGo] at h ⊢
    by_cases hj : jobE n left j w = 0
    · rw [if_pos hj] at h
      have hj0 := hj
      unfold jobE at hj
      by_cases h1 : withinB w 0 ((n : Int) - 1) = true
      · rw [if_pos h1] at hj
        by_cases h2 : withinB w j.2.1 j.2.2 = true
        · rw [if_pos h2] at hj
          have h1' : 0 ≤ w ∧ w < n := by
            simp [withinB] at h1
            omega
          have h3 : ¬ atI left w < j.1 := fun hx => by rw [if_pos hx] at hj; omega
          have := hle w h1'.1
          have hj' : jobE n left' j w = 0 := by
            unfold jobE
            rw [if_pos h1, if_pos h2, if_neg (by omega)]
          rw [if_pos hj']
          refine placed_more js ws _ _ (by rw [takeI_len, hl]) (by rw [takeI_len, hl']) (fun v hv => ?_) h
          rw [atI_take (by rw [hl]; exact h1') hv, atI_take (by rw [hl']; exact h1') hv]
          have := hle v hv
          split <;> omega
        · rw [if_neg h2] at hj
          omega
      · rw [if_neg h1] at hj
        omega
    · rw [if_neg hj] at h
      exact absurd h hj

theorem place_some {n : Nat} : ∀ (js : List Jb) (left ws : List Int), (∀ j ∈ js, JobOk n j) → placeM js left = some ws → ws.length = js.length ∧ placedGo n left js ws = 0
  | [], left, ws, _, h => by
    simp [placeM] at h
    subst h
    exact ⟨rfl, rfl⟩
  | j :: js, left, ws, hok, h => by
    obtain ⟨o1, o2, o3⟩ := hok j (by simp)
    rw [placeM] at h
    obtain ⟨d, hd, h⟩ := List.exists_of_findSome?_eq_some h
    rw [List.mem_range] at hd
    by_cases hlt : atI left (j.2.1 + (d : Int)) < j.1
    · rw [if_pos hlt] at h
      cases h
    · rw [if_neg hlt] at h
      obtain ⟨l, hl, rfl⟩ := Option.map_eq_some_iff.1 h
      obtain ⟨h1, h2⟩ := place_some js _ l (fun q hq => hok q (by simp [hq])) hl
      refine ⟨by simp [h1], ?_⟩
      have hj : jobE n left j (j.2.1 + (d : Int)) = 0 := by
        unfold jobE
        rw [if_pos (by simp [withinB]; omega), if_pos (by simp [withinB]; omega), if_neg hlt]
      rw [placedGo, if_pos hj]
      exact h2
theorem place_none {n : Nat} : ∀ (js : List Jb) (left ws : List Int), (∀ j ∈ js, JobOk n j) → placeM js left = none → ws.length = js.length → placedGo n left js ws ≠ 0
  | [], left, ws, _, h, _ => by simp [placeM] at h
  | j :: js, left, [], _, _, h => by simp at h
  | j :: js, left, w :: ws, hok, h, hl => by
    obtain ⟨o1, o2, o3⟩ := hok j (by simp)
    rw [placeM, List.findSome?_eq_none_iff] at h
    rw [placedGo]
    by_cases hj : jobE n left j w = 0
    · rw [if_pos hj]
      unfold jobE at hj
      by_cases h1 : withinB w 0 ((n : Int) - 1) = true
      · rw [if_pos h1] at hj
        by_cases h2 : withinB w j.2.1 j.2.2 = true
        · rw [if_pos h2] at hj
          have h3 : ¬ atI left w < j.1 := fun hx => by rw [if_pos hx] at hj; omega
          have h2' : j.2.1 ≤ w ∧ w ≤ j.2.2 := by simpa [withinB] using h2
          have hd := h (w - j.2.1).toNat (by rw [List.mem_range]; omega)
          have hw : j.2.1 + (((w - j.2.1).toNat : Nat) : Int) = w := by omega
          rw [hw, if_neg h3, Option.map_eq_none_iff] at hd
          exact place_none js _ ws (fun q hq => hok q (by simp [hq])) hd (by simpa using hl)
        · rw [if_neg h2] at hj
          omega
      · rw [if_neg h1] at hj
        omega
    · rw [if_neg hj]
      exact hj
/-- **With more hours there still are some.** -/
theorem place_more {n : Nat} {js : List Jb} {left left' ws : List Int} (hok : ∀ j ∈ js, JobOk n j) (hl : left.length = n) (hl' : left'.length = n) (hle : ∀ v : Int, 0 ≤ v → atI left v ≤ atI left' v) (h : placeM js left = some ws) : ∃ ws', placeM js left' = some ws' := by
  obtain ⟨h1, h2⟩ := place_some js left ws hok h
  cases h' : placeM js left' with
  | some ws' => exact ⟨ws', rfl⟩
  | none => exact absurd (placed_more js ws left left' hl hl' hle h2) (place_none js left' ws hok h' h1)

theorem placed_in {n : Nat} : ∀ (js : List Jb) (ws left : List Int), ws.length = js.length → placedGo n left js ws = 0 → ∀ w ∈ ws, 0 ≤ w ∧ w < n
  | [], [], left, _, _ => fun w hw => by simp at hw
  | [], _ :: _, _, h, _ => by simp at h
  | _ :: _, [], _, h, _ => by simp at h
  | j :: js, w :: ws, left, hl, h => by
    rw [placedGo] at h
    by_cases hj : jobE n left j w = 0
    · rw [if_pos hj] at h
      intro x hx
      rcases List.mem_cons.1 hx with rfl | hx
      · unfold jobE at hj
        by_cases h1 : withinB x 0 ((n : Int) - 1) = true
        · simp [withinB] at h1
          omega
        · rw [if_neg h1] at hj
          omega
      · exact placed_in js ws _ (by simpa using hl) h x hx
    · rw [if_neg hj] at h
      exact absurd h hj

/-- how many windows are used -/
def usedN (n : Nat) (ws : List Int) : Nat := ((List.range n).filter fun (w : Nat) => hasI ws (w : Int)).length
/-- the windows that are used, in the order of their first use -/
def keysGo : List Int → List Int → List Int
  | ks, [] => ks
  | ks, w :: ws => keysGo (if hasI ks w = true then ks else ks ++ [w]) ws
theorem hasI_iff {l : List Int} {x : Int} : hasI l x = true ↔ x ∈ l := by simp [hasI]
theorem keysGo_spec : ∀ (ws ks : List Int), ks.Nodup → (keysGo ks ws).Nodup ∧ ∀ x, x ∈ keysGo ks ws ↔ x ∈ ks ∨ x ∈ ws
  | [], ks, h => ⟨h, fun x => by simp [keysGo]⟩
  | w :: ws, ks, h => by
    rw [keysGo]
    by_cases hw : hasI ks w = true
    · rw [if_pos hw]
      obtain ⟨h1, h2⟩ := keysGo_spec ws ks h
      refine ⟨h1, fun x => ?_⟩
      rw [h2 x, List.mem_cons]
      have := hasI_iff.1 hw
      constructor
      · rintro (h | h)
        · exact .inl h
        · exact .inr (.inr h)
      · rintro (h | rfl | h)
        · exact .inl h
        · exact .inl this
        · exact .inr h
    · rw [if_neg hw]
      have hn : w ∉ ks := fun hx => hw (hasI_iff.2 hx)
      obtain ⟨h1, h2⟩ := keysGo_spec ws (ks ++ [w]) (by
        rw [List.nodup_append]
        refine ⟨h, by simp, fun a ha b hb => ?_⟩
        obtain rfl : b = w := by simpa using hb
        exact fun he => hn (he ▸ ha))
      refine ⟨h1, fun x => ?_⟩
      rw [h2 x]
      simp [or_assoc]
theorem keys_used {n : Nat} {ws : List Int} (h : ∀ w ∈ ws, 0 ≤ w ∧ w < n) : (keysGo [] ws).length = usedN n ws := by
  obtain ⟨h1, h2⟩ := keysGo_spec ws [] List.nodup_nil
  have hp : (keysGo [] ws).Perm (((List.range n).filter fun (w : Nat) => hasI ws (w : Int)).map fun (w : Nat) => (w : Int)) := by
    rw [List.perm_ext_iff_of_nodup h1 (List.Pairwise.map _ (fun a b h hab => h (by omega)) (List.nodup_range.filter _))]
    intro x
    rw [h2 x]
    simp only [List.not_mem_nil, false_or, List.mem_map, List.mem_filter, List.mem_range, hasI_iff]
    constructor
    · intro hx
      have := h x hx
      refine ⟨x.toNat, ⟨by omega, ?_⟩, by omega⟩
      rw [show ((x.toNat : Nat) : Int) = x by omega]
      exact hx
    · rintro ⟨y, ⟨_, hy⟩, rfl⟩
      exact hy
  rw [hp.length_eq, List.length_map]
  rfl
end Go.Proofs.YtmcjnfghlpnghaaDoor

namespace Go.Proofs.YtmcjnfghlpnghaaDoor

def badHr (n : Int) : Bool := !withinB n 0 1000
/-- the error of a job -/
def jbE (nw : Nat) (j : Jb) : Int := if (decide (0 < j.1) && withinB j.1 0 1000) = true then (if (withinB j.2.1 0 ((nw : Int) - 1) && withinB j.2.2 0 ((nw : Int) - 1)) = true then (if j.2.1 ≤ j.2.2 then 0 else 9) else 6) else 2
def jbGo (nw : Nat) : List Jb → Int
  | [] => 0
  | j :: l => if jbE nw j = 0 then jbGo nw l else jbE nw j
/-- the error of work -/
def workM (W : List Int) (J : List Jb) : Int := if 0 < W.length then (if W.length ≤ 5 ∧ J.length ≤ 6 then (if W.any badHr = true then 2 else jbGo W.length J) else 8) else 10
theorem jbGo_zero {nw : Nat} : ∀ {l : List Jb}, jbGo nw l = 0 → ∀ j ∈ l, jbE nw j = 0
  | [], _, _, h => by simp at h
  | a :: l, h, j, hj => by
    rw [jbGo] at h
    split at h
    · rename_i h0
      rcases List.mem_cons.1 hj with rfl | hj
      · exact h0
      · exact jbGo_zero h j hj
    · rename_i h0
      exact absurd h h0
theorem jbE_zero {nw : Nat} {j : Jb} (h : jbE nw j = 0) : (1 ≤ j.1 ∧ j.1 ≤ 1000) ∧ JobOk nw j := by
  unfold jbE at h
  split at h
  · rename_i h1
    split at h
    · rename_i h2
      split at h
      · rename_i h3
        simp [withinB] at h1 h2
        refine ⟨by omega, ?_⟩
        unfold JobOk
        omega
      · cases h
    · cases h
  · cases h
theorem workM_zero {W : List Int} {J : List Jb} (h : workM W J = 0) : (1 ≤ W.length ∧ W.length ≤ 5) ∧ J.length ≤ 6 ∧ (∀ x ∈ W, 0 ≤ x ∧ x ≤ 1000) ∧ ∀ j ∈ J, (1 ≤ j.1 ∧ j.1 ≤ 1000) ∧ JobOk W.length j := by
  unfold workM at h
  split at h
  · rename_i h1
    split at h
    · rename_i h2
      split at h
      · cases h
      · rename_i h3
        refine ⟨⟨h1, h2.1⟩, h2.2, fun x hx => ?_, fun j hj => jbE_zero (jbGo_zero h j hj)⟩
        have : ¬ badHr x = true := fun hb => h3 (List.any_eq_true.2 ⟨x, hx, hb⟩)
        simpa [badHr, withinB] using this
    · cases h
  · cases h
/-- what CheckWork answers: a number and an error -/
def checkM (W : List Int) (J : List Jb) (ws : List Int) : Int := if workM W J = 0 then (if ws.length = J.length then placedGo W.length W J ws else 10) else workM W J
def checkN (W : List Int) (J : List Jb) (ws : List Int) : Int := if checkM W J ws = 0 then (usedN W.length ws : Int) else 0
/-- with one more hour there still are windows -/
theorem atI_set (W : List Int) (m : Nat) (v : Int) (hv : 0 ≤ v) : atI (W.set m (atI W m + 1)) v = if v = m ∧ m < W.length then atI W m + 1 else atI W v := by
  unfold atI
  rw [List.getElem?_set]
  by_cases h : m = v.toNat
  · rw [if_pos h]
    by_cases h2 : v.toNat < W.length
    · rw [if_pos (by omega), if_pos ⟨by omega, by omega⟩]
      rfl
    · rw [if_neg (by omega), if_neg (by omega), List.getElem?_eq_none (by omega)]
  · rw [if_neg h, if_neg (by omega)]
theorem atI_mem {W : List Int} {v : Int} (h0 : 0 ≤ v) (h : v < W.length) : atI W v ∈ W := by
  unfold atI
  rw [List.getElem?_eq_getElem (by omega)]
  exact List.getElem_mem _
theorem more_work {W : List Int} {J : List Jb} {ws : List Int} {m : Nat} (h : workM W J = 0) (hm : m < W.length) (hx : atI W m ≠ 1000) (hp : placeM J W = some ws) :
    workM (W.set m (atI W m + 1)) J = 0 ∧ ∃ ws', placeM J (W.set m (atI W m + 1)) = some ws' := by
  obtain ⟨⟨h1, h2⟩, h3, h4, h5⟩ := workM_zero h
  constructor
  · have hw := h
    unfold workM at hw ⊢
    rw [List.length_set]
    rw [if_pos (by omega), if_pos ⟨h2, h3⟩] at hw ⊢
    have hany : ¬ (W.set m (atI W m + 1)).any badHr = true := by
      intro hb
      obtain ⟨x, hx', hb⟩ := List.any_eq_true.1 hb
      have hx2 : 0 ≤ x ∧ x ≤ 1000 := by
        rcases List.mem_or_eq_of_mem_set hx' with g | g
        · exact h4 x g
        · have := h4 _ (atI_mem (W := W) (v := m) (by omega) (by omega))
          omega
      simp [badHr, withinB] at hb
      omega
    rw [if_neg hany]
    split at hw
    · cases hw
    · exact hw
  · refine place_more (n := W.length) (fun j hj => (h5 j hj).2) rfl (by rw [List.length_set]) (fun v hv => ?_) hp
    rw [atI_set _ _ _ hv]
    split
    · rename_i g
      rw [← g.1]
      omega
    · omega
end Go.Proofs.YtmcjnfghlpnghaaDoor

namespace Go.Proofs.YtmcjnfghlpnghaaDoor
open Go.RowKit

theorem info187 : (Tryd.prog.info? 187).map (fun i => (i.zero, i.size, i.bytes)) = some (some (.agg #[.int .i64 0, .int .i64 0, .int .i64 0]), 3, 24) := by kernel_rfl
theorem capOf {w : World} {B e size n c : Nat} {A : Option Addr} {xs : List Value} (h : w.ownsRow B e size (.slice A n c) n xs) : n ≤ c := by
  rcases h.2 with ⟨h1, _⟩ | ⟨g, cap, cur, h1, _, _, h2, _⟩
  · simp only [Value.slice.injEq] at h1
    omega
  · simp only [Value.slice.injEq] at h1
    omega
def WorkCopied (w : World) (pp : List Int) (ws : List Ev) (np nw : Nat) (e : Ending) (w' : World) : Prop :=
  ∃ A1 c1 A2 c2, e = .returned (.agg #[.slice A1 np c1, .slice A2 nw c2]) ∧ nw ≤ c2 ∧ Rd w' w'.heap.size A1 (intCells pp) ∧ Rd w' w'.heap.size A2 (evCells ws) ∧ Below w.heap.size w w'

set_option maxRecDepth 100000 in
set_option maxHeartbeats 4000000 in
theorem CopyWork_any (w : World) (B : Nat) (Ap Aw : Option Addr) (np cp nw cw : Nat) (pp : List Int) (ws : List Ev) (hl : pp.length = np) (hlw : ws.length = nw) (hn : np ≤ 1000000) (hm : nw ≤ 1000000) (hp : Rd w B Ap (intCells pp)) (hw : Rd w B Aw (evCells ws)) (hB : B ≤ w.heap.size) :
    Calls Tryd.prog 81 #[.agg #[.slice Ap np cp, .slice Aw nw cw]] w (WorkCopied w pp ws np nw) := by
  obtain ⟨i1, hi1, hy0, hy1, hy2⟩ := info_parts info187
  have hb0 : Below w.heap.size w ((w.alloc (.cells #[.slice Ap np cp, .slice Aw nw cw] 130)).alloc (.cells #[.slice none 0 0, .slice none 0 0] 130)) := ((Below.refl _ _).alloc (Nat.le_refl _) _).alloc (by simp) _
  have k0 : ((w.alloc (.cells #[.slice Ap np cp, .slice Aw nw cw] 130)).alloc (.cells #[.slice none 0 0, .slice none 0 0] 130)).heap[w.heap.size]? = some (.cells #[.slice Ap np cp, .slice Aw nw cw] 130 (0, 0)) := by
    rw [heapq_alloc, if_neg (by simp), heapq_alloc, if_pos rfl]
  have k1 : ((w.alloc (.cells #[.slice Ap np cp, .slice Aw nw cw] 130)).alloc (.cells #[.slice none 0 0, .slice none 0 0] 130)).heap[w.heap.size + 1]? = some (.cells #[.slice none 0 0, .slice none 0 0] 130 (0, 0)) := by
    rw [heapq_alloc, if_pos (by simp)]
  have hp0 := hp.below (hb0.mono hB)
  have hw0 := hw.below (hb0.mono hB)
  have hs1 : w.heap.size ≤ ((w.alloc (.cells #[.slice Ap np cp, .slice Aw nw cw] 130)).alloc (.cells #[.slice none 0 0, .slice none 0 0] 130)).heap.size := by simp; omega
  have hx1 : w.heap.size + 1 < ((w.alloc (.cells #[.slice Ap np cp, .slice Aw nw cw] 130)).alloc (.cells #[.slice none 0 0, .slice none 0 0] 130)).heap.size := by simp
  have HB := Lib.hid hb0
  have HL := Lib.hid hl
  have HLW := Lib.hid hlw
  have K1 := Lib.hid k1
  have a0 : ((w.alloc (.cells #[.slice Ap np cp, .slice Aw nw cw] 130)).alloc (.cells #[.slice none 0 0, .slice none 0 0] 130)).cell? ⟨w.heap.size, 0, none⟩ = some (.slice Ap np cp) := (cell_of_row ((w.alloc (.cells #[.slice Ap np cp, .slice Aw nw cw] 130)).alloc (.cells #[.slice none 0 0, .slice none 0 0] 130)) w.heap.size 0 _ _ _ k0).trans rfl
  have a1 : ((w.alloc (.cells #[.slice Ap np cp, .slice Aw nw cw] 130)).alloc (.cells #[.slice none 0 0, .slice none 0 0] 130)).cell? ⟨w.heap.size, 1, none⟩ = some (.slice Aw nw cw) := (cell_of_row ((w.alloc (.cells #[.slice Ap np cp, .slice Aw nw cw] 130)).alloc (.cells #[.slice none 0 0, .slice none 0 0] 130)) w.heap.size 1 _ _ _ k0).trans rfl
  have HX := Lib.hid hx1
  clear hl hlw hp hw hb0 k0 k1 hx1
  go_enter Tryd.func81, Tryd.ntmps81
  go_upto_region 1 with (fail)
  generalize ((w.alloc (.cells #[.slice Ap np cp, .slice Aw nw cw] 130)).alloc (.cells #[.slice none 0 0, .slice none 0 0] 130)) = W0 at *
  have hBW : B ≤ W0.heap.size := Nat.le_trans hB hs1
  generalize hx : w.heap.size = x at *
  have HXX := Lib.hid hx
  clear hx
  have x0 := fun y : Xt W0 => y.cell a0
  have x1 := fun y : Xt W0 => y.cell a1
  refine wp_region_eager [7, 8] (fun w' => ∃ y : Xt W0, w' = y.1) (by kernel_rfl) ⟨⟨W0.drew, (Below.refl _ _).drew⟩, rfl⟩ ?_
  refine wpE_reads [0, 1, 4, 5] 5 rfl (by kernel_rfl) ?_
  simp only [opsAt_nil, opsAt_cons, consOpt_some, List.getElem?_toArray, List.getElem?_cons_zero, List.getElem?_cons_succ]
  repeat (go_big_quiet_step (fail))
  refine wpQuiet_nil ?_
  have hbd : Below W0.heap.size W0 W0.drew := (Below.refl _ _).drew
  show wpE _ _ _ _ _ _ _ _ _ W0.drew
  generalize W0.drew = wd at *
  clear x0 x1 a0 a1
  refine wpE_two (i := 2) (k := 3) rfl (by kernel_rfl) rfl rfl ?_ ?_
  · unfold wpMid
    simp only [opsAt_nil, opsAt_cons, consOpt_some, List.getElem?_toArray, List.getElem?_cons_zero, List.getElem?_cons_succ]
    go_wp2_with (go_at_call 54; refine (CopyInts_any wd B Ap np cp pp HL.out hn (hp0.below (hbd.mono hBW)) (Nat.le_trans hBW hbd.size)).mono ?_; rintro e w2 ⟨AR, cR, rfl, hR, hb2⟩)
    have hb02 := hbd.trans (hb2.mono hbd.size)
    refine onlyNormal_mk ⟨⟨⟨_, hb02⟩, rfl⟩, ?_⟩
    refine wpE_one (i := 3) rfl (by kernel_rfl) rfl ?_
    unfold wpMid
    simp only [opsAt_nil, opsAt_cons, consOpt_some, List.getElem?_toArray, List.getElem?_cons_zero, List.getElem?_cons_succ]
    go_wp2
    have hb03 : Below W0.heap.size W0 (w2.alloc (.cells #[] 187)) := hb02.alloc hb02.size _
    have gq : (w2.alloc (.cells #[] 187)).heap[w2.heap.size]? = some (.cells #[] 187 (0, 0)) := by rw [heapq_alloc, if_pos rfl]
    have hR3 := (hR.below ((Below.refl _ _).alloc (Nat.le_refl _) (.cells #[] 187))).mono (show w2.heap.size ≤ (w2.alloc (.cells #[] 187)).heap.size by simp)
    have hg : W0.heap.size ≤ w2.heap.size := hb02.size
    clear hR
    generalize w2.alloc (.cells #[] 187) = w3 at *
    generalize w2.heap.size = g at *
    refine onlyNormal_mk ⟨⟨⟨_, hb03⟩, rfl⟩, ?_⟩
    refine wpE_one (i := 6) rfl (by kernel_rfl) rfl ?_
    unfold wpMid
    simp only [opsAt_nil, opsAt_cons, consOpt_some, List.getElem?_toArray, List.getElem?_cons_zero, List.getElem?_cons_succ]
    have hrd := hw0.below (hb03.mono hBW)
    have hgl := lt_of_block gq
    have n3 := rd_ne hR3 gq (fun i n h => by simp at h)
    refine wpList_append_copy w3 rfl _ _ 128 rfl g 187 i1 _ 3 24 Tryd.underlying128 hi1 hy0 hy1 hy2 rfl (by omega) g rfl gq (Nat.le_refl _) B Aw nw cw (evCells ws) rfl (by rw [evCells_len, HLW.out]) hrd (evCells_one ws) (by simp only [maxLen]; omega) (by omega) (Nat.le_of_lt hgl) ?_
    intro G cG w4 hown hgrow _
    have hb4 : Below W0.heap.size W0 w4 := hb03.grown hgrow hb03.size (fun k hk => by rw [← Option.some.inj hk]; exact hg)
    have hG := ownBlk hown rfl
    have hcap := capOf hown
    have hR4 := rd_kept hR3 hgrow n3
    have hk4 := (hb4.block (x + 1) HX.out).trans K1.out
    have n4 := rd_ne hR4 hk4 (fun i n h => by rcases i with _ | _ | i <;> simp at h)
    have s4 := hgrow.size
    have RPP : Rd w4 w3.heap.size AR (intCells pp) ∧ w3.heap.size ≤ w4.heap.size ∧ _ := ⟨hR4, s4, n4⟩
    have RWW : Rd w4 w4.heap.size (some ⟨G, 0, none⟩) (evCells ws) ∧ w4.heap.size ≤ w4.heap.size ∧ ∀ (k : Nat) (u : Value), (evCells ws)[k]? = some u → ∀ b off, some (⟨G, 0, none⟩ : Addr) = some ⟨b, off, none⟩ → b ≠ x + 1 :=
      ⟨Rd_of_own hown, Nat.le_refl _, fun k u _ b off he => by
        simp only [Option.some.injEq, Addr.mk.injEq, and_true] at he
        have := HX.out
        have := hG.1
        omega⟩
    clear hrd n3 hown hgrow hR4 hk4 n4
    refine onlyNormal_mk ⟨⟨⟨_, hb4⟩, rfl⟩, ?_⟩
    refine wpE_tail rfl (by kernel_rfl) ?_
    simp only [opsAt_nil, opsAt_cons, consOpt_some, List.getElem?_toArray, List.getElem?_cons_zero, List.getElem?_cons_succ]
    have hk := (hb4.block (x + 1) HX.out).trans K1.out
    have t0 := cell_of_row w4 (x + 1) 0 _ _ _ hk
    have t1 := cell_of_row w4 (x + 1) 1 _ _ _ hk
    simp at t0 t1
    have q0 := frozen_of_row w4 (x + 1) 0 _ _ hk
    have q1 := frozen_of_row w4 (x + 1) 1 _ _ hk
    have RP := Lib.hid RPP
    have RW := Lib.hid RWW
    have HBE := Lib.hid (HB.out.trans (hb4.mono hs1))
    clear hk
    go_wp2
    refine onlyNormal_mk ?_
    go_wp2
    refine bodyPost_ret (v := .agg #[.slice AR np cR, .slice (some ⟨G, 0, none⟩) nw cG]) (by simp [results, Tryd.results81, go_sem, t0, t1]) rfl ⟨AR, cR, _, cG, rfl, hcap, ?_, ?_, ?_⟩
    · exact rd_set2 RP.out
    · exact rd_set2 RW.out
    · rw [HXX.out]
      exact (HBE.out.setCell (p := ⟨x + 1, 0, none⟩) (Nat.le_add_right x 1) _).setCell (p := ⟨x + 1, 1, none⟩) (Nat.le_add_right x 1) _
  · unfold wpMid
    simp only [opsAt_nil, opsAt_cons, consOpt_some, List.getElem?_toArray, List.getElem?_cons_zero, List.getElem?_cons_succ]
    go_wp2
    have hb02 : Below W0.heap.size W0 (wd.alloc (.cells #[] 187)) := hbd.alloc hbd.size _
    have gq2 : (wd.alloc (.cells #[] 187)).heap[wd.heap.size]? = some (.cells #[] 187 (0, 0)) := by rw [heapq_alloc, if_pos rfl]
    have hg : W0.heap.size ≤ wd.heap.size := hbd.size
    generalize wd.alloc (.cells #[] 187) = w2 at *
    generalize wd.heap.size = g at *
    refine onlyNormal_mk ⟨⟨⟨_, hb02⟩, rfl⟩, ?_⟩
    refine wpE_one (i := 2) rfl (by kernel_rfl) rfl ?_
    unfold wpMid
    simp only [opsAt_nil, opsAt_cons, consOpt_some, List.getElem?_toArray, List.getElem?_cons_zero, List.getElem?_cons_succ]
    go_wp2_with (go_at_call 54; refine (CopyInts_any w2 B Ap np cp pp HL.out hn (hp0.below (hb02.mono hBW)) (Nat.le_trans hBW hb02.size)).mono ?_; rintro e w3 ⟨AR, cR, rfl, hR3, hb3⟩)
    have hb03 := hb02.trans (hb3.mono hb02.size)
    have gq := (hb3.block g (lt_of_block gq2)).trans gq2
    refine onlyNormal_mk ⟨⟨⟨_, hb03⟩, rfl⟩, ?_⟩
    refine wpE_one (i := 6) rfl (by kernel_rfl) rfl ?_
    unfold wpMid
    simp only [opsAt_nil, opsAt_cons, consOpt_some, List.getElem?_toArray, List.getElem?_cons_zero, List.getElem?_cons_succ]
    have hrd := hw0.below (hb03.mono hBW)
    have hgl := lt_of_block gq
    have n3 := rd_ne hR3 gq (fun i n h => by simp at h)
    refine wpList_append_copy w3 rfl _ _ 128 rfl g 187 i1 _ 3 24 Tryd.underlying128 hi1 hy0 hy1 hy2 rfl (by omega) g rfl gq (Nat.le_refl _) B Aw nw cw (evCells ws) rfl (by rw [evCells_len, HLW.out]) hrd (evCells_one ws) (by simp only [maxLen]; omega) (by omega) (Nat.le_of_lt hgl) ?_
    intro G cG w4 hown hgrow _
    have hb4 : Below W0.heap.size W0 w4 := hb03.grown hgrow hb03.size (fun k hk => by rw [← Option.some.inj hk]; exact hg)
    have hG := ownBlk hown rfl
    have hcap := capOf hown
    have hR4 := rd_kept hR3 hgrow n3
    have hk4 := (hb4.block (x + 1) HX.out).trans K1.out
    have n4 := rd_ne hR4 hk4 (fun i n h => by rcases i with _ | _ | i <;> simp at h)
    have s4 := hgrow.size
    have RPP : Rd w4 w3.heap.size AR (intCells pp) ∧ w3.heap.size ≤ w4.heap.size ∧ _ := ⟨hR4, s4, n4⟩
    have RWW : Rd w4 w4.heap.size (some ⟨G, 0, none⟩) (evCells ws) ∧ w4.heap.size ≤ w4.heap.size ∧ ∀ (k : Nat) (u : Value), (evCells ws)[k]? = some u → ∀ b off, some (⟨G, 0, none⟩ : Addr) = some ⟨b, off, none⟩ → b ≠ x + 1 :=
      ⟨Rd_of_own hown, Nat.le_refl _, fun k u _ b off he => by
        simp only [Option.some.injEq, Addr.mk.injEq, and_true] at he
        have := HX.out
        have := hG.1
        omega⟩
    clear hrd n3 hown hgrow hR4 hk4 n4
    refine onlyNormal_mk ⟨⟨⟨_, hb4⟩, rfl⟩, ?_⟩
    refine wpE_tail rfl (by kernel_rfl) ?_
    simp only [opsAt_nil, opsAt_cons, consOpt_some, List.getElem?_toArray, List.getElem?_cons_zero, List.getElem?_cons_succ]
    have hk := (hb4.block (x + 1) HX.out).trans K1.out
    have t0 := cell_of_row w4 (x + 1) 0 _ _ _ hk
    have t1 := cell_of_row w4 (x + 1) 1 _ _ _ hk
    simp at t0 t1
    have q0 := frozen_of_row w4 (x + 1) 0 _ _ hk
    have q1 := frozen_of_row w4 (x + 1) 1 _ _ hk
    have RP := Lib.hid RPP
    have RW := Lib.hid RWW
    have HBE := Lib.hid (HB.out.trans (hb4.mono hs1))
    clear hk
    go_wp2
    refine onlyNormal_mk ?_
    go_wp2
    refine bodyPost_ret (v := .agg #[.slice AR np cR, .slice (some ⟨G, 0, none⟩) nw cG]) (by simp [results, Tryd.results81, go_sem, t0, t1]) rfl ⟨AR, cR, _, cG, rfl, hcap, ?_, ?_, ?_⟩
    · exact rd_set2 RP.out
    · exact rd_set2 RW.out
    · rw [HXX.out]
      exact (HBE.out.setCell (p := ⟨x + 1, 0, none⟩) (Nat.le_add_right x 1) _).setCell (p := ⟨x + 1, 1, none⟩) (Nat.le_add_right x 1) _

/-- few jobs and windows -/
def jobsB (nw nj : Nat) : Bool := (decide (nj ≤ 5) || (decide (6 < nj) && decide (nj ≤ 8))) && (decide (nw ≤ 4) || (decide (5 < nw) && decide (nw ≤ 7)))
set_option maxHeartbeats 4000000 in
theorem jobs_any (w : World) (Aw Aj : Option Addr) (nw cw nj cj : Nat) (b : Bool) (hb : jobsB nw nj = b) :
    Calls Tryd.prog 79 #[.agg #[.slice Aw nw cw, .slice Aj nj cj]] w fun e w' => e = .returned (.bool b) ∧ Below w.heap.size w w' := by
  have hb0 : Below w.heap.size w (w.alloc (.cells #[.slice Aw nw cw, .slice Aj nj cj] 130)) := (Below.refl _ _).alloc (Nat.le_refl _) _
  have p1 : (nj : Int) ≤ 5 ∨ (¬ (nj : Int) ≤ 5 ∧ ¬ (6 : Int) < (nj : Int)) ∨ (¬ (nj : Int) ≤ 5 ∧ (6 : Int) < (nj : Int) ∧ (nj : Int) ≤ 8) ∨ (¬ (nj : Int) ≤ 5 ∧ (6 : Int) < (nj : Int) ∧ ¬ (nj : Int) ≤ 8) := by omega
  have p2 : (nw : Int) ≤ 4 ∨ (¬ (nw : Int) ≤ 4 ∧ ¬ (5 : Int) < (nw : Int)) ∨ (¬ (nw : Int) ≤ 4 ∧ (5 : Int) < (nw : Int) ∧ (nw : Int) ≤ 7) ∨ (¬ (nw : Int) ≤ 4 ∧ (5 : Int) < (nw : Int) ∧ ¬ (nw : Int) ≤ 7) := by omega
  have HV : Hid (b = ((decide (nj ≤ 5) || (decide (6 < nj) && decide (nj ≤ 8))) && (decide (nw ≤ 4) || (decide (5 < nw) && decide (nw ≤ 7))))) := hb.symm
  clear hb
  rcases p1 with h1 | ⟨h1, h2⟩ | ⟨h1, h2, h3⟩ | ⟨h1, h2, h3⟩ <;> rcases p2 with g1 | ⟨g1, g2⟩ | ⟨g1, g2, g3⟩ | ⟨g1, g2, g3⟩
  all_goals
    first
      | (have HW : Hid (b = true) := by
           rw [Hid, HV.out]
           simp only [Bool.and_eq_true, Bool.or_eq_true, decide_eq_true_eq]
           omega
         clear HV
         go_enter Tryd.func79, Tryd.ntmps79
         go_wp2
         go_ret
         exact ⟨by rw [HW.out]; rfl, hb0⟩)
      | (have HW : Hid (b = false) := by
           rw [Hid, HV.out, Bool.eq_false_iff]
           simp only [ne_eq, Bool.and_eq_true, Bool.or_eq_true, decide_eq_true_eq]
           omega
         clear HV
         go_enter Tryd.func79, Tryd.ntmps79
         go_wp2
         go_ret
         exact ⟨by rw [HW.out]; rfl, hb0⟩)

theorem isHours_val (n : Int) (b : Bool) (hb : withinB n 0 1000 = b) (w : World) : Calls Tryd.prog 163 #[.int .i64 n] w fun e w' => e = .returned (.bool b) ∧ w = w' := by
  go_enter Tryd.func163, Tryd.ntmps163
  go_wp2_with (go_at_call 99; refine (within_val _ _ _ _ hb _).mono ?_; rintro e w' ⟨rfl, rfl⟩)
  go_ret
  exact ⟨rfl, rfl⟩
theorem isWindow_val (n : Int) (x nw c : Nat) (A : Option Addr) (b : Bool) (hb : withinB n 0 ((nw : Int) - 1) = b) (hn : nw ≤ 1000000000) (w : World) (hc : w.cell? ⟨x, 0, none⟩ = some (.slice A nw c)) :
    Calls Tryd.prog 164 #[.int .i64 n, .pointer (some ⟨x, 0, none⟩)] w fun e w' => e = .returned (.bool b) ∧ w = w' := by
  go_enter Tryd.func164, Tryd.ntmps164
  go_wp2_with (go_at_call 99; refine (within_val _ _ _ _ hb _).mono ?_; rintro e w' ⟨rfl, rfl⟩)
  go_ret
  exact ⟨rfl, rfl⟩
theorem badHr_val (n : Int) (x : Nat) (b : Bool) (hb : badHr n = b) (w : World) (hc : w.cell? ⟨x, 0, none⟩ = some (.func (.func 163) #[] #[])) :
    Calls Tryd.prog 165 #[.int .i64 n, .pointer (some ⟨x, 0, none⟩)] w fun e w' => e = .returned (.bool b) ∧ w = w' := by
  cases hz : withinB n 0 1000
  · have HV : Hid (b = true) := by rw [Hid, ← hb, badHr, hz]; rfl
    go_enter Tryd.func165, Tryd.ntmps165
    go_wp2_with (go_at_call 163; refine (isHours_val _ _ hz _).mono ?_; rintro e w' ⟨rfl, rfl⟩)
    go_ret
    exact ⟨by rw [HV.out]; rfl, rfl⟩
  · have HV : Hid (b = false) := by rw [Hid, ← hb, badHr, hz]; rfl
    go_enter Tryd.func165, Tryd.ntmps165
    go_wp2_with (go_at_call 163; refine (isHours_val _ _ hz _).mono ?_; rintro e w' ⟨rfl, rfl⟩)
    go_ret
    exact ⟨by rw [HV.out]; rfl, rfl⟩

theorem IndexFunc_165 (A : Option Addr) (n c B : Nat) (l : List Int) (x : Nat) (w : World) (hn : n ≤ 1000000000) (hl : l.length = n) (h : Rd w B A (intCells l)) (h0 : w.cell? ⟨x, 0, none⟩ = some (.func (.func 163) #[] #[])) :
    Calls Tryd.prog 95 #[.slice A n c, .func (.func 165) #[] #[.pointer (some ⟨x, 0, none⟩)]] w fun e w' => e = .returned (.int .i64 (idxGo badHr l 0)) ∧ w = w' := by
  have HL := Lib.hid hl; clear hl
  have C := fun n b hb => badHr_val n x b hb w h0
  clear h0
  go_enter Tryd.func95, Tryd.ntmps95
  go_wp2
  go_loop [5, 8] (fun _ i => ∃ k : Nat, k ≤ n ∧ i = .int .i64 k ∧ idxGo badHr (l.drop k) k = idxGo badHr l 0) (fun _ i => n - (intOf i).toNat)
  case atStart => exact ⟨0, Nat.zero_le _, rfl, rfl⟩
  case round =>
    obtain ⟨k, hk, rfl, he⟩ := hrel
    have HE := Lib.hid he; clear he
    by_cases hlt : k < n
    · have hkl : k < l.length := by rw [HL.out]; exact hlt
      obtain ⟨b, off, rfl, _, hc⟩ := h.at_ (intCells_at l k hkl)
      have HS := Lib.hid (drop_at l 0 k hkl)
      clear hkl
      cases hz : badHr (l[k]?.getD 0)
      · have C' := C _ _ hz
        have HZ := Lib.hid hz
        clear hz
        go_wp2_with (go_at_call 165; refine C'.mono ?_; rintro e w' ⟨rfl, rfl⟩)
        go_round
        case rel => exact ⟨k + 1, by omega, by go_num, by rw [← HE.out, HS.out, idxGo]; simp [HZ.out]⟩
        case measure => simp [intOf]; omega
      · have C' := C _ _ hz
        have HZ := Lib.hid hz
        clear hz
        go_wp2_with (go_at_call 165; refine C'.mono ?_; rintro e w' ⟨rfl, rfl⟩)
        go_ret
        exact ⟨by rw [← HE.out, HS.out, idxGo]; simp [HZ.out], rfl⟩
    · go_wp2
      go_ret
      have : l.drop k = [] := by rw [List.drop_eq_nil_iff]; rw [HL.out]; omega
      exact ⟨by rw [← HE.out, this]; rfl, rfl⟩

theorem ContainsFunc_165 (A : Option Addr) (n c B : Nat) (l : List Int) (x : Nat) (w : World) (hn : n ≤ 1000000000) (hl : l.length = n) (h : Rd w B A (intCells l)) (h0 : w.cell? ⟨x, 0, none⟩ = some (.func (.func 163) #[] #[])) :
    Calls Tryd.prog 116 #[.slice A n c, .func (.func 165) #[] #[.pointer (some ⟨x, 0, none⟩)]] w fun e w' => e = .returned (.bool (l.any badHr)) ∧ w = w' := by
  have C := IndexFunc_165 A n c B l x w hn hl h h0
  clear h h0
  go_enter Tryd.func116, Tryd.ntmps116
  go_wp2_with (go_at_call 95; refine C.mono ?_; rintro e w1 ⟨rfl, rfl⟩)
  go_ret
  exact ⟨by rw [← idxGo_nonneg _ l 0]; rfl, rfl⟩
end Go.Proofs.YtmcjnfghlpnghaaDoor

namespace Go.Proofs.YtmcjnfghlpnghaaDoor
open Go.RowKit

theorem workM_split (W : List Int) (J : List Jb) : workM W J = seqE (firstE [unlessE (decide (0 < W.length)) 10, unlessE (decide (W.length ≤ 5) && decide (J.length ≤ 6)) 8, unlessE (!W.any badHr) 2]) (jbGo W.length J) := by
  unfold workM
  by_cases h1 : 0 < W.length
  · by_cases h2 : W.length ≤ 5 ∧ J.length ≤ 6
    · rw [if_pos h1, if_pos h2]
      cases h3 : W.any badHr <;> simp [firstE, unlessE, seqE, h1, h2]
    · rw [if_pos h1, if_neg h2]
      have : (decide (W.length ≤ 5) && decide (J.length ≤ 6)) = false := by
        rw [Bool.eq_false_iff]
        simpa using h2
      simp [firstE, unlessE, seqE, h1, this]
  · rw [if_neg h1]
    simp [firstE, unlessE, seqE, h1]
theorem jbE_first (nw : Nat) (h f t : Int) : jbE nw (h, f, t) = firstE [unlessE (decide (0 < h) && withinB h 0 1000) 2, unlessE (withinB f 0 ((nw : Int) - 1) && withinB t 0 ((nw : Int) - 1)) 6, unlessE (decide (f ≤ t)) 9] := by
  unfold jbE
  cases h1 : (decide (0 < h) && withinB h 0 1000)
  · simp [firstE, unlessE]
  · cases h2 : (withinB f 0 ((nw : Int) - 1) && withinB t 0 ((nw : Int) - 1))
    · simp [firstE, unlessE]
    · by_cases h3 : f ≤ t <;> simp [firstE, unlessE, h3]

def JobRel (w0 : World) (nw : Nat) (J : List Jb) (nj : Nat) (V : Int) (u : Value) (wr : World) : Prop := ∃ k : Nat, k ≤ nj ∧ u = .int .i64 k ∧ jbGo nw (J.drop k) = V ∧ Below w0.heap.size w0 wr

set_option maxRecDepth 100000 in
set_option maxHeartbeats 16000000 in
theorem workErr_any (w : World) (B : Nat) (Aw Aj : Option Addr) (nw cw nj cj : Nat) (W : List Int) (J : List Jb) (hl : W.length = nw) (hlj : J.length = nj) (hw : Rd w B Aw (intCells W)) (hj : Rd w B Aj (evCells J)) (hB : B ≤ w.heap.size) (hn : nw ≤ 1000000) (hm : nj ≤ 1000000) :
    Calls Tryd.prog 133 #[.agg #[.slice Aw nw cw, .slice Aj nj cj]] w (ErrVal w (workM W J)) := by
  have hb0 : Below w.heap.size w ((w.alloc (.cells #[.slice Aw nw cw, .slice Aj nj cj] 130)).alloc (.cells #[.func (.func 163) #[] #[]] 44)) := ((Below.refl _ _).alloc (Nat.le_refl _) _).alloc (by simp) _
  have k0 : ((w.alloc (.cells #[.slice Aw nw cw, .slice Aj nj cj] 130)).alloc (.cells #[.func (.func 163) #[] #[]] 44)).heap[w.heap.size]? = some (.cells #[.slice Aw nw cw, .slice Aj nj cj] 130 (0, 0)) := by rw [heapq_alloc, if_neg (by simp), heapq_alloc, if_pos rfl]
  have k1 : ((w.alloc (.cells #[.slice Aw nw cw, .slice Aj nj cj] 130)).alloc (.cells #[.func (.func 163) #[] #[]] 44)).heap[w.heap.size + 1]? = some (.cells #[.func (.func 163) #[] #[]] 44 (0, 0)) := by rw [heapq_alloc, if_pos (by simp)]
  have c0 := (cell_of_row _ _ 0 _ _ _ k0).trans (by rfl : _ = some (.slice Aw nw cw))
  have c1 := (cell_of_row _ _ 1 _ _ _ k0).trans (by rfl : _ = some (.slice Aj nj cj))
  have f0 := (cell_of_row _ _ 0 _ _ _ k1).trans (by rfl : _ = some (.func (.func 163) #[] #[]))
  have hw0 := hw.below (hb0.mono hB)
  have hj0 := hj.below (hb0.mono hB)
  have hs0 : w.heap.size ≤ ((w.alloc (.cells #[.slice Aw nw cw, .slice Aj nj cj] 130)).alloc (.cells #[.func (.func 163) #[] #[]] 44)).heap.size := hb0.size
  have hB0 := Nat.le_trans hB hs0
  have HL := Lib.hid hl
  have HLJ := Lib.hid hlj
  have HB := Lib.hid hb0
  obtain ⟨b3, hb3⟩ : ∃ b, W.any badHr = b := ⟨_, rfl⟩
  have HB3 := Lib.hid hb3
  clear hw hj hl hlj hb0 k0 k1 hb3
  go_enter Tryd.func133, Tryd.ntmps133
  go_upto_region 3 with (fail)
  generalize ((w.alloc (.cells #[.slice Aw nw cw, .slice Aj nj cj] 130)).alloc (.cells #[.func (.func 163) #[] #[]] 44)) = w0 at *
  generalize hxx : w.heap.size = x at *
  have HXX := Lib.hid hxx
  clear hxx
  have CW := fun y : Xt w0 => ContainsFunc_165 Aw nw cw B W (x + 1) y.1 (by omega) HL.out (hw0.below (y.2.mono hB0)) (y.cell f0)
  simp only [HB3.out] at CW
  have x0 := fun y : Xt w0 => y.cell c0
  have x1 := fun y : Xt w0 => y.cell c1
  have xf := fun y : Xt w0 => y.cell f0
  rcases Nat.lt_or_ge 5 nw with h5 | h5
  · have q5 : decide ((nw : Int) ≤ 5) = false := decide_eq_false (by omega)
    have q5' : decide (nw ≤ 5) = false := decide_eq_false (by omega)
    have h5i : ¬ (nw : Int) ≤ 5 := by omega
    refine wp_region_cut [] [0, 1, 2, 3, 4, 5, 6, 7, 8, 9, 10, 11, 12, 13, 14, 15, 16, 17, 18, 19, 20, 21] 22 [23, 24] (fun w' => ∃ y : Xt w0, w' = y.1) (by kernel_rfl) (by kernel_rfl) ⟨⟨w0.drew, (Below.refl _ _).drew⟩, rfl⟩ ?_
    simp only [opsAt_nil, opsAt_cons, consOpt_some, List.getElem?_toArray, List.getElem?_cons_zero, List.getElem?_cons_succ]
    refine wpQuiet_nil ?_
    show wpQuiet _ _ _ _ _ _
    repeat (go_big_quiet_step (first | (go_at_call 92; exact Xt.calls_same (unless_any _ _ _)) | (go_at_call 116; exact Xt.calls_same (CW _))))
    refine wpQuiet_nil ?_
    intro w1 hx
    have hbX := Xt.below hx
    clear hx x0 x1 xf CW
    have F3 := fun a b c => first3 w1 a b c
    go_wp2_with (go_at_call 91; refine (F3 _ _ _).mono ?_; rintro e w' ⟨rfl, rfl⟩)
    refine onlyNormal_mk ?_
    clear F3
    generalize hE : firstE _ = E0
    have HV : Hid (workM W J = seqE E0 (jbGo nw J)) := by
      rw [Hid, workM_split, HL.out, HLJ.out, HB3.out, ← hE, show decide (nj ≤ 6) = decide ((nj : Int) ≤ 6) from decide_eq_decide.2 (by omega)]
      simp [q5']
    generalize hw2 : w1.alloc _ = w2
    have hbY : Below w0.heap.size w0 w2 := by rw [← hw2]; exact hbX.alloc hbX.size _
    have HN8 : Hid (E0 ≠ 0) := by
      rw [Hid, ← hE]
      have h0 : 0 < nw := by omega
      simp [firstE, unlessE, h0]
    clear hw2 hE hbX q5 q5' h5i
    by_cases hE0 : E0 = 0
    · exfalso
      exact HN8.out hE0
    · have e1 : (E0 != 0) = true := bne_iff_ne.2 hE0
      have HV2 : Hid (workM W J = E0) := by rw [Hid, HV.out, seqE, if_neg hE0]
      clear hE0
      go_wp2
      go_ret
      exact ⟨by rw [HV2.out]; rfl, HXX.out ▸ HB.out.trans (hbY.mono hs0)⟩
  · have q5 : decide ((nw : Int) ≤ 5) = true := decide_eq_true (by omega)
    have q5' : decide (nw ≤ 5) = true := decide_eq_true (by omega)
    have h5i : (nw : Int) ≤ 5 := by omega
    refine wp_region_cut [] [0, 1, 2, 3, 4, 5, 6, 7, 8, 9, 10, 11, 12, 13, 14, 15, 16, 17, 18, 19, 20, 21] 22 [23, 24] (fun w' => ∃ y : Xt w0, w' = y.1) (by kernel_rfl) (by kernel_rfl) ⟨⟨w0.drew, (Below.refl _ _).drew⟩, rfl⟩ ?_
    simp only [opsAt_nil, opsAt_cons, consOpt_some, List.getElem?_toArray, List.getElem?_cons_zero, List.getElem?_cons_succ]
    refine wpQuiet_nil ?_
    show wpQuiet _ _ _ _ _ _
    repeat (go_big_quiet_step (first | (go_at_call 92; exact Xt.calls_same (unless_any _ _ _)) | (go_at_call 116; exact Xt.calls_same (CW _))))
    refine wpQuiet_nil ?_
    intro w1 hx
    have hbX := Xt.below hx
    clear hx x0 x1 xf CW
    have F3 := fun a b c => first3 w1 a b c
    go_wp2_with (go_at_call 91; refine (F3 _ _ _).mono ?_; rintro e w' ⟨rfl, rfl⟩)
    refine onlyNormal_mk ?_
    clear F3
    generalize hE : firstE _ = E0
    have HV : Hid (workM W J = seqE E0 (jbGo nw J)) := by
      rw [Hid, workM_split, HL.out, HLJ.out, HB3.out, ← hE, show decide (nj ≤ 6) = decide ((nj : Int) ≤ 6) from decide_eq_decide.2 (by omega)]
      simp [q5']
    generalize hw2 : w1.alloc _ = w2
    have hbY : Below w0.heap.size w0 w2 := by rw [← hw2]; exact hbX.alloc hbX.size _
    clear hw2 hE hbX q5 q5' h5i
    by_cases hE0 : E0 = 0
    · have HV2 : Hid (workM W J = jbGo nw J) := by rw [Hid, HV.out, seqE, if_pos hE0]
      subst hE0
      replace c0 := kept hbY c0
      replace c1 := kept hbY c1
      replace f0 := kept hbY f0
      replace hj0 := hj0.below (hbY.mono hB0)
      replace HB := Lib.hid (HB.out.trans (hbY.mono hs0))
      replace hs0 := Nat.le_trans hs0 hbY.size
      replace hB0 := Nat.le_trans hB0 hbY.size
      obtain ⟨V, hV⟩ : ∃ V, jbGo nw J = V := ⟨_, rfl⟩
      rw [hV] at HV2
      have HVV := Lib.hid hV
      clear hbY hw0 HV hV
      go_wp2
      go_loopw [40] (fun u wr => JobRel w2 nw J nj V u wr) (fun u _ => nj - (intOf u).toNat)
      case atStart => exact ⟨0, Nat.zero_le _, rfl, by rw [List.drop_zero]; exact HVV.out, Below.refl _ _⟩
      case round =>
        obtain ⟨k, hk, rfl, hgo, hb⟩ := hrel
        have HBR := Lib.hid hb
        have HGO := Lib.hid hgo
        replace c0 := kept hb c0
        replace c1 := kept hb c1
        replace f0 := kept hb f0
        have hsz := hb.size
        have hr := hj0.below (hb.mono hB0)
        clear hb hj0 hgo
        by_cases hlt : k < nj
        · have hkl : k < J.length := by rw [HLJ.out]; exact hlt
          obtain ⟨ev, hev⟩ : ∃ ev, J[k]? = some ev := ⟨_, List.getElem?_eq_getElem hkl⟩
          obtain ⟨z0, z1, z2⟩ := evCells_at J k ev hev
          obtain ⟨bb, off, rfl, hbB, e0, e1, e2⟩ := hr.at3 z0 z1 z2
          have HS := Lib.hid (drop_cons' hev)
          obtain ⟨h, f, t⟩ := ev
          simp only at e0 e1 e2
          have hba : Below wr.heap.size wr (wr.alloc (.cells #[.int .i64 h, .int .i64 f, .int .i64 t] 187)) := (Below.refl _ _).alloc (Nat.le_refl _) _
          have HBK := Lib.hid (HBR.out.trans (hba.mono hsz))
          have kb : (wr.alloc (.cells #[.int .i64 h, .int .i64 f, .int .i64 t] 187)).heap[wr.heap.size]? = some (.cells #[.int .i64 h, .int .i64 f, .int .i64 t] 187 (0, 0)) := by rw [heapq_alloc, if_pos rfl]
          have m0 := (cell_of_row _ _ 0 _ _ _ kb).trans (by rfl : _ = some (.int .i64 h))
          have m1 := (cell_of_row _ _ 1 _ _ _ kb).trans (by rfl : _ = some (.int .i64 f))
          have m2 := (cell_of_row _ _ 2 _ _ _ kb).trans (by rfl : _ = some (.int .i64 t))
          replace c0 := kept hba c0
          replace f0 := kept hba f0
          have hsa := hba.size
          clear hba kb z0 z1 z2 hev hkl hr HBR
          go_upto_region 9 with (fail)
          generalize wr.alloc (.cells #[.int .i64 h, .int .i64 f, .int .i64 t] 187) = wa at *
          generalize wr.heap.size = zb at *
          clear c1 e0 e1 e2
          have x0 := fun y : Xt wa => y.cell c0
          have xf := fun y : Xt wa => y.cell f0
          have x1 := fun y : Xt wa => y.cell m0
          have x2 := fun y : Xt wa => y.cell m1
          have x3 := fun y : Xt wa => y.cell m2
          rcases Int.lt_or_le 0 h with p0 | p0
          · have d0 : decide (0 < h) = true := decide_eq_true p0
            cases qh : withinB h 0 1000 <;> cases q1 : withinB f 0 ((nw : Int) - 1) <;> cases q2 : withinB t 0 ((nw : Int) - 1)
            all_goals
              have HJ : Hid (jbE nw (h, f, t) = _) := jbE_first nw h f t
              rw [d0, qh, q1, q2] at HJ
              refine wp_region_cut [] [0, 1, 2, 3, 4, 5, 6, 7, 8, 9, 10, 11, 12, 13, 14, 15, 16, 17, 18, 19, 20, 21, 22, 23, 24, 25, 26] 27 [28, 29] (fun w' => ∃ y : Xt wa, w' = y.1) (by kernel_rfl) (by kernel_rfl) ⟨⟨wa.drew, (Below.refl _ _).drew⟩, rfl⟩ ?_
              simp only [opsAt_nil, opsAt_cons, consOpt_some, List.getElem?_toArray, List.getElem?_cons_zero, List.getElem?_cons_succ]
              refine wpQuiet_nil ?_
              show wpQuiet _ _ _ _ _ _
              repeat (go_big_quiet_step (first | (go_at_call 163; exact Xt.calls_same (isHours_val _ _ qh _)) | (go_at_call_of 164 (Value.int .i64 f); exact Xt.calls_same (isWindow_val _ _ _ _ _ _ q1 (by omega) _ (x0 _))) | (go_at_call_of 164 (Value.int .i64 t); exact Xt.calls_same (isWindow_val _ _ _ _ _ _ q2 (by omega) _ (x0 _))) | (go_at_call 92; exact Xt.calls_same (unless_any _ _ _))))
              refine wpQuiet_nil ?_
              intro w3 hx
              have hbW := Xt.below hx
              clear hx qh q1 q2
              have F3 := fun a b c => first3 w3 a b c
              go_wp2_with (go_at_call 91; refine (F3 _ _ _).mono ?_; rintro e w' ⟨rfl, rfl⟩)
              refine onlyNormal_mk ?_
              generalize hE : firstE _ = er
              have HER : Hid (jbE nw (h, f, t) = er) := by rw [Hid, HJ.out, ← hE]; rfl
              generalize hw4 : w3.alloc _ = w4
              have HB4 : Hid (Below w2.heap.size w2 w4) := by rw [Hid, ← hw4]; exact (HBK.out.trans (hbW.mono (Nat.le_trans hsz hsa))).alloc (Nat.le_trans (Nat.le_trans hsz hsa) hbW.size) _
              clear hE hw4 HJ hbW x0 x1 x2 x3 xf F3 d0
              by_cases her : er = 0
              · have e1 : (er != 0) = false := by rw [her]; rfl
                have HG : Hid (jbGo nw (J.drop (k + 1)) = V) := by
                  have := HGO.out
                  rw [HS.out, jbGo, if_pos (HER.out.trans her)] at this
                  exact this
                clear her
                go_wp2
                go_roundw
                case rel => exact ⟨k + 1, by omega, by go_num, HG.out, HB4.out⟩
                case measure => simp [intOf]; omega
              · have e1 : (er != 0) = true := bne_iff_ne.2 her
                have HG : Hid (V = er) := by
                  have := HGO.out
                  rw [HS.out, jbGo, HER.out, if_neg her] at this
                  exact this.symm
                clear her
                go_wp2
                go_ret
                exact ⟨by rw [HV2.out, HG.out]; rfl, HXX.out ▸ HB.out.trans (HB4.out.mono hs0)⟩
          · have d0 : decide (0 < h) = false := decide_eq_false (by omega)
            have p0' : ¬ 0 < h := by omega
            cases qh : withinB h 0 1000 <;> cases q1 : withinB f 0 ((nw : Int) - 1) <;> cases q2 : withinB t 0 ((nw : Int) - 1)
            all_goals
              have HJ : Hid (jbE nw (h, f, t) = _) := jbE_first nw h f t
              rw [d0, qh, q1, q2] at HJ
              refine wp_region_cut [] [0, 1, 2, 3, 4, 5, 6, 7, 8, 9, 10, 11, 12, 13, 14, 15, 16, 17, 18, 19, 20, 21, 22, 23, 24, 25, 26] 27 [28, 29] (fun w' => ∃ y : Xt wa, w' = y.1) (by kernel_rfl) (by kernel_rfl) ⟨⟨wa.drew, (Below.refl _ _).drew⟩, rfl⟩ ?_
              simp only [opsAt_nil, opsAt_cons, consOpt_some, List.getElem?_toArray, List.getElem?_cons_zero, List.getElem?_cons_succ]
              refine wpQuiet_nil ?_
              show wpQuiet _ _ _ _ _ _
              repeat (go_big_quiet_step (first | (go_at_call 163; exact Xt.calls_same (isHours_val _ _ qh _)) | (go_at_call_of 164 (Value.int .i64 f); exact Xt.calls_same (isWindow_val _ _ _ _ _ _ q1 (by omega) _ (x0 _))) | (go_at_call_of 164 (Value.int .i64 t); exact Xt.calls_same (isWindow_val _ _ _ _ _ _ q2 (by omega) _ (x0 _))) | (go_at_call 92; exact Xt.calls_same (unless_any _ _ _))))
              refine wpQuiet_nil ?_
              intro w3 hx
              have hbW := Xt.below hx
              clear hx qh q1 q2
              have F3 := fun a b c => first3 w3 a b c
              go_wp2_with (go_at_call 91; refine (F3 _ _ _).mono ?_; rintro e w' ⟨rfl, rfl⟩)
              refine onlyNormal_mk ?_
              generalize hE : firstE _ = er
              have HER : Hid (jbE nw (h, f, t) = er) := by rw [Hid, HJ.out, ← hE]; rfl
              generalize hw4 : w3.alloc _ = w4
              have HB4 : Hid (Below w2.heap.size w2 w4) := by rw [Hid, ← hw4]; exact (HBK.out.trans (hbW.mono (Nat.le_trans hsz hsa))).alloc (Nat.le_trans (Nat.le_trans hsz hsa) hbW.size) _
              clear hE hw4 HJ hbW x0 x1 x2 x3 xf F3 d0
              by_cases her : er = 0
              · have e1 : (er != 0) = false := by rw [her]; rfl
                have HG : Hid (jbGo nw (J.drop (k + 1)) = V) := by
                  have := HGO.out
                  rw [HS.out, jbGo, if_pos (HER.out.trans her)] at this
                  exact this
                clear her
                go_wp2
                go_roundw
                case rel => exact ⟨k + 1, by omega, by go_num, HG.out, HB4.out⟩
                case measure => simp [intOf]; omega
              · have e1 : (er != 0) = true := bne_iff_ne.2 her
                have HG : Hid (V = er) := by
                  have := HGO.out
                  rw [HS.out, jbGo, HER.out, if_neg her] at this
                  exact this.symm
                clear her
                go_wp2
                go_ret
                exact ⟨by rw [HV2.out, HG.out]; rfl, HXX.out ▸ HB.out.trans (HB4.out.mono hs0)⟩
        · have HG : Hid (V = 0) := by
            have := HGO.out
            rw [List.drop_eq_nil_iff.2 (by rw [HLJ.out]; omega), jbGo] at this
            exact this.symm
          go_wp2
          go_ret
          exact ⟨by rw [HV2.out, HG.out]; rfl, HXX.out ▸ HB.out.trans (HBR.out.mono hs0)⟩
    · have e1 : (E0 != 0) = true := bne_iff_ne.2 hE0
      have HV2 : Hid (workM W J = E0) := by rw [Hid, HV.out, seqE, if_neg hE0]
      clear hE0
      go_wp2
      go_ret
      exact ⟨by rw [HV2.out]; rfl, HXX.out ▸ HB.out.trans (hbY.mono hs0)⟩
end Go.Proofs.YtmcjnfghlpnghaaDoor

namespace Go.Proofs.YtmcjnfghlpnghaaDoor
open Go.RowKit

/-- a store into a row of one's own -/
theorem ownI_set {w : World} {B e size n g c i : Nat} {xs : List Value} (h : w.ownsRow B e size (.slice (some ⟨g, 0, none⟩) n c) n xs) (v : Value) :
    (w.setCell ⟨g, i, none⟩ v).ownsRow B e size (.slice (some ⟨g, 0, none⟩) n c) n (xs.set i v) := by
  obtain ⟨h1, h2⟩ := h
  refine ⟨by simpa using h1, ?_⟩
  rcases h2 with ⟨h2, _⟩ | ⟨g', cap, cur, h2, h3, h4, h5, h6, h7, h8⟩
  · simp at h2
  · simp only [Value.slice.injEq, Option.some.injEq, Addr.mk.injEq, and_true, true_and] at h2
    obtain ⟨rfl, rfl⟩ := h2
    refine .inr ⟨g, c, cur.setIfInBounds i v, rfl, h3, ?_, h5, h6, by simpa using h7, ?_⟩
    · rw [heapq_set, if_pos rfl, h4]
      simp [objSet_cells]
    · rw [Array.toList_setIfInBounds, ← h8, List.take_set]
theorem ownI_cell {w : World} {B e size n g c i : Nat} {xs : List Value} (h : w.ownsRow B e size (.slice (some ⟨g, 0, none⟩) n c) n xs) {v : Value} (hv : xs[i]? = some v) : w.cell? ⟨g, i, none⟩ = some v ∧ w.frozen? ⟨g, i, none⟩ = false ∧ B ≤ g ∧ g < w.heap.size := by
  obtain ⟨b, off, hA, hb, hc⟩ := Rd_of_own h i v hv
  simp only [Option.some.injEq, Addr.mk.injEq, and_true] at hA
  obtain ⟨rfl, rfl⟩ := hA
  rw [Nat.zero_add] at hc
  obtain ⟨g1, g2, cur, hcur⟩ := ownBlk h rfl
  exact ⟨hc, frozen_of_row w g i _ _ hcur, g1, g2⟩
theorem intCells_set (l : List Int) (i : Nat) (v : Int) : (intCells l).set i (.int .i64 v) = intCells (l.set i v) := by simp [intCells, List.map_set]
theorem Rd.tailEv {w : World} {B b off : Nat} {e : Ev} {l : List Ev} (h : Rd w B (some ⟨b, off, none⟩) (evCells (e :: l))) : Rd w B (some ⟨b, off + 3, none⟩) (evCells l) := by
  intro k u hk
  have hk2 : (evCells (e :: l))[3 + k]? = some u := by
    have : evCells (e :: l) = [.int .i64 e.1, .int .i64 e.2.1, .int .i64 e.2.2] ++ evCells l := by simp [evCells]
    rw [this, List.getElem?_append_right (by simp)]
    simpa using hk
  obtain ⟨b', o', he, hb, hc⟩ := h (3 + k) u hk2
  simp only [Option.some.injEq, Addr.mk.injEq, and_true] at he
  obtain ⟨rfl, rfl⟩ := he
  exact ⟨b, off + 3, rfl, hb, by rw [Nat.add_assoc]; exact hc⟩

/-- a window for the first job, and windows for the others -/
def placeG (js : List Jb) (L : List Int) (h : Int) (wn : Nat) : Option (List Int) :=
  if L[wn]?.getD 0 < h then none else (placeM js (L.set wn (L[wn]?.getD 0 - h))).map fun l => (wn : Int) :: l
theorem placeM_nat {js : List Jb} {L : List Int} {h : Int} {f e : Nat} : placeM ((h, (f : Int), (e : Int)) :: js) L = (List.range' f (e + 1 - f)).findSome? (placeG js L h) := by
  rw [placeM, List.range'_eq_map_range, List.findSome?_map]
  rw [show ((e : Int) + 1 - (f : Int)).toNat = e + 1 - f by omega]
  congr 1

def PlaceRel (w0 : World) (js : List Jb) (L : List Int) (h : Int) (f e : Nat) (R : Option (List Int)) (u7 : Value) (wr : World) : Prop :=
  ∃ (wn : Nat) (wi : Int), f ≤ wn ∧ wn ≤ e + 1 ∧ (wn : Int) = wi ∧ u7 = .int .i64 wi ∧ (List.range' wn (e + 1 - wn)).findSome? (placeG js L h) = R ∧ Below w0.heap.size w0 wr

def PlaceAll (nw : Nat) (J : List Jb) : Prop := ∀ (w : World) (B : Nat) (Aj Al : Option Addr) (nj cj cl : Nat) (L : List Int), J.length = nj → L.length = nw → nj ≤ cj → Rd w B Aj (evCells J) → Rd w B Al (intCells L) → B ≤ w.heap.size →
    (∀ j ∈ J, (1 ≤ j.1 ∧ j.1 ≤ 1000) ∧ JobOk nw j) → (∀ x ∈ L, 0 ≤ x ∧ x ≤ 1000) → Calls Tryd.prog 135 #[.slice Aj nj cj, .slice Al nw cl] w (RefLeastPost w (placeM J L))

set_option maxHeartbeats 2000000 in
theorem place_nil (nw : Nat) : PlaceAll nw [] := by
  intro w B Aj Al nj cj cl L hlj hl hc hj hL hB ok1 ok2
  obtain rfl : 0 = nj := hlj
  clear hj hL ok1 ok2
  go_enter Tryd.func135, Tryd.ntmps135
  go_wp2
  go_ret2
  exact ⟨_, rfl, ⟨none, 0, rfl, fun k u hk => by simp [intCells] at hk⟩, Below.refl _ _⟩

set_option maxRecDepth 100000 in
set_option maxHeartbeats 16000000 in
theorem place_cons (nw : Nat) (hnw : nw ≤ 5) (j : Jb) (js : List Jb) (hjs : js.length ≤ 6) (IH : PlaceAll nw js) : PlaceAll nw (j :: js) := by
  intro w B Aj Al nj cj cl L hlj hl hc hj hL hB ok1 ok2
  obtain ⟨i1, hi1, hy0, hy1, hy2⟩ := info_parts info3
  obtain ⟨⟨h1, h2⟩, o1, o2, o3⟩ := ok1 j (by simp)
  obtain ⟨h, fi, ei⟩ := j
  simp only at h1 h2 o1 o2 o3
  obtain ⟨f, rfl⟩ := Int.eq_ofNat_of_zero_le o1
  obtain ⟨e, rfl⟩ := Int.eq_ofNat_of_zero_le (show 0 ≤ ei by omega)
  have hok := fun (q : Jb) (hq : q ∈ js) => ok1 q (by simp [hq])
  obtain ⟨m, rfl⟩ : ∃ m, nj = m + 1 := ⟨js.length, by rw [← hlj]; rfl⟩
  have hm : js.length = m := by simpa using hlj
  have hm6 : m ≤ 6 := by omega
  obtain ⟨R, hR⟩ : ∃ R, placeM ((h, (f : Int), (e : Int)) :: js) L = R := ⟨_, rfl⟩
  have hR2 := placeM_nat.symm.trans hR
  rw [hR]
  obtain ⟨z0, z1, z2⟩ := evCells_at ((h, (f : Int), (e : Int)) :: js) 0 _ rfl
  obtain ⟨bb, off, rfl, hbB, e0, e1, e2⟩ := hj.at3 z0 z1 z2
  simp only [Nat.zero_mul, Nat.add_zero] at e0 e1 e2
  have hjt := hj.tailEv
  have hba : Below w.heap.size w (w.alloc (.cells #[.int .i64 h, .int .i64 (f : Int), .int .i64 (e : Int)] 187)) := (Below.refl _ _).alloc (Nat.le_refl _) _
  have kb : (w.alloc (.cells #[.int .i64 h, .int .i64 (f : Int), .int .i64 (e : Int)] 187)).heap[w.heap.size]? = some (.cells #[.int .i64 h, .int .i64 (f : Int), .int .i64 (e : Int)] 187 (0, 0)) := by rw [heapq_alloc, if_pos rfl]
  have m0 := (cell_of_row _ _ 0 _ _ _ kb).trans (by rfl : _ = some (.int .i64 h))
  have m1 := (cell_of_row _ _ 1 _ _ _ kb).trans (by rfl : _ = some (.int .i64 (f : Int)))
  have m2 := (cell_of_row _ _ 2 _ _ _ kb).trans (by rfl : _ = some (.int .i64 (e : Int)))
  have hjt0 := hjt.below (hba.mono hB)
  have hL0 := hL.below (hba.mono hB)
  have hs0 : w.heap.size ≤ (w.alloc (.cells #[.int .i64 h, .int .i64 (f : Int), .int .i64 (e : Int)] 187)).heap.size := hba.size
  have hB0 := Nat.le_trans hB hs0
  have HB := Lib.hid hba
  have HL := Lib.hid hl
  have HR2 := Lib.hid hR2
  have HM := Lib.hid hm
  have HOK := Lib.hid hok
  have HOK2 := Lib.hid ok2
  clear hl hlj hm hok ok1 ok2 hj hL hjt hba kb z0 z1 z2 hR hR2 hjs
  go_enter Tryd.func135, Tryd.ntmps135
  go_upto_region 4 with (fail)
  generalize (w.alloc (.cells #[.int .i64 h, .int .i64 (f : Int), .int .i64 (e : Int)] 187)) = w0 at *
  generalize hxx : w.heap.size = x0 at *
  have HXX := Lib.hid hxx
  clear hxx e0 e1 e2
  have M0 := Lib.hid m0
  have M2 := Lib.hid m2
  go_wp2
  go_loopw [7] (fun u7 wr => PlaceRel w0 js L h f e R u7 wr) (fun u7 _ => e + 1 - (intOf u7).toNat)
  case atStart => exact ⟨f, f, Nat.le_refl _, by omega, rfl, rfl, HR2.out, Below.refl _ _⟩
  case round =>
    clear m0 m1 m2 HR2
    obtain ⟨wn, wi, g1, g2, hwi, rfl, hfs, hb⟩ := hrel
    have HFS := Lib.hid hfs
    have HBK := Lib.hid hb
    have HWI := Lib.hid hwi
    have m0 := kept hb M0.out
    have m2 := kept hb M2.out
    have hsk := hb.size
    have hLk := hL0.below (hb.mono hB0)
    have hjk := hjt0.below (hb.mono hB0)
    have hBk := Nat.le_trans hB0 hsk
    have hwi0 : 0 ≤ wi ∧ wi ≤ 6 := by omega
    clear hfs hb
    by_cases hlt : wn ≤ e
    · have hle : wi ≤ (e : Int) := by omega
      have hwl : wn < L.length := by rw [HL.out]; omega
      have hx := HOK2.out _ (drop_mem hwl)
      obtain ⟨bl, ol, rfl, hbl, d0⟩ := hLk.at_ (intCells_at L wn hwl)
      have HFS2 : Hid ((placeG js L h wn).or ((List.range' (wn + 1) (e + 1 - (wn + 1))).findSome? (placeG js L h)) = R) := by
        have := HFS.out
        rw [show e + 1 - wn = (e + 1 - (wn + 1)) + 1 by omega, List.range'_succ, List.findSome?_cons] at this
        cases hg : placeG js L h wn with
        | none => rw [hg] at this; exact this
        | some q => rw [hg] at this; exact this
      have HG : Hid (placeG js L h wn = if L[wn]?.getD 0 < h then none else (placeM js (L.set wn (L[wn]?.getD 0 - h))).map fun l => (wn : Int) :: l) := rfl
      obtain ⟨x, hxv⟩ : ∃ x, L[wn]?.getD 0 = x := ⟨_, rfl⟩
      rw [hxv] at d0 hx HG
      have HXV := Lib.hid hxv
      clear HFS hxv
      have hni : wi.toNat = wn := by omega
      go_upto_region 7 with (fail)
      have y0 := fun y : Xt wr => y.cell m0
      have y1 := fun y : Xt wr => y.cell d0
      by_cases hxh : x < h
      · have q : decide (x < h) = true := decide_eq_true hxh
        have HN : Hid ((List.range' (wn + 1) (e + 1 - (wn + 1))).findSome? (placeG js L h) = R) := by
          have := HFS2.out
          rw [HG.out, if_pos hxh] at this
          exact this
        refine wp_region_xt (by kernel_rfl) (by kernel_rfl) ?_
        repeat (go_big_quiet_step (fail))
        refine wpQuiet_nil ?_
        intro w1 hx1
        have HB1 := Lib.hid (HBK.out.trans ((Xt.below hx1).mono hsk))
        clear hx1 y0 y1 q
        go_wp2
        go_roundw
        case rel => exact ⟨wn + 1, wi + 1, by omega, by omega, by have := HWI.out; omega, by go_num, HN.out, HB1.out⟩
        case measure => simp [intOf]; omega
      · have q : decide (x < h) = false := decide_eq_false hxh
        have HG2 : Hid (placeG js L h wn = (placeM js (L.set wn (x - h))).map fun l => (wn : Int) :: l) := by
          rw [Hid, HG.out, if_neg hxh]
        refine wp_region_xt (by kernel_rfl) (by kernel_rfl) ?_
        repeat (go_big_quiet_step (fail))
        refine wpQuiet_nil ?_
        intro w1 hx1
        have hb1 := Xt.below hx1
        clear hx1 y0 y1 q HG
        replace m0 := kept hb1 m0
        replace m2 := kept hb1 m2
        replace hLk := hLk.below (hb1.mono hBk)
        replace hjk := hjk.below (hb1.mono hBk)
        replace HBK := Lib.hid (HBK.out.trans (hb1.mono hsk))
        replace hsk := Nat.le_trans hsk hb1.size
        replace hBk := Nat.le_trans hBk hb1.size
        clear hb1 d0
        go_upto_region 9 with (go_at_call 134; refine (CloneI_any w1 B (some ⟨bl, ol, none⟩) nw cl L HL.out (by omega) hLk hBk).mono ?_; rintro e1 w2 ⟨A2, c2, rfl, hown2, hb2⟩)
        obtain ⟨G, rfl⟩ : ∃ G, A2 = some ⟨G, 0, none⟩ := by
          rcases hown2.2 with ⟨_, h0⟩ | ⟨g, cap, cur, he, _⟩
          · exact absurd h0 (by omega)
          · simp only [Value.slice.injEq] at he
            exact ⟨g, he.1⟩
        obtain ⟨p0, p1, p2, p3⟩ := ownI_cell hown2 (intCells_at L wn hwl)
        rw [HXV.out] at p0
        have m0' := kept hb2 m0
        have y0 := fun y : Xt w2 => y.cell m0'
        have y1 := fun y : Xt w2 => y.cell p0
        have OWN3 : Hid ((w2.setCell ⟨G, wn, none⟩ (.int .i64 (x - h))).drew.ownsRow w1.heap.size 3 1 (.slice (some ⟨G, 0, none⟩) nw c2) nw (intCells (L.set wn (x - h)))) := by
          rw [Hid, ← intCells_set]
          exact ownI_set hown2 _
        have HB3 : Hid (Below w1.heap.size w1 (w2.setCell ⟨G, wn, none⟩ (.int .i64 (x - h))).drew) := (hb2.setCell (p := ⟨G, wn, none⟩) p2 _).drew
        have hG : w1.heap.size ≤ G := p2
        refine wp_region_eager [8] (fun w' => ∃ y : Xt w2, w' = y.1) (by kernel_rfl) ⟨⟨w2.drew, (Below.refl _ _).drew⟩, rfl⟩ ?_
        refine wpE_reads [0, 1, 2, 3, 4, 5, 6, 7] 1 rfl (by kernel_rfl) ?_
        simp only [opsAt_nil, opsAt_cons, consOpt_some, List.getElem?_toArray, List.getElem?_cons_zero, List.getElem?_cons_succ]
        repeat (go_big_quiet_step (fail))
        refine wpQuiet_nil ?_
        clear y0 y1 m0'
        refine wpE_tail rfl (by kernel_rfl) ?_
        simp only [opsAt_nil, opsAt_cons, consOpt_some, List.getElem?_toArray, List.getElem?_cons_zero, List.getElem?_cons_succ]
        go_wp2
        refine onlyNormal_mk ?_
        clear p0 p1 p2 p3 hown2 hb2
        generalize (w2.setCell ⟨G, wn, none⟩ (.int .i64 (x - h))).drew = w3 at *
        replace hjk := hjk.below (HB3.out.mono hBk)
        replace HBK := Lib.hid (HBK.out.trans (HB3.out.mono hsk))
        have hsk1 := hsk
        replace hsk := Nat.le_trans hsk HB3.out.size
        replace hBk := Nat.le_trans hBk HB3.out.size
        have hrd3 := rd_own OWN3.out
        have okL : ∀ y ∈ L.set wn (x - h), 0 ≤ y ∧ y ≤ 1000 := by
          intro y hy
          rcases List.mem_or_eq_of_mem_set hy with hy | rfl
          · exact HOK2.out y hy
          · omega
        obtain ⟨L', hL'⟩ : ∃ L', L.set wn (x - h) = L' := ⟨_, rfl⟩
        have hlL : L'.length = nw := by rw [← hL', List.length_set]; exact HL.out
        rw [hL'] at hrd3 okL HG2
        have hjB := (hjk.mono hBk)
        clear m0 m2 hLk OWN3 HB3 HXV hL' hx hwl
        obtain ⟨o, ho⟩ : ∃ o, placeM js L' = o := ⟨_, rfl⟩
        rw [ho] at HG2
        have HT : Hid (∀ T, o = some T → T.length ≤ 6) := fun T hT => by
          rw [(place_some (n := nw) js L' T (fun q hq => (HOK.out q hq).2) (ho.trans hT)).1, HM.out]
          exact hm6
        by_cases hc1 : cj = 1
        · subst hc1
          obtain rfl : m = 0 := by omega
          obtain rfl : js = [] := List.eq_nil_of_length_eq_zero HM.out
          have C := IH w3 w3.heap.size (some ⟨bb, off, none⟩) (some ⟨G, 0, none⟩) 0 0 c2 L' rfl hlL (Nat.le_refl _) (fun k u hk => by simp [evCells] at hk) hrd3 (Nat.le_refl _) (fun q hq => by simp at hq) okL
          rw [ho] at C
          unfold RefLeastPost at C
          clear ho hjB hjk okL hrd3 hlL
          cases o with
          | none =>
            simp only [BeamsAt, Option.isSome_none] at C
            have HN : Hid ((List.range' (wn + 1) (e + 1 - (wn + 1))).findSome? (placeG [] L h) = R) := by
              have := HFS2.out
              rw [HG2.out] at this
              exact this
            go_wp2_with (go_at_call 135; refine C.mono ?_; rintro e2 w4 ⟨v, rfl, rfl, hb4⟩)
            have HB4 := Lib.hid (HBK.out.trans (hb4.mono hsk))
            clear hb4 C
            go_wp2
            go_roundw
            case rel =>
              have HREL : PlaceRel w0 [] L h f e R (.int .i64 (wi + 1)) w4 := ⟨wn + 1, wi + 1, by omega, by omega, by have := HWI.out; omega, rfl, HN.out, HB4.out⟩
              repeat apply Exists.intro
              exact ⟨HREL, rfl⟩
            case measure => simp [intOf]; omega
          | some T =>
            simp only [BeamsAt, Option.isSome_some] at C
            have HRS : Hid (R = some ((wn : Int) :: T)) := by
              have := HFS2.out
              rw [HG2.out] at this
              exact this.symm
            have hT := HT.out T rfl
            go_upto_region 12 with (go_at_call 135; refine C.mono ?_; rintro e2 w4 ⟨v, rfl, ⟨A4, c4, rfl, hT4⟩, hb4⟩)
            have HB4 := Lib.hid (HBK.out.trans (hb4.mono hsk))
            replace hsk := Nat.le_trans hsk hb4.size
            clear hb4 C
            go_wp2_with (at_builtin; refine stp ?_)
            unfold Stp
            have hb5 : Below w4.heap.size w4 (w4.alloc (.cells #[.int .i64 wi] 3)) := (Below.refl _ _).alloc (Nat.le_refl _) _
            have own5 : (w4.alloc (.cells #[.int .i64 wi] 3)).ownsRow w4.heap.size 3 1 (.slice (some ⟨w4.heap.size, 0, none⟩) 1 1) 1 [.int .i64 wi] := ⟨rfl, .inr ⟨w4.heap.size, 1, #[Value.int IntKind.i64 wi], rfl, Nat.le_refl _, by rw [heapq_alloc, if_pos rfl], by omega, by simp only [maxLen]; omega, rfl, rfl⟩⟩
            refine wpList_append_on _ rfl _ _ 39 rfl w4.heap.size 3 i1 _ 1 8 Tryd.underlying39 hi1 hy0 hy1 hy2 rfl (by omega) w4.heap.size 1 1 [.int .i64 wi] rfl own5 w4.heap.size A4 T.length c4 (intCells T) rfl (by simp [intCells]) (hT4.below hb5) (intCells_one T) (by simp only [maxLen]; omega) (by omega) (by simp) ?_
            intro g1 cap1 w6 hown6 hgrow6 hat6
            have hb6 : Below w4.heap.size w4 w6 := hb5.grown hgrow6 hb5.size (fun k hk => by rw [← Option.some.inj hk]; exact Nat.le_refl _)
            have HRD : Hid (Rd w6 w6.heap.size (some ⟨g1, 0, none⟩) (intCells ((wn : Int) :: T))) := by
              have := rd_own hown6
              rw [← HWI.out] at this
              exact this
            have HB6 := Lib.hid (HB4.out.trans (hb6.mono hsk))
            clear hown6 hgrow6 hat6 own5 hb5 hb6
            go_wp2
            go_ret2
            exact ⟨.slice (some ⟨g1, 0, none⟩) (1 + T.length) cap1, by rw [HRS.out]; rfl, by rw [HRS.out]; exact ⟨some ⟨g1, 0, none⟩, cap1, by rw [List.length_cons, Nat.add_comm], HRD.out⟩, HXX.out ▸ HB.out.trans (HB6.out.mono hs0)⟩
        · have C := IH w3 w3.heap.size (some ⟨bb, off + 3, none⟩) (some ⟨G, 0, none⟩) m (cj - 1) c2 L' HM.out hlL (by omega) hjB hrd3 (Nat.le_refl _) HOK.out okL
          rw [ho] at C
          unfold RefLeastPost at C
          clear ho hjB hjk okL hrd3 hlL
          cases o with
          | none =>
            simp only [BeamsAt, Option.isSome_none] at C
            have HN : Hid ((List.range' (wn + 1) (e + 1 - (wn + 1))).findSome? (placeG js L h) = R) := by
              have := HFS2.out
              rw [HG2.out] at this
              exact this
            go_wp2_with (go_at_call 135; refine C.mono ?_; rintro e2 w4 ⟨v, rfl, rfl, hb4⟩)
            have HB4 := Lib.hid (HBK.out.trans (hb4.mono hsk))
            clear hb4 C
            go_wp2
            go_roundw
            case rel =>
              have HREL : PlaceRel w0 js L h f e R (.int .i64 (wi + 1)) w4 := ⟨wn + 1, wi + 1, by omega, by omega, by have := HWI.out; omega, rfl, HN.out, HB4.out⟩
              repeat apply Exists.intro
              exact ⟨HREL, rfl⟩
            case measure => simp [intOf]; omega
          | some T =>
            simp only [BeamsAt, Option.isSome_some] at C
            have HRS : Hid (R = some ((wn : Int) :: T)) := by
              have := HFS2.out
              rw [HG2.out] at this
              exact this.symm
            have hT := HT.out T rfl
            go_upto_region 12 with (go_at_call 135; refine C.mono ?_; rintro e2 w4 ⟨v, rfl, ⟨A4, c4, rfl, hT4⟩, hb4⟩)
            have HB4 := Lib.hid (HBK.out.trans (hb4.mono hsk))
            replace hsk := Nat.le_trans hsk hb4.size
            clear hb4 C
            go_wp2_with (at_builtin; refine stp ?_)
            unfold Stp
            have hb5 : Below w4.heap.size w4 (w4.alloc (.cells #[.int .i64 wi] 3)) := (Below.refl _ _).alloc (Nat.le_refl _) _
            have own5 : (w4.alloc (.cells #[.int .i64 wi] 3)).ownsRow w4.heap.size 3 1 (.slice (some ⟨w4.heap.size, 0, none⟩) 1 1) 1 [.int .i64 wi] := ⟨rfl, .inr ⟨w4.heap.size, 1, #[Value.int IntKind.i64 wi], rfl, Nat.le_refl _, by rw [heapq_alloc, if_pos rfl], by omega, by simp only [maxLen]; omega, rfl, rfl⟩⟩
            refine wpList_append_on _ rfl _ _ 39 rfl w4.heap.size 3 i1 _ 1 8 Tryd.underlying39 hi1 hy0 hy1 hy2 rfl (by omega) w4.heap.size 1 1 [.int .i64 wi] rfl own5 w4.heap.size A4 T.length c4 (intCells T) rfl (by simp [intCells]) (hT4.below hb5) (intCells_one T) (by simp only [maxLen]; omega) (by omega) (by simp) ?_
            intro g1 cap1 w6 hown6 hgrow6 hat6
            have hb6 : Below w4.heap.size w4 w6 := hb5.grown hgrow6 hb5.size (fun k hk => by rw [← Option.some.inj hk]; exact Nat.le_refl _)
            have HRD : Hid (Rd w6 w6.heap.size (some ⟨g1, 0, none⟩) (intCells ((wn : Int) :: T))) := by
              have := rd_own hown6
              rw [← HWI.out] at this
              exact this
            have HB6 := Lib.hid (HB4.out.trans (hb6.mono hsk))
            clear hown6 hgrow6 hat6 own5 hb5 hb6
            go_wp2
            go_ret2
            exact ⟨.slice (some ⟨g1, 0, none⟩) (1 + T.length) cap1, by rw [HRS.out]; rfl, by rw [HRS.out]; exact ⟨some ⟨g1, 0, none⟩, cap1, by rw [List.length_cons, Nat.add_comm], HRD.out⟩, HXX.out ▸ HB.out.trans (HB6.out.mono hs0)⟩
    · have HG : Hid (R = none) := by
        have := HFS.out
        rw [show e + 1 - wn = 0 by omega] at this
        exact this.symm
      have hgt : ¬ wi ≤ (e : Int) := by omega
      go_wp2
      go_ret2
      exact ⟨.slice none 0 0, by rw [HG.out]; rfl, by rw [HG.out]; rfl, HXX.out ▸ HB.out.trans (HBK.out.mono hs0)⟩
theorem place_all (nw : Nat) (hnw : nw ≤ 5) : ∀ J : List Jb, J.length ≤ 7 → PlaceAll nw J
  | [], _ => place_nil nw
  | j :: js, h => place_cons nw hnw j js (by simp at h; omega) (place_all nw hnw js (by simp at h; omega))
end Go.Proofs.YtmcjnfghlpnghaaDoor

namespace Go.Proofs.YtmcjnfghlpnghaaDoor
open Go.RowKit

set_option maxHeartbeats 4000000 in
theorem FirstWork_no (w : World) (B : Nat) (Aw Aj : Option Addr) (nw cw nj cj : Nat) (W : List Int) (J : List Jb) (hl : W.length = nw) (hlj : J.length = nj) (hw : Rd w B Aw (intCells W)) (hj : Rd w B Aj (evCells J)) (hB : B ≤ w.heap.size) (hn : nw ≤ 1000000) (hm : nj ≤ 1000000) (h0 : workM W J ≠ 0) :
    Calls Tryd.prog 82 #[.agg #[.slice Aw nw cw, .slice Aj nj cj]] w (LeastOutPost w none (workM W J)) := by
  have hb0 : Below w.heap.size w (w.alloc (.cells #[.slice Aw nw cw, .slice Aj nj cj] 130)) := (Below.refl _ _).alloc (Nat.le_refl _) _
  have k0 : (w.alloc (.cells #[.slice Aw nw cw, .slice Aj nj cj] 130)).heap[w.heap.size]? = some (.cells #[.slice Aw nw cw, .slice Aj nj cj] 130 (0, 0)) := by rw [heapq_alloc, if_pos rfl]
  have c0 := (cell_of_row _ _ 0 _ _ _ k0).trans (by rfl : _ = some (.slice Aw nw cw))
  have c1 := (cell_of_row _ _ 1 _ _ _ k0).trans (by rfl : _ = some (.slice Aj nj cj))
  have hw0 := hw.below (hb0.mono hB)
  have hj0 := hj.below (hb0.mono hB)
  have hs0 : w.heap.size ≤ (w.alloc (.cells #[.slice Aw nw cw, .slice Aj nj cj] 130)).heap.size := hb0.size
  have hB0 := Nat.le_trans hB hs0
  have HL := Lib.hid hl
  have HLJ := Lib.hid hlj
  have HB := Lib.hid hb0
  have WE := workErr_any (w.alloc (.cells #[.slice Aw nw cw, .slice Aj nj cj] 130)) B Aw Aj nw cw nj cj W J hl hlj hw0 hj0 hB0 hn hm
  unfold ErrVal at WE
  have e1 : (workM W J != 0) = true := bne_iff_ne.2 h0
  generalize workM W J = er at *
  clear hw hj hl hlj hb0 k0 h0
  go_enter Tryd.func82, Tryd.ntmps82
  go_upto_region 1 with (fail)
  generalize (w.alloc (.cells #[.slice Aw nw cw, .slice Aj nj cj] 130)) = w0 at *
  go_wp2_with (go_at_call 133; refine WE.mono ?_; rintro e w1 ⟨rfl, hb1⟩)
  go_ret2
  exact ⟨.slice none 0 0, rfl, rfl, HB.out.trans (hb1.mono hs0)⟩

set_option maxRecDepth 100000 in
set_option maxHeartbeats 4000000 in
theorem FirstWork_yes (w : World) (B : Nat) (Aw Aj : Option Addr) (nw cw nj cj : Nat) (W : List Int) (J : List Jb) (hl : W.length = nw) (hlj : J.length = nj) (hw : Rd w B Aw (intCells W)) (hj : Rd w B Aj (evCells J)) (hB : B ≤ w.heap.size) (hn : nw ≤ 1000000) (hm : nj ≤ 1000000) (hc : nj ≤ cj) (h0 : workM W J = 0) (R : Option (List Int)) (hR : placeM J W = R) :
    Calls Tryd.prog 82 #[.agg #[.slice Aw nw cw, .slice Aj nj cj]] w (LeastOutPost w R (leastE R)) := by
  have hb0 : Below w.heap.size w (w.alloc (.cells #[.slice Aw nw cw, .slice Aj nj cj] 130)) := (Below.refl _ _).alloc (Nat.le_refl _) _
  have k0 : (w.alloc (.cells #[.slice Aw nw cw, .slice Aj nj cj] 130)).heap[w.heap.size]? = some (.cells #[.slice Aw nw cw, .slice Aj nj cj] 130 (0, 0)) := by rw [heapq_alloc, if_pos rfl]
  have c0 := (cell_of_row _ _ 0 _ _ _ k0).trans (by rfl : _ = some (.slice Aw nw cw))
  have c1 := (cell_of_row _ _ 1 _ _ _ k0).trans (by rfl : _ = some (.slice Aj nj cj))
  have hw0 := hw.below (hb0.mono hB)
  have hj0 := hj.below (hb0.mono hB)
  have hs0 : w.heap.size ≤ (w.alloc (.cells #[.slice Aw nw cw, .slice Aj nj cj] 130)).heap.size := hb0.size
  have hB0 := Nat.le_trans hB hs0
  have HL := Lib.hid hl
  have HLJ := Lib.hid hlj
  have HB := Lib.hid hb0
  have WE := workErr_any (w.alloc (.cells #[.slice Aw nw cw, .slice Aj nj cj] 130)) B Aw Aj nw cw nj cj W J hl hlj hw0 hj0 hB0 hn hm
  unfold ErrVal at WE
  rw [h0] at WE
  obtain ⟨g1, g2, g3, g4⟩ := workM_zero h0
  rw [hl] at g1 g4
  have PL := place_all nw g1.2 J (by omega)
  have HR := Lib.hid hR
  clear hw hj hl hlj hb0 k0 h0 hR
  go_enter Tryd.func82, Tryd.ntmps82
  go_upto_region 1 with (fail)
  generalize (w.alloc (.cells #[.slice Aw nw cw, .slice Aj nj cj] 130)) = w0 at *
  go_upto_region 4 with (go_at_call 133; refine WE.mono ?_; rintro e w1 ⟨rfl, hb1⟩)
  replace c0 := kept hb1 c0
  replace c1 := kept hb1 c1
  replace hw0 := hw0.below (hb1.mono hB0)
  replace hj0 := hj0.below (hb1.mono hB0)
  replace HB := Lib.hid (HB.out.trans (hb1.mono hs0))
  replace hs0 := Nat.le_trans hs0 hb1.size
  replace hB0 := Nat.le_trans hB0 hb1.size
  clear hb1
  clear WE
  have C := PL w1 B Aj Aw nj cj cw W HLJ.out HL.out hc hj0 hw0 hB0 g4 g3
  rw [HR.out] at C
  unfold RefLeastPost at C
  clear g1 g2 g3 g4 hj0 hw0 HR PL
  cases R with
  | none =>
    simp only [BeamsAt, Option.isSome_none] at C
    go_wp2_with (first | (go_at_call 135; refine C.mono ?_; rintro e2 w4 ⟨v, rfl, rfl, hb4⟩) | (go_at_call 92; refine (unless_any _ _ _).mono ?_; rintro e3 w5 ⟨rfl, rfl⟩))
    go_ret2
    exact ⟨.slice none 0 0, rfl, rfl, HB.out.trans (hb4.mono hs0)⟩
  | some T =>
    simp only [BeamsAt, Option.isSome_some] at C
    go_wp2_with (first | (go_at_call 135; refine C.mono ?_; rintro e2 w4 ⟨v, rfl, ⟨A4, c4, rfl, hT4⟩, hb4⟩) | (go_at_call 92; refine (unless_any _ _ _).mono ?_; rintro e3 w5 ⟨rfl, rfl⟩))
    go_ret2
    exact ⟨.slice A4 T.length c4, rfl, ⟨A4, c4, rfl, hT4⟩, HB.out.trans (hb4.mono hs0)⟩
end Go.Proofs.YtmcjnfghlpnghaaDoor

namespace Go.Proofs.YtmcjnfghlpnghaaDoor
open Go.RowKit Go.Maps

theorem same_int (a b : Int) : (Lit.int .i64 a).sameKey (Lit.int .i64 b) = (a == b) := by
  rw [Bool.eq_iff_iff]
  simp [Lit.sameKey]
theorem keys_fold : ∀ (ws ks : List Int), (ws.map (Lit.int .i64)).foldl addKey (ks.map (Lit.int .i64)) = (keysGo ks ws).map (Lit.int .i64)
  | [], ks => rfl
  | w :: ws, ks => by
    rw [List.map_cons, List.foldl_cons, keysGo, ← keys_fold ws]
    congr 1
    unfold addKey hasI
    rw [List.any_map]
    have : ((fun y : Lit => y.sameKey (Lit.int .i64 w)) ∘ Lit.int .i64) = fun y => y == w := by
      funext y
      exact same_int y w
    rw [this]
    split <;> simp
theorem size_keys (ws : List Int) : Maps.size (Maps.setOf (H := Unit) (.lit (.bool true)) (ws.map (Lit.int .i64))) = (keysGo [] ws).length := by
  rw [size_setOf _ _ (fun x hx => by
    obtain ⟨a, _, rfl⟩ := List.mem_map.1 hx
    simp [WideAt.IsKeyLit])]
  have := keys_fold ws []
  rw [List.map_nil] at this
  rw [this, List.length_map]
theorem ownsMap_below {H : Type} {w w' : World} {P : Program} {k : TypeId} {R : Value → Option (DataW H × List MemPlace)} {b n : Nat} {D : DataW H} (h : w.ownsMap P k R b n D) (hb : Below w.heap.size w w') : w'.ownsMap P k R b n D := by
  have hlt := h.lt
  obtain ⟨es, clock, hbk, r⟩ := h
  exact ⟨es, clock, (hb.block b hlt).trans hbk, r⟩
theorem ownsMap_set {H : Type} {w : World} {P : Program} {k : TypeId} {R : Value → Option (DataW H × List MemPlace)} {b n : Nat} {D : DataW H} {g i : Nat} {v : Value} (h : w.ownsMap P k R b n D) (hne : g ≠ b) : (w.setCell ⟨g, i, none⟩ v).drew.ownsMap P k R b n D := by
  obtain ⟨es, clock, hbk, r⟩ := h
  refine ⟨es, clock, ?_, r⟩
  show (w.setCell ⟨g, i, none⟩ v).heap[b]? = _
  rw [heapq_set, if_neg (fun e => hne e.symm)]
  exact hbk
theorem own_map_ne {H : Type} {w : World} {P : Program} {k : TypeId} {R : Value → Option (DataW H × List MemPlace)} {b n : Nat} {D : DataW H} {B e size m g c : Nat} {xs : List Value} (h : w.ownsRow B e size (.slice (some ⟨g, 0, none⟩) m c) m xs) (h2 : w.ownsMap P k R b n D) : g ≠ b := by
  rintro rfl
  obtain ⟨_, _, cur, hcur⟩ := ownBlk h rfl
  obtain ⟨es, clock, hbk, _⟩ := h2
  rw [hcur] at hbk
  simp at hbk
theorem take_at {α : Type} (l : List α) (d : α) (k : Nat) (h : k < l.length) : l.take (k + 1) = l.take k ++ [l[k]?.getD d] := by
  rw [List.take_add_one, List.getElem?_eq_getElem h]
  rfl

def CheckRel (w1 : World) (s1 nw : Nat) (J : List Jb) (nj : Nat) (ws : List Int) (E : Int) (G cG bm : Nat) (u : Value) (wr : World) : Prop :=
  ∃ (k : Nat) (L : List Int), k ≤ nj ∧ u = .int .i64 k ∧ L.length = nw ∧ (∀ x ∈ L, 0 ≤ x ∧ x ≤ 1000) ∧ placedGo nw L (J.drop k) (ws.drop k) = E ∧ wr.ownsRow s1 3 1 (.slice (some ⟨G, 0, none⟩) nw cG) nw (intCells L) ∧
    wr.ownsMap (H := Unit) Tryd.prog 3 (plainElem Tryd.prog 4) bm k (Maps.setOf (.lit (.bool true)) ((ws.take k).map (Lit.int .i64))) ∧ Below s1 w1 wr

set_option maxRecDepth 100000 in
set_option maxHeartbeats 4000000 in
theorem CheckWork_any (w : World) (B : Nat) (Aw Aj : Option Addr) (nw cw nj cj : Nat) (W : List Int) (J : List Jb) (hl : W.length = nw) (hlj : J.length = nj) (hw : Rd w B Aw (intCells W)) (hj : Rd w B Aj (evCells J)) (hB : B ≤ w.heap.size) (hn : nw ≤ 1000000) (hm : nj ≤ 1000000) (At : Option Addr) (nt ct : Nat) (ws : List Int) (hlt : ws.length = nt) (ht : Rd w B At (intCells ws)) (hnt : nt ≤ 1000000) (E N : Int) (hE : checkM W J ws = E) (hN : checkN W J ws = N) :
    Calls Tryd.prog 80 #[.agg #[.slice Aw nw cw, .slice Aj nj cj], .slice At nt ct] w (LeastPost w N E) := by
  have hb0 : Below w.heap.size w (w.alloc (.cells #[.slice Aw nw cw, .slice Aj nj cj] 130)) := (Below.refl _ _).alloc (Nat.le_refl _) _
  have k0 : (w.alloc (.cells #[.slice Aw nw cw, .slice Aj nj cj] 130)).heap[w.heap.size]? = some (.cells #[.slice Aw nw cw, .slice Aj nj cj] 130 (0, 0)) := by rw [heapq_alloc, if_pos rfl]
  have c0 := (cell_of_row _ _ 0 _ _ _ k0).trans (by rfl : _ = some (.slice Aw nw cw))
  have c1 := (cell_of_row _ _ 1 _ _ _ k0).trans (by rfl : _ = some (.slice Aj nj cj))
  have hw0 := hw.below (hb0.mono hB)
  have hj0 := hj.below (hb0.mono hB)
  have hs0 : w.heap.size ≤ (w.alloc (.cells #[.slice Aw nw cw, .slice Aj nj cj] 130)).heap.size := hb0.size
  have hB0 := Nat.le_trans hB hs0
  have HL := Lib.hid hl
  have HLJ := Lib.hid hlj
  have HB := Lib.hid hb0
  have ht0 := ht.below (hb0.mono hB)
  have HLT := Lib.hid hlt
  have HXL : Hid (w.heap.size < (w.alloc (.cells #[.slice Aw nw cw, .slice Aj nj cj] 130)).heap.size) := by rw [Hid]; simp
  have HNZ : Hid (E ≠ 0 → N = 0) := fun h => by rw [← hN, checkN, hE, if_neg h]
  have HNU : Hid (E = 0 → ((keysGo [] ws).length : Int) = N) := fun h => by
    rw [← hN, checkN, hE, if_pos h]
    rw [h] at hE
    unfold checkM at hE
    split at hE
    · split at hE
      · rename_i h1 h2
        rw [keys_used (placed_in J ws W h2 hE)]
      · cases hE
    · rename_i h1
      exact absurd hE h1
  have HEW : Hid (workM W J ≠ 0 → E = workM W J) := fun h => by rw [← hE, checkM, if_neg h]
  have HES : Hid (workM W J = 0 → nt ≠ nj → E = 10) := fun h h2 => by rw [← hE, checkM, if_pos h, if_neg (by rw [hlt, hlj]; exact h2)]
  have HEP : Hid (workM W J = 0 → nt = nj → placedGo nw W J ws = E) := fun h h2 => by rw [← hE, checkM, if_pos h, if_pos (by rw [hlt, hlj]; exact h2), hl]
  have WE := fun y : Xt (w.alloc (.cells #[.slice Aw nw cw, .slice Aj nj cj] 130)) => workErr_any y.1 B Aw Aj nw cw nj cj W J hl hlj (hw0.below (y.2.mono hB0)) (hj0.below (y.2.mono hB0)) (Nat.le_trans hB0 y.2.size) hn hm
  have hmm := @run_makeMap Tryd.prog
  unfold ErrVal at WE
  obtain ⟨ew, hew⟩ : ∃ ew, workM W J = ew := ⟨_, rfl⟩
  rw [hew] at HEW HES HEP
  simp only [hew] at WE
  have HWM := Lib.hid hew
  clear hw hj hl hlj hlt ht hb0 k0 hE hN hew
  go_enter Tryd.func80, Tryd.ntmps80
  go_upto_region 1 with (fail)
  generalize (w.alloc (.cells #[.slice Aw nw cw, .slice Aj nj cj] 130)) = w0 at *
  generalize hxx : w.heap.size = x0 at *
  have HXX := Lib.hid hxx
  clear hxx
  have y0 := fun y : Xt w0 => y.cell c0
  have y1 := fun y : Xt w0 => y.cell c1
  refine wp_region_cut [] [0, 1, 2, 3, 4, 5, 6, 7, 8] 9 [10, 11] (fun w' => ∃ y : Xt w0, w' = y.1) (by kernel_rfl) (by kernel_rfl) ⟨⟨w0.drew, (Below.refl _ _).drew⟩, rfl⟩ ?_
  simp only [opsAt_nil, opsAt_cons, consOpt_some, List.getElem?_toArray, List.getElem?_cons_zero, List.getElem?_cons_succ]
  refine wpQuiet_nil ?_
  show wpQuiet _ _ _ _ _ _
  repeat (go_big_quiet_step (first | (go_at_call 133; exact Xt.calls (WE _)) | (go_at_call 92; exact Xt.calls_same (unless_any _ _ _))))
  refine wpQuiet_nil ?_
  intro wq hx1
  have hbx := Xt.below hx1
  clear hx1 y0 y1 WE
  have F2 := fun a b => first2 wq a b
  go_wp2_with (go_at_call 91; refine (F2 _ _).mono ?_; rintro e3 w' ⟨rfl, rfl⟩)
  refine onlyNormal_mk ?_
  generalize hEr : firstE _ = er
  generalize hw1 : wq.alloc _ = w1
  have hb1 : Below w0.heap.size w0 w1 := by rw [← hw1]; exact hbx.alloc hbx.size _
  clear hw1 hbx F2
  replace c0 := kept hb1 c0
  replace c1 := kept hb1 c1
  replace hw0 := hw0.below (hb1.mono hB0)
  replace hj0 := hj0.below (hb1.mono hB0)
  replace ht0 := ht0.below (hb1.mono hB0)
  replace HB := Lib.hid (HB.out.trans (hb1.mono hs0))
  replace hs0 := Nat.le_trans hs0 hb1.size
  replace hB0 := Nat.le_trans hB0 hb1.size
  clear hb1
  have HX1 : Hid (x0 < w1.heap.size) := by
    have := HXL.out
    rw [Hid]
    have := lt_of_cell c0
    exact this
  by_cases hw9 : ew = 0
  · by_cases hnn : nt = nj
    · have : er = 0 := by
        rw [← hEr, hw9]
        have : decide ((nt : Int) = (nj : Int)) = true := decide_eq_true (by omega)
        simp [firstE, unlessE, hnn]
      subst this
      have hEP := HEP.out hw9 hnn
      obtain ⟨g1, g2, g3, g4⟩ := workM_zero (HWM.out.trans hw9)
      rw [HL.out] at g1 g4
      have HEP2 := Lib.hid hEP
      have OK := Lib.hid g4
      subst hnn
      clear hEr hEP g4 HES HEW HEP
      go_upto_region 4 with fail
      have CI := CloneI_any w1 B Aw nw cw W HL.out (by omega) hw0 hB0
      go_wp2_with (go_at_call 134; refine CI.mono ?_; rintro e3 w3 ⟨AG, cG, rfl, hown3, hb3⟩)
      obtain ⟨G, rfl⟩ : ∃ G, AG = some ⟨G, 0, none⟩ := by
        rcases hown3.2 with ⟨_, h0⟩ | ⟨g, cap, cur, he, _⟩
        · exact absurd h0 (by omega)
        · simp only [Value.slice.injEq] at he
          exact ⟨g, he.1⟩
      have HREL : Hid (CheckRel w1 w1.heap.size nw J nt ws E G cG w3.heap.size (.int .i64 0) (w3.alloc (.map #[] 0))) :=
        ⟨0, W, Nat.zero_le _, rfl, HL.out, g3, by rw [List.drop_zero, List.drop_zero]; exact HEP2.out, hown3.alloc _, World.ownsMap_made _ _ _ _, hb3.alloc hb3.size _⟩
      have HBM : Hid (w1.heap.size ≤ w3.heap.size) := hb3.size
      have C1 := Lib.hid c1
      have hs1 := hs0
      clear CI hown3 hb3 c0 c1 hw0 g3
      generalize w3.alloc (.map #[] 0) = w4 at *
      generalize w3.heap.size = bm at *
      go_loopw [33] (fun u wr => CheckRel w1 w1.heap.size nw J nt ws E G cG bm u wr) (fun u _ => nt - (intOf u).toNat)
      case atStart => exact HREL.out
      case round =>
        clear HREL hmm
        obtain ⟨k, L, hk, rfl, hLl, hLb, hgo, hown, hmap, hb⟩ := hrel
        have HGO := Lib.hid hgo
        have HBK := Lib.hid hb
        have HOWN := Lib.hid hown
        have HMAP := Lib.hid hmap
        have HLL := Lib.hid hLl
        have HLB := Lib.hid hLb
        have hsk := hb.size
        have c1 := keptB hb (p := ⟨x0, 1, none⟩) HX1.out C1.out
        have hjk := hj0.below (hb.mono hB0)
        have htk := ht0.below (hb.mono hB0)
        have hBk := Nat.le_trans hB0 hsk
        clear hb hown hmap hgo hLl hLb
        by_cases hlt : k < nt
        · have hkj : k < J.length := by rw [HLJ.out]; exact hlt
          have hkt : k < ws.length := by rw [HLT.out]; exact hlt
          obtain ⟨ev, hev⟩ : ∃ ev, J[k]? = some ev := ⟨_, List.getElem?_eq_getElem hkj⟩
          have hjok := OK.out ev (List.mem_of_getElem? hev)
          obtain ⟨z0, z1, z2⟩ := evCells_at J k ev hev
          obtain ⟨bb, off, rfl, hbB, e0, e1, e2⟩ := hjk.at3 z0 z1 z2
          obtain ⟨bt, ot, rfl, hbt, d0⟩ := htk.at_ (intCells_at ws k hkt)
          have HSJ := Lib.hid (drop_cons' hev)
          have HST := Lib.hid (drop_at ws 0 k hkt)
          have HTK := Lib.hid (take_at ws 0 k hkt)
          generalize ws[k]?.getD 0 = x at *
          obtain ⟨h, f, t⟩ := ev
          simp only at e0 e1 e2
          have hba : Below wr.heap.size wr (wr.alloc (.cells #[.int .i64 h, .int .i64 f, .int .i64 t] 187)) := (Below.refl _ _).alloc (Nat.le_refl _) _
          have kb : (wr.alloc (.cells #[.int .i64 h, .int .i64 f, .int .i64 t] 187)).heap[wr.heap.size]? = some (.cells #[.int .i64 h, .int .i64 f, .int .i64 t] 187 (0, 0)) := by rw [heapq_alloc, if_pos rfl]
          have m0 := (cell_of_row _ _ 0 _ _ _ kb).trans (by rfl : _ = some (.int .i64 h))
          have m1 := (cell_of_row _ _ 1 _ _ _ kb).trans (by rfl : _ = some (.int .i64 f))
          have m2 := (cell_of_row _ _ 2 _ _ _ kb).trans (by rfl : _ = some (.int .i64 t))
          have HOWA := Lib.hid (ownsRow_below HOWN.out hba)
          have HMAA := Lib.hid (ownsMap_below HMAP.out hba)
          have HBA := Lib.hid (HBK.out.trans (hba.mono hsk))
          have hsa := Nat.le_trans hsk hba.size
          have HGO2 : Hid ((if jobE nw L (h, f, t) x = 0 then placedGo nw (takeI L x h) (J.drop (k + 1)) (ws.drop (k + 1)) else jobE nw L (h, f, t) x) = E) := by
            have := HGO.out
            rw [HSJ.out, HST.out, placedGo] at this
            exact this
          have KB := Lib.hid kb
          clear hba kb z0 z1 z2 hev hkj hkt hjk htk HOWN HMAP HBK HGO
          go_upto_region 9 with (fail)
          clear e0 e1 e2 d0 c1
          generalize wr.alloc (.cells #[.int .i64 h, .int .i64 f, .int .i64 t] 187) = wa at *
          generalize wr.heap.size = zb at *
          cases qw : withinB x 0 ((nw : Int) - 1) with
          | false =>
            have HE : Hid (E = 6) := by
              have := HGO2.out
              have hj6 : jobE nw L (h, f, t) x = 6 := by rw [jobE, qw, if_neg (by decide)]
              rw [hj6, if_neg (by decide)] at this
              exact this.symm
            go_wp2_with (go_at_call 99; refine (within_val _ _ _ _ qw _).mono ?_; rintro e3 w' ⟨rfl, rfl⟩)
            go_ret2
            have HN0 : Hid (N = 0) := HNZ.out (by rw [HE.out]; decide)
            exact ⟨by rw [HN0.out, HE.out]; rfl, HXX.out ▸ HB.out.trans (HBA.out.mono hs1)⟩
          | true =>
            have hx0 : 0 ≤ x ∧ x ≤ (nw : Int) - 1 := by simpa [withinB] using qw
            obtain ⟨xn, rfl⟩ := Int.eq_ofNat_of_zero_le hx0.1
            have hxl : xn < L.length := by rw [HLL.out]; omega
            have hv := HLB.out _ (drop_mem hxl)
            obtain ⟨p0, p1, p2, p3⟩ := ownI_cell HOWA.out (intCells_at L xn hxl)
            obtain ⟨v, hvv⟩ : ∃ v, L[xn]?.getD 0 = v := ⟨_, rfl⟩
            rw [hvv] at p0 hv
            have HJE : Hid (jobE nw L (h, f, t) (xn : Int) = if withinB (xn : Int) f t = true then (if v < h then 16 else 0) else 25) := by
              rw [Hid, jobE, qw, if_pos rfl]
              simp only [atI, Int.toNat_natCast, hvv]
            have HTI : Hid (takeI L (xn : Int) h = L.set xn (v - h)) := by
              rw [Hid, takeI]
              simp only [atI, Int.toNat_natCast, hvv]
            have HLS : Hid ((L.set xn (v - h)).length = nw) := by rw [Hid, List.length_set]; exact HLL.out
            go_upto_region 11 with (go_at_call 99; refine (within_val _ _ _ _ qw _).mono ?_; rintro e3 w' ⟨rfl, rfl⟩)
            have y0 := fun y : Xt wa => y.cell m0
            have y1 := fun y : Xt wa => y.cell p0
            have OWN3 : Hid ((wa.setCell ⟨G, xn, none⟩ (.int .i64 (v - h))).drew.ownsRow w1.heap.size 3 1 (.slice (some ⟨G, 0, none⟩) nw cG) nw (intCells (L.set xn (v - h)))) := by
              rw [Hid, ← intCells_set]
              exact ownI_set HOWA.out _
            have HNE : G ≠ bm := own_map_ne HOWA.out HMAA.out
            have MAP3 : Hid ((wa.setCell ⟨G, xn, none⟩ (.int .i64 (v - h))).drew.ownsMap (H := Unit) Tryd.prog 3 (plainElem Tryd.prog 4) bm k (Maps.setOf (.lit (.bool true)) ((ws.take k).map (Lit.int .i64)))) := ownsMap_set HMAA.out HNE
            have HB3 : Hid (Below w1.heap.size w1 (wa.setCell ⟨G, xn, none⟩ (.int .i64 (v - h))).drew) := (HBA.out.setCell (p := ⟨G, xn, none⟩) p2 _).drew
            have hzb : zb ≠ G := ownBlk_ne HOWA.out rfl KB.out (by decide)
            have m1' : (wa.setCell ⟨G, xn, none⟩ (.int .i64 (v - h))).drew.cell? ⟨zb, 1, none⟩ = some (.int .i64 f) := by
              show (wa.setCell ⟨G, xn, none⟩ (.int .i64 (v - h))).cell? ⟨zb, 1, none⟩ = _
              rw [World.cell?_setCell_other _ _ _ _ (fun he => hzb (by simpa using (congrArg Addr.block he).symm))]
              exact m1
            have m2' : (wa.setCell ⟨G, xn, none⟩ (.int .i64 (v - h))).drew.cell? ⟨zb, 2, none⟩ = some (.int .i64 t) := by
              show (wa.setCell ⟨G, xn, none⟩ (.int .i64 (v - h))).cell? ⟨zb, 2, none⟩ = _
              rw [World.cell?_setCell_other _ _ _ _ (fun he => hzb (by simpa using (congrArg Addr.block he).symm))]
              exact m2
            have p0' : (wa.setCell ⟨G, xn, none⟩ (.int .i64 (v - h))).drew.cell? ⟨G, xn, none⟩ = some (.int .i64 (v - h)) := by
              have := (ownI_cell OWN3.out (intCells_at (L.set xn (v - h)) xn (by rw [List.length_set]; exact hxl))).1
              rw [this]
              simp [hxl]
            refine wp_region_eager [8] (fun w' => ∃ y : Xt wa, w' = y.1) (by kernel_rfl) ⟨⟨wa.drew, (Below.refl _ _).drew⟩, rfl⟩ ?_
            refine wpE_reads [0, 1, 2, 3, 4, 5, 6, 7] 1 rfl (by kernel_rfl) ?_
            simp only [opsAt_nil, opsAt_cons, consOpt_some, List.getElem?_toArray, List.getElem?_cons_zero, List.getElem?_cons_succ]
            repeat (go_big_quiet_step (fail))
            refine wpQuiet_nil ?_
            clear y0 y1
            refine wpE_tail rfl (by kernel_rfl) ?_
            simp only [opsAt_nil, opsAt_cons, consOpt_some, List.getElem?_toArray, List.getElem?_cons_zero, List.getElem?_cons_succ]
            go_wp2
            refine onlyNormal_mk ?_
            go_upto_region 12 with fail
            clear m0 m1 m2 p0 p1 p2 p3 HOWA HMAA HBA hzb KB
            generalize (wa.setCell ⟨G, xn, none⟩ (.int .i64 (v - h))).drew = w3 at *
            have hs3 : w1.heap.size ≤ w3.heap.size := HB3.out.size
            have okL : Hid (∀ y ∈ L.set xn (v - h), 0 ≤ y → y ≤ 1000) := by
              intro y hy h0
              rcases List.mem_or_eq_of_mem_set hy with hy | rfl
              · exact (HLB.out y hy).2
              · omega
            have okL0 : Hid (0 ≤ v - h → ∀ y ∈ L.set xn (v - h), 0 ≤ y ∧ y ≤ 1000) := by
              intro h0 y hy
              rcases List.mem_or_eq_of_mem_set hy with hy | rfl
              · exact HLB.out y hy
              · omega
            obtain ⟨hh1, hh2⟩ := hjok.1
            have hvh : -1000 ≤ v - h ∧ v - h ≤ 1000 := by omega
            have hxn5 : xn ≤ 5 := by omega
            generalize hu : v - h = u at *
            have HU := Lib.hid hu
            clear hu okL
            cases q1 : withinB (xn : Int) f t
            all_goals
              have HJ2 : Hid (jobE nw L (h, f, t) (xn : Int) = _) := HJE.out
              rw [q1] at HJ2
              have y1 := fun y : Xt w3 => y.cell m1'
              have y2 := fun y : Xt w3 => y.cell m2'
              have y3 := fun y : Xt w3 => y.cell p0'
              have V1 := fun W => within_val (xn : Int) f t _ q1 W
              refine wp_region_cut [] [0, 1, 2, 3, 4, 5, 6, 7, 8, 9, 10, 11, 12] 13 [14, 15] (fun w' => ∃ y : Xt w3, w' = y.1) (by kernel_rfl) (by kernel_rfl) ⟨⟨w3.drew, (Below.refl _ _).drew⟩, rfl⟩ ?_
              simp only [opsAt_nil, opsAt_cons, consOpt_some, List.getElem?_toArray, List.getElem?_cons_zero, List.getElem?_cons_succ]
              refine wpQuiet_nil ?_
              show wpQuiet _ _ _ _ _ _
              repeat (go_big_quiet_step (first | (go_at_call 99; exact Xt.calls_same (V1 _)) | (go_at_call 92; exact Xt.calls_same (unless_any _ _ _))))
              refine wpQuiet_nil ?_
              intro w4 hx4
              have hb4 := Xt.below hx4
              clear hx4 y1 y2 y3 V1 q1
              have F2 := fun a b => first2 w4 a b
              go_wp2_with (go_at_call 91; refine (F2 _ _).mono ?_; rintro e3 w' ⟨rfl, rfl⟩)
              refine onlyNormal_mk ?_
              generalize hEr : firstE _ = er
              have HER : Hid (jobE nw L (h, f, t) (xn : Int) = er) := by
                rw [Hid, HJ2.out, ← hEr]
                have := HU.out
                by_cases hlv : v < h
                · have : ¬ (0 : Int) ≤ u := by omega
                  simp [firstE, unlessE, hlv, this]
                · have : (0 : Int) ≤ u := by omega
                  simp [firstE, unlessE, hlv, this]
              have HPOS : Hid (er = 0 → 0 ≤ u) := by
                intro h0
                have h1 := HER.out
                rw [HJ2.out, h0] at h1
                have := HU.out
                refine Decidable.byContradiction fun hn => ?_
                rw [if_pos (show v < h by omega)] at h1
                simp at h1
              generalize hw5 : w4.alloc _ = w5
              have hb5 : Below w3.heap.size w3 w5 := by rw [← hw5]; exact hb4.alloc hb4.size _
              have OWN5 := Lib.hid (ownsRow_below OWN3.out hb5)
              have MAP5 := Lib.hid (ownsMap_below MAP3.out hb5)
              have HB5 := Lib.hid (HB3.out.trans (hb5.mono hs3))
              have hs5 := Nat.le_trans hs3 hb5.size
              clear hEr hw5 hb5 hb4 F2 HJ2
              by_cases her : er = 0
              · have HN : Hid (placedGo nw (L.set xn u) (J.drop (k + 1)) (ws.drop (k + 1)) = E) := by
                  have := HGO2.out
                  rw [if_pos (HER.out.trans her), HTI.out] at this
                  exact this
                have hu0 := HPOS.out her
                have hmap := MAP5.out
                subst her
                go_upto_region 15 with fail
                go_wp2_with (at_mapUpdate; refine stp ?_)
                unfold Stp
                refine wpList_mapUpdate_own _ rfl _ _ _ 185 rfl 3 4 (Maps.int_keyed Tryd.underlying3) Tryd.underlying185 (plainElem Tryd.prog 4) bm k _ rfl hmap (by unfold maxLen; omega) _ _ _ rfl rfl (Maps.keyOf_int_mk Tryd.underlying3 (WalkArith.wf_i64 (by omega))) _ [] (plainElem_bool Tryd.underlying4 true) ?_
                intro w6 hmap6 hgrow6
                have OWN6 : Hid (w6.ownsRow w1.heap.size 3 1 (.slice (some ⟨G, 0, none⟩) nw cG) nw (intCells (L.set xn u))) :=
                  own_keep OWN5.out (fun j cur hj => hgrow6.block j (Array.getElem?_eq_some_iff.1 hj).1 (fun he => by
                    obtain ⟨es, clock, hbk, _⟩ := hmap
                    rw [Option.some.inj he, hbk] at hj
                    simp at hj))
                have MAP6 : Hid (w6.ownsMap (H := Unit) Tryd.prog 3 (plainElem Tryd.prog 4) bm (k + 1) (Maps.setOf (.lit (.bool true)) ((ws.take (k + 1)).map (Lit.int .i64)))) := by
                  rw [Hid, HTK.out, List.map_append, List.map_cons, List.map_nil, setOf_snoc]
                  exact hmap6
                have HB6 := Lib.hid (HB5.out.grown hgrow6 hs5 (fun j hj => by rw [← Option.some.inj hj]; exact HBM.out))
                clear hmap hmap6 hgrow6
                go_wp2
                go_roundw
                case rel => exact ⟨k + 1, L.set xn u, by omega, by go_num, HLS.out, okL0.out hu0, HN.out, OWN6.out, MAP6.out, HB6.out⟩
                case measure => simp [intOf]; omega
              · have HE : Hid (E = er) := by
                  have := HGO2.out
                  rw [HER.out, if_neg her] at this
                  exact this.symm
                have e9 : (er != 0) = true := bne_iff_ne.2 her
                have HN0 : Hid (N = 0) := HNZ.out (by rw [HE.out]; exact her)
                clear her
                go_wp2
                go_ret2
                exact ⟨by rw [HN0.out, HE.out]; rfl, HXX.out ▸ HB.out.trans (HB5.out.mono hs1)⟩
        · obtain rfl : k = nt := by omega
          have HE0 : Hid (E = 0) := by
            have := HGO.out
            rw [List.drop_eq_nil_iff.2 (by rw [HLJ.out]; exact Nat.le_refl _)] at this
            rw [Hid, ← this]
            cases ws.drop k <;> rfl
          have HTW : Hid (ws.take k = ws) := List.take_of_length_le (by rw [HLT.out]; exact Nat.le_refl _)
          obtain ⟨D, hD⟩ : ∃ D, Maps.setOf (H := Unit) (.lit (.bool true)) ((ws.take k).map (Lit.int .i64)) = D := ⟨_, rfl⟩
          have HSZ : Hid ((Maps.size D : Int) = N) := by
            rw [Hid, ← hD, HTW.out, size_keys, HNU.out HE0.out]
          have hmap := HMAP.out
          rw [hD] at hmap
          clear HGO hD HMAP
          go_wp2_with (at_len; refine stp ?_)
          unfold Stp
          refine wpList_len_own _ rfl _ 185 rfl 3 4 Tryd.underlying185 _ bm k D rfl hmap ?_
          go_wp2
          go_ret2
          exact ⟨by rw [HE0.out, HSZ.out]; rfl, HXX.out ▸ HB.out.trans (HBK.out.mono hs1)⟩
    · have : er = 10 := by
        have hne : ((nt : Int) == (nj : Int)) = false := beq_eq_false_iff_ne.2 (by omega)
        rw [← hEr, hw9]
        simp [firstE, unlessE]
        rw [show ((nt : Int) == (nj : Int)) = false from hne]
        rfl
      subst this
      have HE : Hid (E = 10) := HES.out hw9 hnn
      have HN0 : Hid (N = 0) := HNZ.out (by rw [HE.out]; decide)
      clear hEr
      go_wp2
      go_ret2
      exact ⟨by rw [HN0.out, HE.out]; rfl, HXX.out ▸ HB.out⟩
  · have : er = ew := by
      rw [← hEr]
      simp [firstE, hw9]
    subst this
    have HE : Hid (E = er) := HEW.out hw9
    have HN0 : Hid (N = 0) := HNZ.out (by rw [HE.out]; exact hw9)
    have e9 : (er != 0) = true := bne_iff_ne.2 hw9
    clear hEr hw9
    go_wp2
    go_ret2
    exact ⟨by rw [HN0.out, HE.out]; rfl, HXX.out ▸ HB.out⟩
end Go.Proofs.YtmcjnfghlpnghaaDoor

namespace Go.Proofs.YtmcjnfghlpnghaaDoor
open Go.RowKit

theorem hours_one (h : Int) : (decide (0 < h) && withinB h 0 1000) = withinB h 1 1000 := by
  rw [Bool.eq_iff_iff]
  simp [withinB]
  omega
theorem jbE_ref (nw : Nat) (h f t : Int) : jbE nw (h, f, t) = if withinB h 1 1000 = true then (if (withinB f 0 ((nw : Int) - 1) && withinB t 0 ((nw : Int) - 1)) = true then (if f ≤ t then 0 else 9) else 6) else 2 := by
  rw [← hours_one]
  rfl

def HrRel (w0 : World) (W : List Int) (nw : Nat) (tot : Bool) (u : Value) (wr : World) : Prop := ∃ k : Nat, k ≤ nw ∧ u = .int .i64 k ∧ (W.drop k).any badHr = tot ∧ Below w0.heap.size w0 wr

set_option maxRecDepth 100000 in
set_option maxHeartbeats 16000000 in
theorem WorkErr_any (w : World) (B : Nat) (Aw Aj : Option Addr) (nw cw nj cj : Nat) (W : List Int) (J : List Jb) (hl : W.length = nw) (hlj : J.length = nj) (hw : Rd w B Aw (intCells W)) (hj : Rd w B Aj (evCells J)) (hB : B ≤ w.heap.size) (hn : nw ≤ 1000000) (hm : nj ≤ 1000000) :
    Calls Tryd.prog 83 #[.agg #[.slice Aw nw cw, .slice Aj nj cj]] w (ErrVal w (workM W J)) := by
  have hb0 : Below w.heap.size w (w.alloc (.cells #[.slice Aw nw cw, .slice Aj nj cj] 130)) := (Below.refl _ _).alloc (Nat.le_refl _) _
  have k0 : (w.alloc (.cells #[.slice Aw nw cw, .slice Aj nj cj] 130)).heap[w.heap.size]? = some (.cells #[.slice Aw nw cw, .slice Aj nj cj] 130 (0, 0)) := by rw [heapq_alloc, if_pos rfl]
  have c0 := (cell_of_row _ _ 0 _ _ _ k0).trans (by rfl : _ = some (.slice Aw nw cw))
  have c1 := (cell_of_row _ _ 1 _ _ _ k0).trans (by rfl : _ = some (.slice Aj nj cj))
  have hw0 := hw.below (hb0.mono hB)
  have hj0 := hj.below (hb0.mono hB)
  have hs0 : w.heap.size ≤ (w.alloc (.cells #[.slice Aw nw cw, .slice Aj nj cj] 130)).heap.size := hb0.size
  have hB0 := Nat.le_trans hB hs0
  have HL := Lib.hid hl
  have HLJ := Lib.hid hlj
  have HB := Lib.hid hb0
  clear hw hj hl hlj hb0 k0
  by_cases hn0 : nw = 0
  · have HV : Hid (workM W J = 10) := by rw [Hid, workM, if_neg (by rw [HL.out]; omega)]
    have e0 : ((nw : Int) == 0) = true := by rw [hn0]; rfl
    subst hn0
    go_enter Tryd.func83, Tryd.ntmps83
    go_upto_region 1 with (fail)
    generalize (w.alloc (.cells #[.slice Aw 0 cw, .slice Aj nj cj] 130)) = w0 at *
    go_wp2
    go_ret
    exact ⟨by rw [HV.out]; rfl, HB.out⟩
  · have e0 : ((nw : Int) == 0) = false := beq_eq_false_iff_ne.2 (by omega)
    by_cases h5 : (5 : Int) < (nw : Int)
    · have HV : Hid (workM W J = 8) := by rw [Hid, workM, if_pos (by rw [HL.out]; omega), if_neg (by rw [HL.out]; omega)]
      go_enter Tryd.func83, Tryd.ntmps83
      go_upto_region 1 with (fail)
      generalize (w.alloc (.cells #[.slice Aw nw cw, .slice Aj nj cj] 130)) = w0 at *
      go_wp2
      go_ret
      exact ⟨by rw [HV.out]; rfl, HB.out⟩
    · by_cases h6 : (6 : Int) < (nj : Int)
      · have HV : Hid (workM W J = 8) := by rw [Hid, workM, if_pos (by rw [HL.out]; omega), if_neg (by rw [HL.out, HLJ.out]; omega)]
        go_enter Tryd.func83, Tryd.ntmps83
        go_upto_region 1 with (fail)
        generalize (w.alloc (.cells #[.slice Aw nw cw, .slice Aj nj cj] 130)) = w0 at *
        go_wp2
        go_ret
        exact ⟨by rw [HV.out]; rfl, HB.out⟩
      · obtain ⟨tot, htot⟩ : ∃ t, W.any badHr = t := ⟨_, rfl⟩
        obtain ⟨V, hV⟩ : ∃ v, jbGo nw J = v := ⟨_, rfl⟩
        have HV : Hid (workM W J = if tot = true then 2 else V) := by
          rw [Hid, workM, if_pos (by rw [HL.out]; omega), if_pos (by rw [HL.out, HLJ.out]; omega), htot, HL.out, hV]
        have HT := Lib.hid htot
        have HVV := Lib.hid hV
        clear htot hV hn0
        go_enter Tryd.func83, Tryd.ntmps83
        go_upto_region 1 with (fail)
        generalize (w.alloc (.cells #[.slice Aw nw cw, .slice Aj nj cj] 130)) = w0 at *
        go_wp2
        have C0 := Lib.hid c0
        have C1 := Lib.hid c1
        go_loopw [3] (fun u wr => HrRel w0 W nw tot u wr) (fun u _ => nw - (intOf u).toNat)
        case atStart => exact ⟨0, Nat.zero_le _, rfl, by rw [List.drop_zero]; exact HT.out, Below.refl _ _⟩
        case round =>
          clear c0 c1
          obtain ⟨k, hk, rfl, hany, hb⟩ := hrel
          have HAN := Lib.hid hany
          have HBK := Lib.hid hb
          have c0 := kept hb C0.out
          have c1 := kept hb C1.out
          have hsk := hb.size
          have hwk := hw0.below (hb.mono hB0)
          have hjk := hj0.below (hb.mono hB0)
          have hBk := Nat.le_trans hB0 hsk
          clear hb hany
          by_cases hkn : k < nw
          · have hkl : k < W.length := by rw [HL.out]; exact hkn
            obtain ⟨bb, off, rfl, hbB, d0⟩ := hwk.at_ (intCells_at W k hkl)
            have HD := Lib.hid (drop_at W 0 k hkl)
            generalize W[k]?.getD 0 = x at *
            clear hkl
            cases qx : withinB x 0 1000 with
            | false =>
              have HG : Hid (tot = true) := by
                have := HAN.out
                rw [HD.out, List.any_cons, badHr, qx] at this
                exact this.symm
              have HV2 : Hid (workM W J = 2) := by rw [Hid, HV.out, HG.out, if_pos rfl]
              go_wp2_with (go_at_call 49; refine (Within_val _ _ _ _ qx _).mono ?_; rintro e3 w' ⟨rfl, rfl⟩)
              go_ret
              exact ⟨by rw [HV2.out]; rfl, HB.out.trans (HBK.out.mono hs0)⟩
            | true =>
              have HG : Hid ((W.drop (k + 1)).any badHr = tot) := by
                have := HAN.out
                rw [HD.out, List.any_cons, badHr, qx] at this
                exact this
              go_wp2_with (go_at_call 49; refine (Within_val _ _ _ _ qx _).mono ?_; rintro e3 w' ⟨rfl, rfl⟩)
              go_roundw
              case rel => exact ⟨k + 1, by omega, by go_num, HG.out, HBK.out⟩
              case measure => simp [intOf]; omega
          · have HG0 : Hid (tot = false) := by
              have := HAN.out
              rw [List.drop_eq_nil_iff.2 (by rw [HL.out]; omega), List.any_nil] at this
              exact this.symm
            have HV2 : Hid (workM W J = V) := by rw [Hid, HV.out, HG0.out, if_neg (by decide)]
            replace HB := Lib.hid (HB.out.trans (HBK.out.mono hs0))
            clear HV HG0 HAN C0 C1 hw0 hj0 hwk HT
            replace hs0 := Nat.le_trans hs0 hsk
            clear hB0 hsk HBK
            generalize hwq : wr = wq at *
            clear hwq
            have C0 := Lib.hid c0
            have C1 := Lib.hid c1
            go_wp2
            go_loopw [4] (fun u wr => JobRel wq nw J nj V u wr) (fun u _ => nj - (intOf u).toNat)
            case atStart => exact ⟨0, Nat.zero_le _, rfl, by rw [List.drop_zero]; exact HVV.out, Below.refl _ _⟩
            case round =>
              clear c0 c1
              obtain ⟨j, hj9, rfl, hgo, hb⟩ := hrel
              have HGO := Lib.hid hgo
              have c0 := kept hb C0.out
              have c1 := kept hb C1.out
              have hsz := hb.size
              have hr := hjk.below (hb.mono hBk)
              have HBR := Lib.hid hb
              clear hb hgo
              by_cases hlt : j < nj
              · have hkl : j < J.length := by rw [HLJ.out]; exact hlt
                obtain ⟨ev, hev⟩ : ∃ ev, J[j]? = some ev := ⟨_, List.getElem?_eq_getElem hkl⟩
                obtain ⟨z0, z1, z2⟩ := evCells_at J j ev hev
                obtain ⟨bb, off, rfl, hbB, e1, e2, e3⟩ := hr.at3 z0 z1 z2
                have HS := Lib.hid (drop_cons' hev)
                obtain ⟨h, f, t⟩ := ev
                simp only at e1 e2 e3
                have hba : Below wr.heap.size wr (wr.alloc (.cells #[.int .i64 h, .int .i64 f, .int .i64 t] 187)) := (Below.refl _ _).alloc (Nat.le_refl _) _
                have HBK := Lib.hid (HBR.out.trans (hba.mono hsz))
                have kb : (wr.alloc (.cells #[.int .i64 h, .int .i64 f, .int .i64 t] 187)).heap[wr.heap.size]? = some (.cells #[.int .i64 h, .int .i64 f, .int .i64 t] 187 (0, 0)) := by rw [heapq_alloc, if_pos rfl]
                have m0 := (cell_of_row _ _ 0 _ _ _ kb).trans (by rfl : _ = some (.int .i64 h))
                have m1 := (cell_of_row _ _ 1 _ _ _ kb).trans (by rfl : _ = some (.int .i64 f))
                have m2 := (cell_of_row _ _ 2 _ _ _ kb).trans (by rfl : _ = some (.int .i64 t))
                have c0' := kept hba c0
                clear hba kb z0 z1 z2 hev hkl hr HBR
                go_upto_region 14 with (fail)
                clear e1 e2 e3 c0 c1
                generalize wr.alloc (.cells #[.int .i64 h, .int .i64 f, .int .i64 t] 187) = wa at *
                generalize wr.heap.size = zb at *
                have HJ : Hid (jbE nw (h, f, t) = _) := jbE_ref nw h f t
                rcases Int.lt_or_le t f with q3 | q3 <;> cases q0 : withinB h 1 1000 <;> cases q1 : withinB f 0 ((nw : Int) - 1) <;> cases q2 : withinB t 0 ((nw : Int) - 1)
                all_goals
                  have HQ : Hid (jbE nw (h, f, t) = _) := HJ.out
                  rw [q0, q1, q2] at HQ
                  first
                    | (have HG : Hid (jbGo nw (J.drop (j + 1)) = V) := by
                         have := HGO.out
                         rw [HS.out, jbGo, if_pos (HQ.out.trans ((if_pos rfl).trans ((if_pos rfl).trans (if_pos q3))))] at this
                         exact this
                       clear HQ HJ HGO
                       go_wp2_with (first | (go_at_call_of 49 (Value.int .i64 h); refine (Within_val _ _ _ _ q0 _).mono ?_; rintro e3 w' ⟨rfl, rfl⟩) | (go_at_call_of 49 (Value.int .i64 f); refine (Within_val _ _ _ _ q1 _).mono ?_; rintro e3 w' ⟨rfl, rfl⟩) | (go_at_call_of 49 (Value.int .i64 t); refine (Within_val _ _ _ _ q2 _).mono ?_; rintro e3 w' ⟨rfl, rfl⟩))
                       go_roundw
                       case rel => exact ⟨j + 1, by omega, by go_num, HG.out, HBK.out⟩
                       case measure => simp [intOf]; omega)
                    | (have HG : Hid (V = 2) := by
                         have := HGO.out
                         have h6 : jbE nw (h, f, t) = 2 := HQ.out.trans (by rw [if_neg (by decide)])
                         rw [HS.out, jbGo, h6, if_neg (by decide)] at this
                         exact this.symm
                       clear HQ HJ HGO
                       go_wp2_with (first | (go_at_call_of 49 (Value.int .i64 h); refine (Within_val _ _ _ _ q0 _).mono ?_; rintro e3 w' ⟨rfl, rfl⟩) | (go_at_call_of 49 (Value.int .i64 f); refine (Within_val _ _ _ _ q1 _).mono ?_; rintro e3 w' ⟨rfl, rfl⟩) | (go_at_call_of 49 (Value.int .i64 t); refine (Within_val _ _ _ _ q2 _).mono ?_; rintro e3 w' ⟨rfl, rfl⟩))
                       go_ret
                       exact ⟨by rw [HV2.out, HG.out]; rfl, HB.out.trans (HBK.out.mono hs0)⟩)
                    | (have HG : Hid (V = 6) := by
                         have := HGO.out
                         have h6 : jbE nw (h, f, t) = 6 := HQ.out.trans (by rw [if_pos rfl, if_neg (by decide)])
                         rw [HS.out, jbGo, h6, if_neg (by decide)] at this
                         exact this.symm
                       clear HQ HJ HGO
                       go_wp2_with (first | (go_at_call_of 49 (Value.int .i64 h); refine (Within_val _ _ _ _ q0 _).mono ?_; rintro e3 w' ⟨rfl, rfl⟩) | (go_at_call_of 49 (Value.int .i64 f); refine (Within_val _ _ _ _ q1 _).mono ?_; rintro e3 w' ⟨rfl, rfl⟩) | (go_at_call_of 49 (Value.int .i64 t); refine (Within_val _ _ _ _ q2 _).mono ?_; rintro e3 w' ⟨rfl, rfl⟩))
                       go_ret
                       exact ⟨by rw [HV2.out, HG.out]; rfl, HB.out.trans (HBK.out.mono hs0)⟩)
                    | (have HG : Hid (V = 9) := by
                         have := HGO.out
                         have h6 : jbE nw (h, f, t) = 9 := HQ.out.trans ((if_pos rfl).trans ((if_pos rfl).trans (if_neg (by omega))))
                         rw [HS.out, jbGo, h6, if_neg (by decide)] at this
                         exact this.symm
                       clear HQ HJ HGO
                       go_wp2_with (first | (go_at_call_of 49 (Value.int .i64 h); refine (Within_val _ _ _ _ q0 _).mono ?_; rintro e3 w' ⟨rfl, rfl⟩) | (go_at_call_of 49 (Value.int .i64 f); refine (Within_val _ _ _ _ q1 _).mono ?_; rintro e3 w' ⟨rfl, rfl⟩) | (go_at_call_of 49 (Value.int .i64 t); refine (Within_val _ _ _ _ q2 _).mono ?_; rintro e3 w' ⟨rfl, rfl⟩))
                       go_ret
                       exact ⟨by rw [HV2.out, HG.out]; rfl, HB.out.trans (HBK.out.mono hs0)⟩)
              · have HG : Hid (V = 0) := by
                  have := HGO.out
                  rw [List.drop_eq_nil_iff.2 (by rw [HLJ.out]; omega), jbGo] at this
                  exact this.symm
                go_wp2
                go_ret
                exact ⟨by rw [HV2.out, HG.out]; rfl, HB.out.trans (HBR.out.mono hs0)⟩
end Go.Proofs.YtmcjnfghlpnghaaDoor

namespace Go.Proofs.YtmcjnfghlpnghaaDoor
open Go.RowKit

def IntsRowPost (w : World) (l : List Int) (n : Nat) (e : Ending) (w' : World) : Prop :=
  ∃ g c, e = .returned (.slice (some ⟨g, 0, none⟩) n c) ∧ w'.ownsRow w.heap.size 3 1 (.slice (some ⟨g, 0, none⟩) n c) n (intCells l) ∧ Below w.heap.size w w'
set_option maxHeartbeats 1000000 in
theorem CopyIntsR (w : World) (B : Nat) (A : Option Addr) (n c : Nat) (l : List Int) (hl : l.length = n) (hn : n ≤ 1000000) (h : Rd w B A (intCells l)) (hB : B ≤ w.heap.size) :
    Calls Tryd.prog 54 #[.slice A n c] w (IntsRowPost w l n) := by
  obtain ⟨i1, hi1, hy0, hy1, hy2⟩ := info_parts info3
  have HL := Lib.hid hl
  have h' := h.below (((Below.refl _ _).alloc (Nat.le_refl _) (.cells #[] 3) : Below w.heap.size w (w.alloc (.cells #[] 3))).mono hB)
  have hb0 : Below w.heap.size w (w.alloc (.cells #[] 3)) := (Below.refl _ _).alloc (Nat.le_refl _) _
  clear hl
  go_enter Tryd.func54, Tryd.ntmps54
  go_wp2_with (at_builtin; refine stp ?_)
  unfold Stp
  refine wpList_append_copy _ rfl _ _ 39 rfl w.heap.size 3 i1 _ 1 8 Tryd.underlying39 hi1 hy0 hy1 hy2 rfl (by omega) w.heap.size rfl (by rw [heapq_alloc, if_pos rfl]) (Nat.le_refl _) B A n c (intCells l) rfl (by rw [intCells_len, HL.out, Nat.mul_one]) h' (intCells_one l) (by simp only [maxLen]; omega) (by omega) (by simp) ?_
  intro g cap w1 hown hgrow _
  have hb1 : Below w.heap.size w w1 := hb0.grown hgrow (by simp) (fun k hk => by rw [← Option.some.inj hk]; exact Nat.le_refl _)
  have HR := Lib.hid hown
  have HB := Lib.hid hb1
  clear hown hgrow hb0 hb1 h h'
  go_wp2
  go_ret
  exact ⟨_, _, rfl, HR.out, HB.out⟩

def PlacedRel (w1 : World) (nw : Nat) (J : List Jb) (vs : List Int) (nv : Nat) (E : Int) (G cG : Nat) (u : Value) (wr : World) : Prop :=
  ∃ (k : Nat) (L : List Int), k ≤ nv ∧ u = .int .i64 k ∧ L.length = nw ∧ (∀ x ∈ L, 0 ≤ x ∧ x ≤ 1000) ∧ placedGo nw L (J.drop k) (vs.drop k) = E ∧ wr.ownsRow w1.heap.size 3 1 (.slice (some ⟨G, 0, none⟩) nw cG) nw (intCells L) ∧ Below w1.heap.size w1 wr

set_option maxRecDepth 100000 in
set_option maxHeartbeats 8000000 in
theorem placedErr_any (w : World) (B : Nat) (Aw Aj : Option Addr) (nw cw nj cj : Nat) (W : List Int) (J : List Jb) (hl : W.length = nw) (hlj : J.length = nj) (hw : Rd w B Aw (intCells W)) (hj : Rd w B Aj (evCells J)) (hB : B ≤ w.heap.size) (Av : Option Addr) (nv cv : Nat) (vs : List Int) (hlv : vs.length = nv) (hv : Rd w B Av (intCells vs)) (hvj : nv ≤ nj) (h0 : workM W J = 0) (E : Int) (hE : placedGo nw W J vs = E) :
    Calls Tryd.prog 136 #[.agg #[.slice Aw nw cw, .slice Aj nj cj], .slice Av nv cv] w (ErrVal w E) := by
  have hb0 : Below w.heap.size w (w.alloc (.cells #[.slice Aw nw cw, .slice Aj nj cj] 130)) := (Below.refl _ _).alloc (Nat.le_refl _) _
  have k0 : (w.alloc (.cells #[.slice Aw nw cw, .slice Aj nj cj] 130)).heap[w.heap.size]? = some (.cells #[.slice Aw nw cw, .slice Aj nj cj] 130 (0, 0)) := by rw [heapq_alloc, if_pos rfl]
  have c0 := (cell_of_row _ _ 0 _ _ _ k0).trans (by rfl : _ = some (.slice Aw nw cw))
  have c1 := (cell_of_row _ _ 1 _ _ _ k0).trans (by rfl : _ = some (.slice Aj nj cj))
  have hw0 := hw.below (hb0.mono hB)
  have hj0 := hj.below (hb0.mono hB)
  have hs0 : w.heap.size ≤ (w.alloc (.cells #[.slice Aw nw cw, .slice Aj nj cj] 130)).heap.size := hb0.size
  have hB0 := Nat.le_trans hB hs0
  have HL := Lib.hid hl
  have HLJ := Lib.hid hlj
  have HB := Lib.hid hb0
  have hv0 := hv.below (hb0.mono hB)
  have HLV := Lib.hid hlv
  have HEE := Lib.hid hE
  obtain ⟨g1, g2, g3, g4⟩ := workM_zero h0
  rw [hl] at g1 g4
  rw [hlj] at g2
  have OK := Lib.hid g4
  clear hw hj hv hl hlj hlv hb0 k0 hE h0 g4
  go_enter Tryd.func136, Tryd.ntmps136
  go_upto_region 1 with (fail)
  generalize (w.alloc (.cells #[.slice Aw nw cw, .slice Aj nj cj] 130)) = w0 at *
  generalize hxx : w.heap.size = x0 at *
  have HXX := Lib.hid hxx
  clear hxx
  have CI := CopyIntsR w0 B Aw nw cw W HL.out (by omega) hw0 hB0
  go_upto_region 2 with (go_at_call 54; refine CI.mono ?_; rintro e3 wc ⟨G, cG, rfl, hown1, hb1⟩)
  have HREL : Hid (PlacedRel w0 nw J vs nv E G cG (.int .i64 0) wc) := ⟨0, W, Nat.zero_le _, rfl, HL.out, g3, by rw [List.drop_zero, List.drop_zero]; exact HEE.out, hown1, hb1⟩
  have C0 := Lib.hid c0
  have C1 := Lib.hid c1
  clear CI hown1 hb1 hw0 g3
  go_wp2
  go_loopw [6] (fun u wr => PlacedRel w0 nw J vs nv E G cG u wr) (fun u _ => nv - (intOf u).toNat)
  case atStart => exact HREL.out
  case round =>
    clear HREL
    clear c0 c1
    obtain ⟨k, L, hk, rfl, hLl, hLb, hgo, hown, hb⟩ := hrel
    have HGO := Lib.hid hgo
    have HBK := Lib.hid hb
    have HOWN := Lib.hid hown
    have HLL := Lib.hid hLl
    have HLB := Lib.hid hLb
    have hsk := hb.size
    have c0 := kept hb C0.out
    have c1 := kept hb C1.out
    have hjk := hj0.below (hb.mono hB0)
    have hvk := hv0.below (hb.mono hB0)
    have hBk := Nat.le_trans hB0 hsk
    clear hb hown hgo hLl hLb
    by_cases hlt : k < nv
    · have hkj : k < J.length := by rw [HLJ.out]; omega
      have hkv : k < vs.length := by rw [HLV.out]; exact hlt
      obtain ⟨ev, hev⟩ : ∃ ev, J[k]? = some ev := ⟨_, List.getElem?_eq_getElem hkj⟩
      have hjok := OK.out ev (List.mem_of_getElem? hev)
      obtain ⟨z0, z1, z2⟩ := evCells_at J k ev hev
      obtain ⟨bb, off, rfl, hbB, e0, e1, e2⟩ := hjk.at3 z0 z1 z2
      obtain ⟨bt, ot, rfl, hbt, d0⟩ := hvk.at_ (intCells_at vs k hkv)
      have HSJ := Lib.hid (drop_cons' hev)
      have HST := Lib.hid (drop_at vs 0 k hkv)
      generalize vs[k]?.getD 0 = x at *
      obtain ⟨h, f, t⟩ := ev
      simp only at e0 e1 e2
      have HGO2 : Hid ((if jobE nw L (h, f, t) x = 0 then placedGo nw (takeI L x h) (J.drop (k + 1)) (vs.drop (k + 1)) else jobE nw L (h, f, t) x) = E) := by
        have := HGO.out
        rw [HSJ.out, HST.out, placedGo] at this
        exact this
      clear z0 z1 z2 hev hkj hkv hjk hvk HGO
      go_upto_region 5 with (fail)
      have y0 := fun y : Xt wr => y.cell c1
      have y1 := fun y : Xt wr => y.cell d0
      have y2 := fun y : Xt wr => y.cell e0
      have y3 := fun y : Xt wr => y.cell e1
      have y4 := fun y : Xt wr => y.cell e2
      refine wp_region_eager [11] (fun w' => ∃ y : Xt wr, w' = y.1) (by kernel_rfl) ⟨⟨wr.drew, (Below.refl _ _).drew⟩, rfl⟩ ?_
      refine wpE_reads [0, 1, 2, 3, 4, 5, 6, 7, 8] 3 rfl (by kernel_rfl) ?_
      simp only [opsAt_nil, opsAt_cons, consOpt_some, List.getElem?_toArray, List.getElem?_cons_zero, List.getElem?_cons_succ]
      repeat (go_big_quiet_step (fail))
      refine wpQuiet_nil ?_
      have hbd : Below wr.heap.size wr wr.drew := (Below.refl _ _).drew
      show wpE _ _ _ _ _ _ _ _ _ wr.drew
      clear y0 y1 y2 y3 y4 e0 e1 e2 d0
      generalize wr.drew = wd at *
      refine wpE_one (i := 9) rfl (by kernel_rfl) rfl ?_
      unfold wpMid
      simp only [opsAt_nil, opsAt_cons, consOpt_some, List.getElem?_toArray, List.getElem?_cons_zero, List.getElem?_cons_succ]
      go_wp2
      have hbA : Below wr.heap.size wr (wd.alloc (.cells #[.int .i64 0, .int .i64 0, .int .i64 0] 187)) := hbd.alloc hbd.size _
      have kA : (wd.alloc (.cells #[.int .i64 0, .int .i64 0, .int .i64 0] 187)).heap[wd.heap.size]? = some (.cells #[.int .i64 0, .int .i64 0, .int .i64 0] 187 (0, 0)) := by rw [heapq_alloc, if_pos rfl]
      have hz : wr.heap.size ≤ wd.heap.size := hbd.size
      generalize wd.alloc (.cells #[.int .i64 0, .int .i64 0, .int .i64 0] 187) = wA at *
      generalize wd.heap.size = z at *
      refine onlyNormal_mk ⟨⟨⟨_, hbA⟩, rfl⟩, ?_⟩
      refine wpE_reads [10] 1 rfl (by kernel_rfl) ?_
      simp only [opsAt_nil, opsAt_cons, consOpt_some, List.getElem?_toArray, List.getElem?_cons_zero, List.getElem?_cons_succ]
      repeat (go_big_quiet_step (fail))
      refine wpQuiet_nil ?_
      refine wpE_tail rfl (by kernel_rfl) ?_
      simp only [opsAt_nil, opsAt_cons, consOpt_some, List.getElem?_toArray, List.getElem?_cons_zero, List.getElem?_cons_succ]
      have k1 : (wA.setCell ⟨z, 0, none⟩ (.int .i64 h)).heap[z]? = some (.cells #[.int .i64 h, .int .i64 0, .int .i64 0] 187 (0, 0)) := by
        rw [heapq_set, if_pos rfl, kA]
        simp [objSet_cells]
      have k2 : ((wA.setCell ⟨z, 0, none⟩ (.int .i64 h)).setCell ⟨z, 1, none⟩ (.int .i64 f)).heap[z]? = some (.cells #[.int .i64 h, .int .i64 f, .int .i64 0] 187 (0, 0)) := by
        rw [heapq_set, if_pos rfl, k1]
        simp [objSet_cells]
      have k3 : (((wA.setCell ⟨z, 0, none⟩ (.int .i64 h)).setCell ⟨z, 1, none⟩ (.int .i64 f)).setCell ⟨z, 2, none⟩ (.int .i64 t)).heap[z]? = some (.cells #[.int .i64 h, .int .i64 f, .int .i64 t] 187 (0, 0)) := by
        rw [heapq_set, if_pos rfl, k2]
        simp [objSet_cells]
      have zA := (cell_of_row _ _ 0 _ _ _ kA).trans (by rfl : _ = some (.int .i64 0))
      have fA := frozen_of_row _ _ 0 _ _ kA
      have z1 := (cell_of_row _ _ 1 _ _ _ k1).trans (by rfl : _ = some (.int .i64 0))
      have f1 := frozen_of_row _ _ 1 _ _ k1
      have z2 := (cell_of_row _ _ 2 _ _ _ k2).trans (by rfl : _ = some (.int .i64 0))
      have f2 := frozen_of_row _ _ 2 _ _ k2
      have hbB : Below wr.heap.size wr (((wA.setCell ⟨z, 0, none⟩ (.int .i64 h)).setCell ⟨z, 1, none⟩ (.int .i64 f)).setCell ⟨z, 2, none⟩ (.int .i64 t)) :=
        ((hbA.setCell (p := ⟨z, 0, none⟩) hz _).setCell (p := ⟨z, 1, none⟩) hz _).setCell (p := ⟨z, 2, none⟩) hz _
      go_wp2
      refine onlyNormal_mk ?_
      clear zA fA z1 f1 z2 f2 k1 k2 kA hbA hbd
      have m0 := (cell_of_row _ _ 0 _ _ _ k3).trans (by rfl : _ = some (.int .i64 h))
      have m1 := (cell_of_row _ _ 1 _ _ _ k3).trans (by rfl : _ = some (.int .i64 f))
      have m2 := (cell_of_row _ _ 2 _ _ _ k3).trans (by rfl : _ = some (.int .i64 t))
      have KB := Lib.hid k3
      have HOWA := Lib.hid (ownsRow_below HOWN.out hbB)
      have HBA := Lib.hid (HBK.out.trans (hbB.mono hsk))
      replace c0 := kept hbB c0
      clear HOWN HBK hbB k3 c1
      generalize (((wA.setCell ⟨z, 0, none⟩ (.int .i64 h)).setCell ⟨z, 1, none⟩ (.int .i64 f)).setCell ⟨z, 2, none⟩ (.int .i64 t)) = wa at *
      cases qw : withinB x 0 ((nw : Int) - 1) with
      | false =>
        have HE : Hid (E = 6) := by
          have := HGO2.out
          have hj6 : jobE nw L (h, f, t) x = 6 := by rw [jobE, qw, if_neg (by decide)]
          rw [hj6, if_neg (by decide)] at this
          exact this.symm
        go_wp2_with (go_at_call 49; refine (Within_val _ _ _ _ qw _).mono ?_; rintro e3 w' ⟨rfl, rfl⟩)
        go_ret
        exact ⟨by rw [HE.out]; rfl, HXX.out ▸ HB.out.trans (HBA.out.mono hs0)⟩
      | true =>
        have hx0 : 0 ≤ x ∧ x ≤ (nw : Int) - 1 := by simpa [withinB] using qw
        obtain ⟨xn, rfl⟩ := Int.eq_ofNat_of_zero_le hx0.1
        have hxl : xn < L.length := by rw [HLL.out]; omega
        have hv := HLB.out _ (drop_mem hxl)
        obtain ⟨p0, p1, p2, p3⟩ := ownI_cell HOWA.out (intCells_at L xn hxl)
        obtain ⟨v, hvv⟩ : ∃ v, L[xn]?.getD 0 = v := ⟨_, rfl⟩
        rw [hvv] at p0 hv
        have HJE : Hid (jobE nw L (h, f, t) (xn : Int) = if withinB (xn : Int) f t = true then (if v < h then 16 else 0) else 25) := by
          rw [Hid, jobE, qw, if_pos rfl]
          simp only [atI, Int.toNat_natCast, hvv]
        have HTI : Hid (takeI L (xn : Int) h = L.set xn (v - h)) := by
          rw [Hid, takeI]
          simp only [atI, Int.toNat_natCast, hvv]
        have HLS : Hid ((L.set xn (v - h)).length = nw) := by rw [Hid, List.length_set]; exact HLL.out
        cases q1 : withinB (xn : Int) f t with
        | false =>
          have HE : Hid (E = 25) := by
            have := HGO2.out
            have hj6 : jobE nw L (h, f, t) (xn : Int) = 25 := by rw [HJE.out, q1, if_neg (by decide)]
            rw [hj6, if_neg (by decide)] at this
            exact this.symm
          have V0 := fun W => Within_val (xn : Int) 0 ((nw : Int) - 1) true qw W
          have V1 := fun W => Within_val (xn : Int) f t false q1 W
          clear qw q1
          go_upto_region 8 with (go_at_call 49; refine (V0 _).mono ?_; rintro e3 w' ⟨rfl, rfl⟩)
          go_wp2_with (go_at_call 49; refine (V1 _).mono ?_; rintro e3 w' ⟨rfl, rfl⟩)
          go_ret
          exact ⟨by rw [HE.out]; rfl, HXX.out ▸ HB.out.trans (HBA.out.mono hs0)⟩
        | true =>
          have HJ2 : Hid (jobE nw L (h, f, t) (xn : Int) = if v < h then 16 else 0) := by rw [Hid, HJE.out, q1, if_pos rfl]
          have V0 := fun W => Within_val (xn : Int) 0 ((nw : Int) - 1) true qw W
          have V1 := fun W => Within_val (xn : Int) f t true q1 W
          clear qw q1
          go_upto_region 8 with (go_at_call 49; refine (V0 _).mono ?_; rintro e3 w' ⟨rfl, rfl⟩)
          go_upto_region 10 with (go_at_call 49; refine (V1 _).mono ?_; rintro e3 w' ⟨rfl, rfl⟩)
          have y0 := fun y : Xt wa => y.cell m0
          have y1 := fun y : Xt wa => y.cell p0
          by_cases hvh : v < h
          · have q : decide (v < h) = true := decide_eq_true hvh
            have HE : Hid (E = 16) := by
              have := HGO2.out
              rw [HJ2.out, if_pos hvh, if_neg (by decide)] at this
              exact this.symm
            refine wp_region_xt (by kernel_rfl) (by kernel_rfl) ?_
            repeat (go_big_quiet_step (fail))
            refine wpQuiet_nil ?_
            intro w4 hx4
            have HB4 := Lib.hid (HBA.out.trans ((Xt.below hx4).mono HBA.out.size))
            clear hx4 y0 y1 q
            go_wp2
            go_ret
            exact ⟨by rw [HE.out]; rfl, HXX.out ▸ HB.out.trans (HB4.out.mono hs0)⟩
          · have q : decide (v < h) = false := decide_eq_false hvh
            have HN : Hid (placedGo nw (L.set xn (v - h)) (J.drop (k + 1)) (vs.drop (k + 1)) = E) := by
              have := HGO2.out
              rw [HJ2.out, if_neg hvh, if_pos rfl, HTI.out] at this
              exact this
            refine wp_region_xt (by kernel_rfl) (by kernel_rfl) ?_
            repeat (go_big_quiet_step (fail))
            refine wpQuiet_nil ?_
            intro w4 hx4
            have hb4 := Xt.below hx4
            clear hx4 y0 y1 q
            replace m0 := kept hb4 m0
            replace p0 := kept hb4 p0
            have OWN4 := Lib.hid (ownsRow_below HOWA.out hb4)
            have HB4 := Lib.hid (HBA.out.trans (hb4.mono HBA.out.size))
            clear hb4 m1 m2 p1 p2 p3
            obtain ⟨p0', p1, p2, p3⟩ := ownI_cell OWN4.out (intCells_at L xn hxl)
            clear p0'
            go_upto_region 12 with fail
            have y0 := fun y : Xt w4 => y.cell m0
            have y1 := fun y : Xt w4 => y.cell p0
            have OWN5 : Hid ((w4.setCell ⟨G, xn, none⟩ (.int .i64 (v - h))).drew.ownsRow w0.heap.size 3 1 (.slice (some ⟨G, 0, none⟩) nw cG) nw (intCells (L.set xn (v - h)))) := by
              rw [Hid, ← intCells_set]
              exact ownI_set OWN4.out _
            have HB5 : Hid (Below w0.heap.size w0 (w4.setCell ⟨G, xn, none⟩ (.int .i64 (v - h))).drew) := (HB4.out.setCell (p := ⟨G, xn, none⟩) p2 _).drew
            refine wp_region_eager [10] (fun w' => ∃ y : Xt w4, w' = y.1) (by kernel_rfl) ⟨⟨w4.drew, (Below.refl _ _).drew⟩, rfl⟩ ?_
            refine wpE_reads [0, 1, 2, 3, 4, 5, 6, 7, 8, 9] 1 rfl (by kernel_rfl) ?_
            simp only [opsAt_nil, opsAt_cons, consOpt_some, List.getElem?_toArray, List.getElem?_cons_zero, List.getElem?_cons_succ]
            repeat (go_big_quiet_step (fail))
            refine wpQuiet_nil ?_
            clear y0 y1
            refine wpE_tail rfl (by kernel_rfl) ?_
            simp only [opsAt_nil, opsAt_cons, consOpt_some, List.getElem?_toArray, List.getElem?_cons_zero, List.getElem?_cons_succ]
            go_wp2
            refine onlyNormal_mk ?_
            have okL : ∀ y ∈ L.set xn (v - h), 0 ≤ y ∧ y ≤ 1000 := by
              intro y hy
              rcases List.mem_or_eq_of_mem_set hy with hy | rfl
              · exact HLB.out y hy
              · have := hjok.1
                omega
            have OKL := Lib.hid okL
            clear m0 p0 p1 p2 p3 OWN4 HB4 okL
            generalize (w4.setCell ⟨G, xn, none⟩ (.int .i64 (v - h))).drew = w5 at *
            have HREL : Hid (PlacedRel w0 nw J vs nv E G cG (.int .i64 ((k : Int) + 1)) w5) := ⟨k + 1, L.set xn (v - h), by omega, by simp, HLS.out, OKL.out, HN.out, OWN5.out, HB5.out⟩
            go_wp2
            go_roundw
            case rel =>
              first
                | exact HREL.out
                | (repeat apply Exists.intro
                   exact ⟨HREL.out, rfl⟩)
            case measure => simp [intOf]; omega
    · obtain rfl : k = nv := by omega
      have HE0 : Hid (E = 0) := by
        have := HGO.out
        rw [List.drop_eq_nil_iff.2 (show vs.length ≤ k by rw [HLV.out]; exact Nat.le_refl _)] at this
        rw [Hid, ← this]
        cases J.drop k <;> rfl
      go_wp2
      go_ret
      exact ⟨by rw [HE0.out]; rfl, HXX.out ▸ HB.out.trans (HBK.out.mono hs0)⟩
end Go.Proofs.YtmcjnfghlpnghaaDoor

namespace Go.Proofs.YtmcjnfghlpnghaaDoor
open Go.RowKit

def UsedRel (w1 : World) (nw : Nat) (ws : List Int) (U : Nat) (u7 u8 : Value) (wr : World) : Prop :=
  ∃ (k acc : Nat), k ≤ nw ∧ acc ≤ k ∧ u8 = .int .i64 k ∧ u7 = .int .i64 acc ∧ acc + ((List.range' k (nw - k)).filter fun (w : Nat) => hasI ws (w : Int)).length = U ∧ Below w1.heap.size w1 wr
/-- what the reference's CheckWork answers for right work -/
def refCheckE (nw : Nat) (W : List Int) (J : List Jb) (ws : List Int) : Int := if ws.length = J.length then placedGo nw W J ws else 10

set_option maxRecDepth 100000 in
set_option maxHeartbeats 8000000 in
theorem refCheckWork_any (w : World) (B : Nat) (Aw Aj : Option Addr) (nw cw nj cj : Nat) (W : List Int) (J : List Jb) (hl : W.length = nw) (hlj : J.length = nj) (hw : Rd w B Aw (intCells W)) (hj : Rd w B Aj (evCells J)) (hB : B ≤ w.heap.size) (At : Option Addr) (nt ct : Nat) (ws : List Int) (hlt : ws.length = nt) (ht : Rd w B At (intCells ws)) (hnt : nt ≤ 1000000) (h0 : workM W J = 0) (E N : Int) (hE : refCheckE nw W J ws = E) (hN : (if E = 0 then (usedN nw ws : Int) else 0) = N) :
    Calls Tryd.prog 84 #[.agg #[.slice Aw nw cw, .slice Aj nj cj], .slice At nt ct] w (LeastPost w N E) := by
  have hb0 : Below w.heap.size w (w.alloc (.cells #[.slice Aw nw cw, .slice Aj nj cj] 130)) := (Below.refl _ _).alloc (Nat.le_refl _) _
  have k0 : (w.alloc (.cells #[.slice Aw nw cw, .slice Aj nj cj] 130)).heap[w.heap.size]? = some (.cells #[.slice Aw nw cw, .slice Aj nj cj] 130 (0, 0)) := by rw [heapq_alloc, if_pos rfl]
  have c0 := (cell_of_row _ _ 0 _ _ _ k0).trans (by rfl : _ = some (.slice Aw nw cw))
  have c1 := (cell_of_row _ _ 1 _ _ _ k0).trans (by rfl : _ = some (.slice Aj nj cj))
  have hw0 := hw.below (hb0.mono hB)
  have hj0 := hj.below (hb0.mono hB)
  have hs0 : w.heap.size ≤ (w.alloc (.cells #[.slice Aw nw cw, .slice Aj nj cj] 130)).heap.size := hb0.size
  have hB0 := Nat.le_trans hB hs0
  have HL := Lib.hid hl
  have HLJ := Lib.hid hlj
  have HB := Lib.hid hb0
  have ht0 := ht.below (hb0.mono hB)
  have HLT := Lib.hid hlt
  have H0 := Lib.hid h0
  obtain ⟨g1, g2, g3, g4⟩ := workM_zero h0
  rw [hl] at g1
  rw [hlj] at g2
  unfold refCheckE at hE
  rw [hlt, hlj] at hE
  have HEE := Lib.hid hE
  have HNN := Lib.hid hN
  clear hw hj ht hl hlj hlt hb0 k0 hE hN h0 g3 g4
  by_cases hnn : nt = nj
  · subst hnn
    have hne : ((nt : Int) != (nt : Int)) = false := by simp
    have HE2 : Hid (placedGo nw W J ws = E) := by
      have := HEE.out
      rw [if_pos rfl] at this
      exact this
    have PE := fun W0 (h1 : Rd W0 B Aw (intCells W)) (h2 : Rd W0 B Aj (evCells J)) (h3 : Rd W0 B At (intCells ws)) (h4 : B ≤ W0.heap.size) => placedErr_any W0 B Aw Aj nw cw nt cj W J HL.out HLJ.out h1 h2 h4 At nt ct ws HLT.out h3 (by omega) H0.out E HE2.out
    unfold ErrVal at PE
    go_enter Tryd.func84, Tryd.ntmps84
    go_upto_region 3 with (fail)
    generalize (w.alloc (.cells #[.slice Aw nw cw, .slice Aj nt cj] 130)) = w0 at *
    have PE1 := PE w0 hw0 hj0 ht0 hB0
    clear PE hne
    by_cases hE0 : E = 0
    · subst hE0
      have HU : Hid ((usedN nw ws : Int) = N) := by
        have := HNN.out
        rw [if_pos rfl] at this
        exact this
      go_wp2_with (go_at_call 136; refine PE1.mono ?_; rintro e3 w1 ⟨rfl, hb1⟩)
      replace c0 := kept hb1 c0
      replace ht0 := ht0.below (hb1.mono hB0)
      replace HB := Lib.hid (HB.out.trans (hb1.mono hs0))
      replace hs0 := Nat.le_trans hs0 hb1.size
      replace hB0 := Nat.le_trans hB0 hb1.size
      clear hb1
      have C0 := Lib.hid c0
      obtain ⟨U, hU⟩ : ∃ U, usedN nw ws = U := ⟨_, rfl⟩
      have HUU := Lib.hid hU
      rw [hU] at HU
      have HREL : Hid (UsedRel w1 nw ws U (.int .i64 0) (.int .i64 0) w1) := ⟨0, 0, Nat.zero_le _, Nat.le_refl _, rfl, rfl, by rw [Nat.zero_add, Nat.sub_zero, ← List.range_eq_range']; exact HUU.out, Below.refl _ _⟩
      clear PE1 hw0 hj0 c1 hU
      go_loopw [7, 8] (fun u7 u8 wr => UsedRel w1 nw ws U u7 u8 wr) (fun _ u8 _ => nw - (intOf u8).toNat)
      case atStart => exact HREL.out
      case round =>
        clear HREL c0
        obtain ⟨k, acc, hk, hacc, rfl, rfl, hf, hb⟩ := hrel
        have HF := Lib.hid hf
        have HBK := Lib.hid hb
        have c0 := kept hb C0.out
        have htk := ht0.below (hb.mono hB0)
        have hsk := hb.size
        have hBk := Nat.le_trans hB0 hsk
        clear hb hf
        by_cases hlt : k < nw
        · have HS : Hid (List.range' k (nw - k) = k :: List.range' (k + 1) (nw - (k + 1))) := by
            rw [Hid, show nw - k = (nw - (k + 1)) + 1 by omega, List.range'_succ]
          have HA := Has_any At nt ct B ws (k : Int) wr (by omega) HLT.out htk
          cases hz : hasI ws (k : Int) with
          | true =>
            rw [hz] at HA
            have HF2 : Hid ((acc + 1) + ((List.range' (k + 1) (nw - (k + 1))).filter fun (w : Nat) => hasI ws (w : Int)).length = U) := by
              have := HF.out
              rw [HS.out, List.filter_cons_of_pos (p := fun (w : Nat) => hasI ws (w : Int)) hz, List.length_cons] at this
              rw [Hid]
              omega
            clear hz
            go_wp2_with (go_at_call 52; refine HA.mono ?_; rintro e3 w' ⟨rfl, rfl⟩)
            go_roundw
            case rel => exact ⟨k + 1, acc + 1, by omega, by omega, by go_num, by go_num, HF2.out, HBK.out⟩
            case measure => simp [intOf]; omega
          | false =>
            rw [hz] at HA
            have HF2 : Hid (acc + ((List.range' (k + 1) (nw - (k + 1))).filter fun (w : Nat) => hasI ws (w : Int)).length = U) := by
              have := HF.out
              rw [HS.out, List.filter_cons_of_neg (p := fun (w : Nat) => hasI ws (w : Int)) (by rw [hz]; decide)] at this
              exact this
            clear hz
            go_wp2_with (go_at_call 52; refine HA.mono ?_; rintro e3 w' ⟨rfl, rfl⟩)
            go_roundw
            case rel => exact ⟨k + 1, acc, by omega, by omega, by go_num, rfl, HF2.out, HBK.out⟩
            case measure => simp [intOf]; omega
        · have HAU : Hid ((acc : Int) = N) := by
            have := HF.out
            rw [show nw - k = 0 by omega] at this
            simp at this
            rw [Hid, ← HU.out, ← this]
          go_wp2
          go_ret2
          exact ⟨by rw [← HAU.out]; rfl, HB.out.trans (HBK.out.mono hs0)⟩
    · have HN0 : Hid (N = 0) := by
        have := HNN.out
        rw [if_neg hE0] at this
        exact this.symm
      have e1 : (E != 0) = true := bne_iff_ne.2 hE0
      go_wp2_with (go_at_call 136; refine PE1.mono ?_; rintro e3 w1 ⟨rfl, hb1⟩)
      go_ret2
      exact ⟨by rw [HN0.out]; rfl, HB.out.trans (hb1.mono hs0)⟩
  · have hne : ((nt : Int) != (nj : Int)) = true := bne_iff_ne.2 (by omega)
    have HE2 : Hid (E = 10) := by
      have := HEE.out
      rw [if_neg hnn] at this
      exact this.symm
    have HN0 : Hid (N = 0) := by
      have := HNN.out
      rw [HE2.out, if_neg (by decide)] at this
      exact this.symm
    go_enter Tryd.func84, Tryd.ntmps84
    go_upto_region 1 with (fail)
    generalize (w.alloc (.cells #[.slice Aw nw cw, .slice Aj nj cj] 130)) = w0 at *
    go_wp2
    go_ret2
    exact ⟨by rw [HN0.out, HE2.out]; rfl, HB.out⟩

/-- a window more -/
def workG (nw : Nat) (W : List Int) (J : List Jb) (k : Nat) (hv : List Int) (wn : Nat) : Option (List Int) := if placedGo nw W J (hv ++ [(wn : Int)]) = 0 then refWork nw J W k (hv ++ [(wn : Int)]) else none
def WorkRel (w1 : World) (nw : Nat) (W : List Int) (J : List Jb) (k : Nat) (hv : List Int) (R : Option (List Int)) (u6 : Value) (wr : World) : Prop :=
  ∃ wn : Nat, wn ≤ nw ∧ u6 = .int .i64 wn ∧ (List.range' wn (nw - wn)).findSome? (workG nw W J k hv) = R ∧ Below w1.heap.size w1 wr
def WorkAll (nw nj cw cj : Nat) (Aw Aj : Option Addr) (W : List Int) (J : List Jb) (k : Nat) : Prop := ∀ (w : World) (B : Nat) (Av : Option Addr) (nv cv : Nat) (hv : List Int), Rd w B Aw (intCells W) → Rd w B Aj (evCells J) → B ≤ w.heap.size → hv.length = nv → nv + k = nj → Rd w B Av (intCells hv) →
    Calls Tryd.prog 137 #[.agg #[.slice Aw nw cw, .slice Aj nj cj], .slice Av nv cv] w (RefLeastPost w (refWork nw J W k hv))

set_option maxHeartbeats 4000000 in
theorem work_zero (nw nj cw cj : Nat) (Aw Aj : Option Addr) (W : List Int) (J : List Jb) : WorkAll nw nj cw cj Aw Aj W J 0 := by
  intro w B Av nv cv hv hw hj hB hlv hnv hvr
  obtain rfl : nv = nj := hnv
  have hb0 : Below w.heap.size w (w.alloc (.cells #[.slice Aw nw cw, .slice Aj nv cj] 130)) := (Below.refl _ _).alloc (Nat.le_refl _) _
  have HV := Lib.hid ((hvr.below (hb0.mono hB)).mono (Nat.le_trans hB hb0.size))
  have HLV := Lib.hid hlv
  clear hw hj hvr hlv
  rw [refWork]
  go_enter Tryd.func137, Tryd.ntmps137
  go_wp2
  go_ret2
  exact ⟨_, rfl, ⟨Av, cv, by rw [HLV.out]; rfl, HV.out⟩, hb0⟩

set_option maxRecDepth 100000 in
set_option maxHeartbeats 16000000 in
theorem work_succ (nw nj cw cj : Nat) (Aw Aj : Option Addr) (W : List Int) (J : List Jb) (hl : W.length = nw) (hlj : J.length = nj) (h0 : workM W J = 0) (k : Nat) (IH : WorkAll nw nj cw cj Aw Aj W J k) : WorkAll nw nj cw cj Aw Aj W J (k + 1) := by
  intro w B Av nv cv hv hw hj hB hlv hnv hvr
  obtain ⟨i1, hi1, hy0, hy1, hy2⟩ := info_parts info3
  have hb0 : Below w.heap.size w (w.alloc (.cells #[.slice Aw nw cw, .slice Aj nj cj] 130)) := (Below.refl _ _).alloc (Nat.le_refl _) _
  have k0 : (w.alloc (.cells #[.slice Aw nw cw, .slice Aj nj cj] 130)).heap[w.heap.size]? = some (.cells #[.slice Aw nw cw, .slice Aj nj cj] 130 (0, 0)) := by rw [heapq_alloc, if_pos rfl]
  have c0 := (cell_of_row _ _ 0 _ _ _ k0).trans (by rfl : _ = some (.slice Aw nw cw))
  have c1 := (cell_of_row _ _ 1 _ _ _ k0).trans (by rfl : _ = some (.slice Aj nj cj))
  have hw0 := hw.below (hb0.mono hB)
  have hj0 := hj.below (hb0.mono hB)
  have hs0 : w.heap.size ≤ (w.alloc (.cells #[.slice Aw nw cw, .slice Aj nj cj] 130)).heap.size := hb0.size
  have hB0 := Nat.le_trans hB hs0
  have HL := Lib.hid hl
  have HLJ := Lib.hid hlj
  have HB := Lib.hid hb0
  have hv0 := hvr.below (hb0.mono hB)
  have HLV := Lib.hid hlv
  have H0 := Lib.hid h0
  obtain ⟨g1, g2, g3, g4⟩ := workM_zero h0
  rw [hl] at g1
  rw [hlj] at g2
  obtain ⟨R, hR⟩ : ∃ R, refWork nw J W (k + 1) hv = R := ⟨_, rfl⟩
  rw [hR]
  have HR : Hid ((List.range' 0 nw).findSome? (workG nw W J k hv) = R) := by
    rw [Hid, ← hR, refWork, ← List.range_eq_range']
    rfl
  have hne : ((nv : Int) == (nj : Int)) = false := beq_eq_false_iff_ne.2 (by omega)
  clear hw hj hvr hl hlj hlv hb0 k0 h0 g3 g4 hR
  go_enter Tryd.func137, Tryd.ntmps137
  go_upto_region 3 with (fail)
  generalize (w.alloc (.cells #[.slice Aw nw cw, .slice Aj nj cj] 130)) = w0 at *
  have C0 := Lib.hid c0
  have C1 := Lib.hid c1
  go_wp2
  go_loopw [6] (fun u wr => WorkRel w0 nw W J k hv R u wr) (fun u _ => nw - (intOf u).toNat)
  case atStart => exact ⟨0, Nat.zero_le _, rfl, HR.out, Below.refl _ _⟩
  case round =>
    clear c0 c1 HR
    obtain ⟨wn, hwn, rfl, hf, hb⟩ := hrel
    have HF := Lib.hid hf
    have HBK := Lib.hid hb
    have c0 := kept hb C0.out
    have c1 := kept hb C1.out
    have hwk := hw0.below (hb.mono hB0)
    have hjk := hj0.below (hb.mono hB0)
    have hvk := hv0.below (hb.mono hB0)
    have hsk := hb.size
    have hBk := Nat.le_trans hB0 hsk
    clear hb hf
    by_cases hlt : wn < nw
    · have HF2 : Hid ((workG nw W J k hv wn).or ((List.range' (wn + 1) (nw - (wn + 1))).findSome? (workG nw W J k hv)) = R) := by
        have := HF.out
        rw [show nw - wn = (nw - (wn + 1)) + 1 by omega, List.range'_succ, List.findSome?_cons] at this
        cases hg : workG nw W J k hv wn with
        | none => rw [hg] at this; exact this
        | some q => rw [hg] at this; exact this
      have CI := CopyIntsR wr B Av nv cv hv HLV.out (by omega) hvk hBk
      clear HF
      go_upto_region 6 with fail
      go_wp2_with (first | (go_at_call 54; refine CI.mono ?_; rintro e3 wc ⟨g, c2, rfl, hown2, hb2⟩) | (at_builtin; refine stp ?_))
      unfold Stp
      have OW2 := Lib.hid hown2
      have hb3 : Below wr.heap.size wr (wc.alloc (.cells #[.int .i64 (wn : Int)] 3)) := hb2.alloc hb2.size _
      refine wpList_append_lies _ rfl _ _ 39 rfl wr.heap.size 3 i1 _ 1 8 Tryd.underlying39 hi1 hy0 hy1 hy2 rfl (by omega) (.slice (some ⟨g, 0, none⟩) nv c2) nv (intCells hv) rfl (OW2.out.alloc _) ⟨wc.heap.size, 0, none⟩ 1 1 [.int .i64 (wn : Int)] rfl rfl (news1 (by simp)) (by simp [Value.oneCell']) (by omega) (by simp only [maxLen]; omega) (by omega) hb3.size _ rfl ?_
      intro gg cap y5 hown5 hgrow5 hat5 hlt5
      have hb5 : Below wr.heap.size wr y5 := hb3.grown hgrow5 hb3.size (fun j hj => (ownBlk OW2.out hj).1)
      have hrs : Rd y5 y5.heap.size (some ⟨gg, 0, none⟩) (intCells (hv ++ [(wn : Int)])) := by simpa [intCells] using rd_own hown5
      clear hown5 hgrow5 hat5 hlt5 OW2 hown2 hb2 hb3 CI
      have hlv2 : (hv ++ [(wn : Int)]).length = nv + 1 := by rw [List.length_append, HLV.out]; rfl
      replace c0 := kept hb5 c0
      replace c1 := kept hb5 c1
      replace hwk := (hwk.below (hb5.mono hBk)).mono (Nat.le_trans hBk hb5.size)
      replace hjk := (hjk.below (hb5.mono hBk)).mono (Nat.le_trans hBk hb5.size)
      replace HBK := Lib.hid (HBK.out.trans (hb5.mono hsk))
      replace hsk := Nat.le_trans hsk hb5.size
      clear hb5 hvk
      obtain ⟨E, hE⟩ : ∃ E, placedGo nw W J (hv ++ [(wn : Int)]) = E := ⟨_, rfl⟩
      have PE := placedErr_any y5 y5.heap.size Aw Aj nw cw nj cj W J HL.out HLJ.out hwk hjk (Nat.le_refl _) (some ⟨gg, 0, none⟩) (nv + 1) cap (hv ++ [(wn : Int)]) hlv2 hrs (by omega) H0.out E hE
      unfold ErrVal at PE
      by_cases hE0 : E = 0
      · subst hE0
        have HG : Hid (workG nw W J k hv wn = refWork nw J W k (hv ++ [(wn : Int)])) := by rw [Hid, workG, if_pos hE]
        go_upto_region 8 with (go_at_call 136; refine PE.mono ?_; rintro e3 y6 ⟨rfl, hb6⟩)
        replace c0 := kept hb6 c0
        replace c1 := kept hb6 c1
        replace hwk := (hwk.below hb6).mono hb6.size
        replace hjk := (hjk.below hb6).mono hb6.size
        replace hrs := (hrs.below hb6).mono hb6.size
        replace HBK := Lib.hid (HBK.out.trans (hb6.mono hsk))
        replace hsk := Nat.le_trans hsk hb6.size
        clear hb6 PE hE
        have C := IH y6 y6.heap.size (some ⟨gg, 0, none⟩) (nv + 1) cap (hv ++ [(wn : Int)]) hwk hjk (Nat.le_refl _) hlv2 (by omega) hrs
        obtain ⟨o, ho⟩ : ∃ o, refWork nw J W k (hv ++ [(wn : Int)]) = o := ⟨_, rfl⟩
        rw [ho] at C HG
        unfold RefLeastPost at C
        clear hwk hjk hrs hlv2 ho
        cases o with
        | none =>
          simp only [BeamsAt, Option.isSome_none] at C
          have HN : Hid ((List.range' (wn + 1) (nw - (wn + 1))).findSome? (workG nw W J k hv) = R) := by
            have := HF2.out
            rw [HG.out] at this
            exact this
          go_wp2_with (go_at_call 137; refine C.mono ?_; rintro e3 y7 ⟨v, rfl, rfl, hb7⟩)
          have HB7 := Lib.hid (HBK.out.trans (hb7.mono hsk))
          clear hb7 C
          have HREL : Hid (WorkRel w0 nw W J k hv R (.int .i64 ((wn : Int) + 1)) y7) := ⟨wn + 1, by omega, by simp, HN.out, HB7.out⟩
          go_wp2
          go_roundw
          case rel =>
            first
              | exact HREL.out
              | (repeat apply Exists.intro
                 exact ⟨HREL.out, rfl⟩)
          case measure => simp [intOf]; omega
        | some T =>
          simp only [BeamsAt, Option.isSome_some] at C
          have HRS : Hid (R = some T) := by
            have := HF2.out
            rw [HG.out] at this
            exact this.symm
          go_wp2_with (go_at_call 137; refine C.mono ?_; rintro e3 y7 ⟨v, rfl, ⟨A4, c4, rfl, hT4⟩, hb7⟩)
          go_ret2
          exact ⟨.slice A4 T.length c4, by rw [HRS.out]; rfl, by rw [HRS.out]; exact ⟨A4, c4, rfl, hT4⟩, HB.out.trans ((HBK.out.trans (hb7.mono hsk)).mono hs0)⟩
      · have e1 : (E != 0) = true := bne_iff_ne.2 hE0
        have HN : Hid ((List.range' (wn + 1) (nw - (wn + 1))).findSome? (workG nw W J k hv) = R) := by
          have := HF2.out
          rw [workG, hE, if_neg hE0] at this
          exact this
        go_wp2_with (go_at_call 136; refine PE.mono ?_; rintro e3 y6 ⟨rfl, hb6⟩)
        have HB7 := Lib.hid (HBK.out.trans (hb6.mono hsk))
        clear hb6 PE hE hE0
        have HREL : Hid (WorkRel w0 nw W J k hv R (.int .i64 ((wn : Int) + 1)) y6) := ⟨wn + 1, by omega, by simp, HN.out, HB7.out⟩
        go_wp2
        go_roundw
        case rel =>
          first
            | exact HREL.out
            | (repeat apply Exists.intro
               exact ⟨HREL.out, rfl⟩)
        case measure => simp [intOf]; omega
    · have HG : Hid (R = none) := by
        have := HF.out
        rw [show nw - wn = 0 by omega] at this
        exact this.symm
      go_wp2
      go_ret2
      exact ⟨.slice none 0 0, by rw [HG.out]; rfl, by rw [HG.out]; rfl, HB.out.trans (HBK.out.mono hs0)⟩
theorem work_all (nw nj cw cj : Nat) (Aw Aj : Option Addr) (W : List Int) (J : List Jb) (hl : W.length = nw) (hlj : J.length = nj) (h0 : workM W J = 0) : ∀ k : Nat, WorkAll nw nj cw cj Aw Aj W J k
  | 0 => work_zero nw nj cw cj Aw Aj W J
  | k + 1 => work_succ nw nj cw cj Aw Aj W J hl hlj h0 k (work_all nw nj cw cj Aw Aj W J hl hlj h0 k)

set_option maxHeartbeats 4000000 in
theorem refFirstWork_any (w : World) (B : Nat) (Aw Aj : Option Addr) (nw cw nj cj : Nat) (W : List Int) (J : List Jb) (hl : W.length = nw) (hlj : J.length = nj) (hw : Rd w B Aw (intCells W)) (hj : Rd w B Aj (evCells J)) (hB : B ≤ w.heap.size) (h0 : workM W J = 0) (R : Option (List Int)) (hR : placeM J W = R) :
    Calls Tryd.prog 85 #[.agg #[.slice Aw nw cw, .slice Aj nj cj]] w (RefLeastPost w R) := by
  have hq : refWork nw J W nj [] = R := by
    obtain ⟨g1, g2, g3, g4⟩ := workM_zero h0
    have := work_eq W.length W J [] [] (fun j hj => (g4 j hj).2) rfl rfl
    rw [List.nil_append, hlj, hl] at this
    rw [this, show leftGo W [] [] = W from rfl, hR]
    simp
  have WA := work_all nw nj cw cj Aw Aj W J hl hlj h0 nj (w.alloc (.cells #[.slice Aw nw cw, .slice Aj nj cj] 130)) B none 0 0 []
  have hb0 : Below w.heap.size w (w.alloc (.cells #[.slice Aw nw cw, .slice Aj nj cj] 130)) := (Below.refl _ _).alloc (Nat.le_refl _) _
  have k0 : (w.alloc (.cells #[.slice Aw nw cw, .slice Aj nj cj] 130)).heap[w.heap.size]? = some (.cells #[.slice Aw nw cw, .slice Aj nj cj] 130 (0, 0)) := by rw [heapq_alloc, if_pos rfl]
  have c0 := (cell_of_row _ _ 0 _ _ _ k0).trans (by rfl : _ = some (.slice Aw nw cw))
  have c1 := (cell_of_row _ _ 1 _ _ _ k0).trans (by rfl : _ = some (.slice Aj nj cj))
  have hw0 := hw.below (hb0.mono hB)
  have hj0 := hj.below (hb0.mono hB)
  have hs0 : w.heap.size ≤ (w.alloc (.cells #[.slice Aw nw cw, .slice Aj nj cj] 130)).heap.size := hb0.size
  have hB0 := Nat.le_trans hB hs0
  have HL := Lib.hid hl
  have HLJ := Lib.hid hlj
  have HB := Lib.hid hb0
  have C := WA hw0 hj0 hB0 rfl (by omega) (fun k u hk => by simp [intCells] at hk)
  rw [hq] at C
  clear WA hq hw hj hl hlj hb0 k0 h0 hR hw0 hj0
  go_enter Tryd.func85, Tryd.ntmps85
  go_upto_region 1 with (fail)
  generalize (w.alloc (.cells #[.slice Aw nw cw, .slice Aj nj cj] 130)) = w0 at *
  cases R with
  | none =>
    unfold RefLeastPost at C
    go_wp2_with (go_at_call 137; refine C.mono ?_; rintro e3 y7 ⟨v, rfl, rfl, hb7⟩)
    go_ret2
    exact ⟨.slice none 0 0, rfl, rfl, HB.out.trans (hb7.mono hs0)⟩
  | some T =>
    unfold RefLeastPost at C
    go_wp2_with (go_at_call 137; refine C.mono ?_; rintro e3 y7 ⟨v, rfl, ⟨A4, c4, rfl, hT4⟩, hb7⟩)
    go_ret2
    exact ⟨.slice A4 T.length c4, rfl, ⟨A4, c4, rfl, hT4⟩, HB.out.trans (hb7.mono hs0)⟩
end Go.Proofs.YtmcjnfghlpnghaaDoor

namespace Go.Proofs.YtmcjnfghlpnghaaDoor
open Go.RowKit

def WorkOwn (w : World) (pp : List Int) (ws : List Ev) (np nw : Nat) (e : Ending) (w' : World) : Prop :=
  ∃ g1 c1 g2 c2, e = .returned (.agg #[.slice (some ⟨g1, 0, none⟩) np c1, .slice (some ⟨g2, 0, none⟩) nw c2]) ∧ w'.ownsRow w.heap.size 3 1 (.slice (some ⟨g1, 0, none⟩) np c1) np (intCells pp) ∧ w'.ownsRow w.heap.size 187 3 (.slice (some ⟨g2, 0, none⟩) nw c2) nw (evCells ws) ∧ Below w.heap.size w w'

set_option maxRecDepth 100000 in
set_option maxHeartbeats 4000000 in
theorem CopyWork_own (w : World) (B : Nat) (Ap Aw : Option Addr) (np cp nw cw : Nat) (pp : List Int) (ws : List Ev) (hl : pp.length = np) (hlw : ws.length = nw) (hn : np ≤ 1000000) (hm : nw ≤ 1000000) (hp : Rd w B Ap (intCells pp)) (hw : Rd w B Aw (evCells ws)) (hB : B ≤ w.heap.size) :
    Calls Tryd.prog 81 #[.agg #[.slice Ap np cp, .slice Aw nw cw]] w (WorkOwn w pp ws np nw) := by
  obtain ⟨i1, hi1, hy0, hy1, hy2⟩ := info_parts info187
  have hb0 : Below w.heap.size w ((w.alloc (.cells #[.slice Ap np cp, .slice Aw nw cw] 130)).alloc (.cells #[.slice none 0 0, .slice none 0 0] 130)) := ((Below.refl _ _).alloc (Nat.le_refl _) _).alloc (by simp) _
  have k0 : ((w.alloc (.cells #[.slice Ap np cp, .slice Aw nw cw] 130)).alloc (.cells #[.slice none 0 0, .slice none 0 0] 130)).heap[w.heap.size]? = some (.cells #[.slice Ap np cp, .slice Aw nw cw] 130 (0, 0)) := by
    rw [heapq_alloc, if_neg (by simp), heapq_alloc, if_pos rfl]
  have k1 : ((w.alloc (.cells #[.slice Ap np cp, .slice Aw nw cw] 130)).alloc (.cells #[.slice none 0 0, .slice none 0 0] 130)).heap[w.heap.size + 1]? = some (.cells #[.slice none 0 0, .slice none 0 0] 130 (0, 0)) := by
    rw [heapq_alloc, if_pos (by simp)]
  have hp0 := hp.below (hb0.mono hB)
  have hw0 := hw.below (hb0.mono hB)
  have hs1 : w.heap.size ≤ ((w.alloc (.cells #[.slice Ap np cp, .slice Aw nw cw] 130)).alloc (.cells #[.slice none 0 0, .slice none 0 0] 130)).heap.size := by simp; omega
  have hx1 : w.heap.size + 1 < ((w.alloc (.cells #[.slice Ap np cp, .slice Aw nw cw] 130)).alloc (.cells #[.slice none 0 0, .slice none 0 0] 130)).heap.size := by simp
  have HB := Lib.hid hb0
  have HL := Lib.hid hl
  have HLW := Lib.hid hlw
  have K1 := Lib.hid k1
  have a0 : ((w.alloc (.cells #[.slice Ap np cp, .slice Aw nw cw] 130)).alloc (.cells #[.slice none 0 0, .slice none 0 0] 130)).cell? ⟨w.heap.size, 0, none⟩ = some (.slice Ap np cp) := (cell_of_row ((w.alloc (.cells #[.slice Ap np cp, .slice Aw nw cw] 130)).alloc (.cells #[.slice none 0 0, .slice none 0 0] 130)) w.heap.size 0 _ _ _ k0).trans rfl
  have a1 : ((w.alloc (.cells #[.slice Ap np cp, .slice Aw nw cw] 130)).alloc (.cells #[.slice none 0 0, .slice none 0 0] 130)).cell? ⟨w.heap.size, 1, none⟩ = some (.slice Aw nw cw) := (cell_of_row ((w.alloc (.cells #[.slice Ap np cp, .slice Aw nw cw] 130)).alloc (.cells #[.slice none 0 0, .slice none 0 0] 130)) w.heap.size 1 _ _ _ k0).trans rfl
  have HX := Lib.hid hx1
  clear hl hlw hp hw hb0 k0 k1 hx1
  go_enter Tryd.func81, Tryd.ntmps81
  go_upto_region 1 with (fail)
  generalize ((w.alloc (.cells #[.slice Ap np cp, .slice Aw nw cw] 130)).alloc (.cells #[.slice none 0 0, .slice none 0 0] 130)) = W0 at *
  have hBW : B ≤ W0.heap.size := Nat.le_trans hB hs1
  generalize hx : w.heap.size = x at *
  have HXX := Lib.hid hx
  clear hx
  have x0 := fun y : Xt W0 => y.cell a0
  have x1 := fun y : Xt W0 => y.cell a1
  refine wp_region_eager [7, 8] (fun w' => ∃ y : Xt W0, w' = y.1) (by kernel_rfl) ⟨⟨W0.drew, (Below.refl _ _).drew⟩, rfl⟩ ?_
  refine wpE_reads [0, 1, 4, 5] 5 rfl (by kernel_rfl) ?_
  simp only [opsAt_nil, opsAt_cons, consOpt_some, List.getElem?_toArray, List.getElem?_cons_zero, List.getElem?_cons_succ]
  repeat (go_big_quiet_step (fail))
  refine wpQuiet_nil ?_
  have hbd : Below W0.heap.size W0 W0.drew := (Below.refl _ _).drew
  show wpE _ _ _ _ _ _ _ _ _ W0.drew
  generalize W0.drew = wd at *
  clear x0 x1 a0 a1
  refine wpE_two (i := 2) (k := 3) rfl (by kernel_rfl) rfl rfl ?_ ?_
  · unfold wpMid
    simp only [opsAt_nil, opsAt_cons, consOpt_some, List.getElem?_toArray, List.getElem?_cons_zero, List.getElem?_cons_succ]
    go_wp2_with (go_at_call 54; refine (CopyIntsR wd B Ap np cp pp HL.out hn (hp0.below (hbd.mono hBW)) (Nat.le_trans hBW hbd.size)).mono ?_; rintro e w2 ⟨g1, cR, rfl, hR, hb2⟩)
    have hb02 := hbd.trans (hb2.mono hbd.size)
    refine onlyNormal_mk ⟨⟨⟨_, hb02⟩, rfl⟩, ?_⟩
    refine wpE_one (i := 3) rfl (by kernel_rfl) rfl ?_
    unfold wpMid
    simp only [opsAt_nil, opsAt_cons, consOpt_some, List.getElem?_toArray, List.getElem?_cons_zero, List.getElem?_cons_succ]
    go_wp2
    have hb03 : Below W0.heap.size W0 (w2.alloc (.cells #[] 187)) := hb02.alloc hb02.size _
    have gq : (w2.alloc (.cells #[] 187)).heap[w2.heap.size]? = some (.cells #[] 187 (0, 0)) := by rw [heapq_alloc, if_pos rfl]
    have hR3 := ownsRow_below hR ((Below.refl _ _).alloc (Nat.le_refl _) (.cells #[] 187))
    have hg : W0.heap.size ≤ w2.heap.size := hb02.size
    clear hR
    generalize w2.alloc (.cells #[] 187) = w3 at *
    generalize w2.heap.size = g at *
    refine onlyNormal_mk ⟨⟨⟨_, hb03⟩, rfl⟩, ?_⟩
    refine wpE_one (i := 6) rfl (by kernel_rfl) rfl ?_
    unfold wpMid
    simp only [opsAt_nil, opsAt_cons, consOpt_some, List.getElem?_toArray, List.getElem?_cons_zero, List.getElem?_cons_succ]
    have hrd := hw0.below (hb03.mono hBW)
    have hgl := lt_of_block gq
    have n3 : g1 ≠ g := Ne.symm (ownBlk_ne hR3 rfl gq (by decide))
    refine wpList_append_copy w3 rfl _ _ 128 rfl g 187 i1 _ 3 24 Tryd.underlying128 hi1 hy0 hy1 hy2 rfl (by omega) g rfl gq (Nat.le_refl _) B Aw nw cw (evCells ws) rfl (by rw [evCells_len, HLW.out]) hrd (evCells_one ws) (by simp only [maxLen]; omega) (by omega) (Nat.le_of_lt hgl) ?_
    intro G cG w4 hown hgrow _
    have hb4 : Below W0.heap.size W0 w4 := hb03.grown hgrow hb03.size (fun k hk => by rw [← Option.some.inj hk]; exact hg)
    have hG := ownBlk hown rfl
    have hR4 := hR3.kept hgrow (.inr (by simp only [Value.ownBlock]; exact fun h => n3 (Option.some.inj h)))
    have hk4 := (hb4.block (x + 1) HX.out).trans K1.out
    have n4 : x + 1 ≠ g1 := ownBlk_ne hR4 rfl hk4 (by decide)
    have s4 := hgrow.size
    have m4 : x + 1 ≠ G := ownBlk_ne hown rfl hk4 (by decide)
    have hxW : x ≤ W0.heap.size := by have := HX.out; omega
    have RPP := ownsRow_more hR4 (base' := x) (Nat.le_trans hxW hbd.size)
    have RWW := ownsRow_more hown (base' := x) (Nat.le_trans hxW hg)
    clear hrd n3 hown hgrow hR4 hk4
    refine onlyNormal_mk ⟨⟨⟨_, hb4⟩, rfl⟩, ?_⟩
    refine wpE_tail rfl (by kernel_rfl) ?_
    simp only [opsAt_nil, opsAt_cons, consOpt_some, List.getElem?_toArray, List.getElem?_cons_zero, List.getElem?_cons_succ]
    have hk := (hb4.block (x + 1) HX.out).trans K1.out
    have t0 := cell_of_row w4 (x + 1) 0 _ _ _ hk
    have t1 := cell_of_row w4 (x + 1) 1 _ _ _ hk
    simp at t0 t1
    have q0 := frozen_of_row w4 (x + 1) 0 _ _ hk
    have q1 := frozen_of_row w4 (x + 1) 1 _ _ hk
    have RP := Lib.hid RPP
    clear RPP
    have RW := Lib.hid RWW
    clear RWW
    have HBE := Lib.hid (HB.out.trans (hb4.mono hs1))
    clear hk
    go_wp2
    refine onlyNormal_mk ?_
    go_wp2
    refine bodyPost_ret (v := .agg #[.slice (some ⟨g1, 0, none⟩) np cR, .slice (some ⟨G, 0, none⟩) nw cG]) (by simp [results, Tryd.results81, go_sem, t0, t1]) rfl ⟨g1, cR, _, cG, rfl, ?_, ?_, ?_⟩
    · rw [HXX.out]
      exact ownsRow_setCell_other (ownsRow_setCell_other RP.out (by simp [Value.ownBlock]; omega) _) (by simp [Value.ownBlock]; omega) _
    · rw [HXX.out]
      exact ownsRow_setCell_other (ownsRow_setCell_other RW.out (by simp [Value.ownBlock]; omega) _) (by simp [Value.ownBlock]; omega) _
    · rw [HXX.out]
      exact (HBE.out.setCell (p := ⟨x + 1, 0, none⟩) (Nat.le_add_right x 1) _).setCell (p := ⟨x + 1, 1, none⟩) (Nat.le_add_right x 1) _
  · unfold wpMid
    simp only [opsAt_nil, opsAt_cons, consOpt_some, List.getElem?_toArray, List.getElem?_cons_zero, List.getElem?_cons_succ]
    go_wp2
    have hb02 : Below W0.heap.size W0 (wd.alloc (.cells #[] 187)) := hbd.alloc hbd.size _
    have gq2 : (wd.alloc (.cells #[] 187)).heap[wd.heap.size]? = some (.cells #[] 187 (0, 0)) := by rw [heapq_alloc, if_pos rfl]
    have hg : W0.heap.size ≤ wd.heap.size := hbd.size
    generalize wd.alloc (.cells #[] 187) = w2 at *
    generalize wd.heap.size = g at *
    refine onlyNormal_mk ⟨⟨⟨_, hb02⟩, rfl⟩, ?_⟩
    refine wpE_one (i := 2) rfl (by kernel_rfl) rfl ?_
    unfold wpMid
    simp only [opsAt_nil, opsAt_cons, consOpt_some, List.getElem?_toArray, List.getElem?_cons_zero, List.getElem?_cons_succ]
    go_wp2_with (go_at_call 54; refine (CopyIntsR w2 B Ap np cp pp HL.out hn (hp0.below (hb02.mono hBW)) (Nat.le_trans hBW hb02.size)).mono ?_; rintro e w3 ⟨g1, cR, rfl, hR3, hb3⟩)
    have hb03 := hb02.trans (hb3.mono hb02.size)
    have gq := (hb3.block g (lt_of_block gq2)).trans gq2
    refine onlyNormal_mk ⟨⟨⟨_, hb03⟩, rfl⟩, ?_⟩
    refine wpE_one (i := 6) rfl (by kernel_rfl) rfl ?_
    unfold wpMid
    simp only [opsAt_nil, opsAt_cons, consOpt_some, List.getElem?_toArray, List.getElem?_cons_zero, List.getElem?_cons_succ]
    have hrd := hw0.below (hb03.mono hBW)
    have hgl := lt_of_block gq
    have n3 : g1 ≠ g := Ne.symm (ownBlk_ne hR3 rfl gq (by decide))
    refine wpList_append_copy w3 rfl _ _ 128 rfl g 187 i1 _ 3 24 Tryd.underlying128 hi1 hy0 hy1 hy2 rfl (by omega) g rfl gq (Nat.le_refl _) B Aw nw cw (evCells ws) rfl (by rw [evCells_len, HLW.out]) hrd (evCells_one ws) (by simp only [maxLen]; omega) (by omega) (Nat.le_of_lt hgl) ?_
    intro G cG w4 hown hgrow _
    have hb4 : Below W0.heap.size W0 w4 := hb03.grown hgrow hb03.size (fun k hk => by rw [← Option.some.inj hk]; exact hg)
    have hG := ownBlk hown rfl
    have hR4 := hR3.kept hgrow (.inr (by simp only [Value.ownBlock]; exact fun h => n3 (Option.some.inj h)))
    have hk4 := (hb4.block (x + 1) HX.out).trans K1.out
    have n4 : x + 1 ≠ g1 := ownBlk_ne hR4 rfl hk4 (by decide)
    have s4 := hgrow.size
    have m4 : x + 1 ≠ G := ownBlk_ne hown rfl hk4 (by decide)
    have hxW : x ≤ W0.heap.size := by have := HX.out; omega
    have RPP := ownsRow_more hR4 (base' := x) (Nat.le_trans hxW hb02.size)
    have RWW := ownsRow_more hown (base' := x) (Nat.le_trans hxW hg)
    clear hrd n3 hown hgrow hR4 hk4
    refine onlyNormal_mk ⟨⟨⟨_, hb4⟩, rfl⟩, ?_⟩
    refine wpE_tail rfl (by kernel_rfl) ?_
    simp only [opsAt_nil, opsAt_cons, consOpt_some, List.getElem?_toArray, List.getElem?_cons_zero, List.getElem?_cons_succ]
    have hk := (hb4.block (x + 1) HX.out).trans K1.out
    have t0 := cell_of_row w4 (x + 1) 0 _ _ _ hk
    have t1 := cell_of_row w4 (x + 1) 1 _ _ _ hk
    simp at t0 t1
    have q0 := frozen_of_row w4 (x + 1) 0 _ _ hk
    have q1 := frozen_of_row w4 (x + 1) 1 _ _ hk
    have RP := Lib.hid RPP
    clear RPP
    have RW := Lib.hid RWW
    clear RWW
    have HBE := Lib.hid (HB.out.trans (hb4.mono hs1))
    clear hk
    go_wp2
    refine onlyNormal_mk ?_
    go_wp2
    refine bodyPost_ret (v := .agg #[.slice (some ⟨g1, 0, none⟩) np cR, .slice (some ⟨G, 0, none⟩) nw cG]) (by simp [results, Tryd.results81, go_sem, t0, t1]) rfl ⟨g1, cR, _, cG, rfl, ?_, ?_, ?_⟩
    · rw [HXX.out]
      exact ownsRow_setCell_other (ownsRow_setCell_other RP.out (by simp [Value.ownBlock]; omega) _) (by simp [Value.ownBlock]; omega) _
    · rw [HXX.out]
      exact ownsRow_setCell_other (ownsRow_setCell_other RW.out (by simp [Value.ownBlock]; omega) _) (by simp [Value.ownBlock]; omega) _
    · rw [HXX.out]
      exact (HBE.out.setCell (p := ⟨x + 1, 0, none⟩) (Nat.le_add_right x 1) _).setCell (p := ⟨x + 1, 1, none⟩) (Nat.le_add_right x 1) _

end Go.Proofs.YtmcjnfghlpnghaaDoor

namespace Go.Proofs.YtmcjnfghlpnghaaDoor
open Go.RowKit

theorem refCheck_eq {W : List Int} {J : List Jb} {ws : List Int} (h : workM W J = 0) : refCheckE W.length W J ws = checkM W J ws := by rw [refCheckE, checkM, if_pos h]

set_option maxRecDepth 100000 in
set_option maxHeartbeats 16000000 in
theorem CareWorks_all (w : World) (Aw Aj At : Option Addr) (nw cw nj cj nt ct : Nat) (Wd : List Int) (J : List Jb) (ws : List Int) (more : Int) (hk : KindsAt w) (hl : Wd.length = nw) (hlj : J.length = nj) (hlt : ws.length = nt) (hw : Rd w w.heap.size Aw (intCells Wd)) (hj : Rd w w.heap.size Aj (evCells J)) (ht : Rd w w.heap.size At (intCells ws)) :
    Calls Tryd.prog 16 #[.agg #[.slice Aw nw cw, .slice Aj nj cj], .slice At nt ct, .int .i64 more] w (AwakePost w) := by
  have hb0 : Below w.heap.size w (w.alloc (.cells #[.slice Aw nw cw, .slice Aj nj cj] 130)) := (Below.refl _ _).alloc (Nat.le_refl _) _
  replace hw := hw.below hb0
  replace hj := hj.below hb0
  replace ht := ht.below hb0
  have hs : w.heap.size ≤ (w.alloc (.cells #[.slice Aw nw cw, .slice Aj nj cj] 130)).heap.size := hb0.size
  have k0 : (w.alloc (.cells #[.slice Aw nw cw, .slice Aj nj cj] 130)).heap[w.heap.size]? = some (.cells #[.slice Aw nw cw, .slice Aj nj cj] 130 (0, 0)) := by rw [heapq_alloc, if_pos rfl]
  have a0 := (cell_of_row _ _ 0 _ _ _ k0).trans (by rfl : _ = some (.slice Aw nw cw))
  have a1 := (cell_of_row _ _ 1 _ _ _ k0).trans (by rfl : _ = some (.slice Aj nj cj))
  have A0 := awake_any _ (hk.below hb0)
  have HB := Lib.hid hb0
  have HL := Lib.hid hl
  have HLJ := Lib.hid hlj
  have HLT := Lib.hid hlt
  clear hl hlj hlt hb0 k0 hk
  go_enter Tryd.func16, Tryd.ntmps16
  go_upto_region 1 with (fail)
  generalize (w.alloc (.cells #[.slice Aw nw cw, .slice Aj nj cj] 130)) = w0 at *
  go_wp2_with fail
  refine (A0).mono ?_
  rintro e w1 ⟨rfl, hb1⟩
  replace a0 := kept hb1 a0
  replace a1 := kept hb1 a1
  replace hw := hw.below (hb1.mono hs)
  replace hj := hj.below (hb1.mono hs)
  replace ht := ht.below (hb1.mono hs)
  replace HB := Lib.hid (HB.out.trans (hb1.mono hs))
  replace hs := Nat.le_trans hs hb1.size
  clear hb1
  clear A0
  cases hq : jobsB nw nj with
  | false =>
    have JB := jobs_any w1 Aw Aj nw cw nj cj false hq
    clear hq
    go_wp2_with fail
    refine (JB).mono ?_
    rintro e w2 ⟨rfl, hb1⟩
    replace a0 := kept hb1 a0
    replace a1 := kept hb1 a1
    replace hw := hw.below (hb1.mono hs)
    replace hj := hj.below (hb1.mono hs)
    replace ht := ht.below (hb1.mono hs)
    replace HB := Lib.hid (HB.out.trans (hb1.mono hs))
    replace hs := Nat.le_trans hs hb1.size
    clear hb1
    go_wp2
    go_ret
    exact ⟨rfl, HB.out⟩
  | true =>
    have JB := jobs_any w1 Aw Aj nw cw nj cj true hq
    have g1 : nw ≤ 7 ∧ nj ≤ 8 := by
      simp only [jobsB, Bool.and_eq_true, Bool.or_eq_true, decide_eq_true_eq] at hq
      omega
    obtain ⟨g1, g2⟩ := g1
    clear hq
    by_cases h8 : (8 : Int) < (nt : Int)
    · go_wp2_with fail
      refine (JB).mono ?_
      rintro e w2 ⟨rfl, hb1⟩
      replace a0 := kept hb1 a0
      replace a1 := kept hb1 a1
      replace hw := hw.below (hb1.mono hs)
      replace hj := hj.below (hb1.mono hs)
      replace ht := ht.below (hb1.mono hs)
      replace HB := Lib.hid (HB.out.trans (hb1.mono hs))
      replace hs := Nat.le_trans hs hb1.size
      clear hb1
      go_wp2
      go_ret
      exact ⟨rfl, HB.out⟩
    · go_wp2_with fail
      refine (JB).mono ?_
      rintro e w2 ⟨rfl, hb1⟩
      replace a0 := kept hb1 a0
      replace a1 := kept hb1 a1
      replace hw := hw.below (hb1.mono hs)
      replace hj := hj.below (hb1.mono hs)
      replace ht := ht.below (hb1.mono hs)
      replace HB := Lib.hid (HB.out.trans (hb1.mono hs))
      replace hs := Nat.le_trans hs hb1.size
      clear hb1
      go_upto_region 5 with fail
      clear JB
      by_cases hd : workM Wd J = 0
      · obtain ⟨r1, r2, r3, r4⟩ := workM_zero hd
        rw [HL.out] at r1 r4
        obtain ⟨E, hE⟩ : ∃ E, checkM Wd J ws = E := ⟨_, rfl⟩
        obtain ⟨N, hN⟩ : ∃ N, checkN Wd J ws = N := ⟨_, rfl⟩
        have hE2 : refCheckE nw Wd J ws = E := by
          have := refCheck_eq (ws := ws) hd
          rw [HL.out] at this
          exact this.trans hE
        have hN2 : (if E = 0 then (usedN nw ws : Int) else 0) = N := by
          rw [checkN, hE, HL.out] at hN
          exact hN
        obtain ⟨R, hR⟩ : ∃ R, placeM J Wd = R := ⟨_, rfl⟩
        have HD := Lib.hid hd
        have HW3 := Lib.hid r3
        have CK := fun W0 B A1 A2 A3 c1 c2 c3 (h1 : Rd W0 B A1 (intCells Wd)) (h2 : Rd W0 B A2 (evCells J)) (h3 : B ≤ W0.heap.size) (h4 : Rd W0 B A3 (intCells ws)) => CheckWork_any W0 B A1 A2 nw c1 nj c2 Wd J HL.out HLJ.out h1 h2 h3 (by omega) (by omega) A3 nt c3 ws HLT.out h4 (by omega) E N hE hN
        unfold LeastPost at CK
        have FW := fun W0 B A1 A2 c1 c2 (h1 : Rd W0 B A1 (intCells Wd)) (h2 : Rd W0 B A2 (evCells J)) (h3 : B ≤ W0.heap.size) (hc : nj ≤ c2) => FirstWork_yes W0 B A1 A2 nw c1 nj c2 Wd J HL.out HLJ.out h1 h2 h3 (by omega) (by omega) hc HD.out R hR
        have RE := fun W0 B A1 A2 c1 c2 (h1 : Rd W0 B A1 (intCells Wd)) (h2 : Rd W0 B A2 (evCells J)) (h3 : B ≤ W0.heap.size) => WorkErr_any W0 B A1 A2 nw c1 nj c2 Wd J HL.out HLJ.out h1 h2 h3 (by omega) (by omega)
        unfold ErrVal at RE
        have RC := fun W0 B A1 A2 A3 c1 c2 c3 (h1 : Rd W0 B A1 (intCells Wd)) (h2 : Rd W0 B A2 (evCells J)) (h3 : B ≤ W0.heap.size) (h4 : Rd W0 B A3 (intCells ws)) => refCheckWork_any W0 B A1 A2 nw c1 nj c2 Wd J HL.out HLJ.out h1 h2 h3 A3 nt c3 ws HLT.out h4 (by omega) HD.out E N hE2 hN2
        unfold LeastPost at RC
        have RF := fun W0 B A1 A2 c1 c2 (h1 : Rd W0 B A1 (intCells Wd)) (h2 : Rd W0 B A2 (evCells J)) (h3 : B ≤ W0.heap.size) => refFirstWork_any W0 B A1 A2 nw c1 nj c2 Wd J HL.out HLJ.out h1 h2 h3 HD.out R hR
        unfold RefLeastPost at RF
        unfold LeastOutPost at FW
        simp only [HD.out] at RE
        cases R with
        | none =>
          have hE0 : E ≠ 0 := by
            rw [← hE, checkM, if_pos hd]
            by_cases hll : ws.length = J.length
            · rw [if_pos hll]
              exact place_none J Wd ws (fun q hq => by rw [HL.out]; exact (r4 q hq).2) hR hll
            · rw [if_neg hll]
              decide
          have e1 : (E != 0) = true := bne_iff_ne.2 hE0
          clear hE hN hE2 hN2 hR hd r1 r2 r3 r4 hE0
          simp only [BeamsAt, leastE] at FW
          simp only [BeamsAt, Option.isSome_none] at RF
          go_wp2_with fail
          refine (CopyWork_any w2 w.heap.size Aw Aj nw cw nj cj Wd J HL.out HLJ.out (by omega) (by omega) hw hj hs).mono ?_
          rintro e w3 ⟨A1, c1, A2, c2, rfl, hc2, hp1, hp2, hb1⟩
          replace a0 := kept hb1 a0
          replace a1 := kept hb1 a1
          replace hw := hw.below (hb1.mono hs)
          replace hj := hj.below (hb1.mono hs)
          replace ht := ht.below (hb1.mono hs)
          replace HB := Lib.hid (HB.out.trans (hb1.mono hs))
          replace hs := Nat.le_trans hs hb1.size
          clear hb1
          go_wp2_with fail
          refine (CopyInts_any w3 w.heap.size At nt ct ws HLT.out (by omega) ht hs).mono ?_
          rintro e w4 ⟨A3, c3, rfl, ht1, hb1⟩
          replace a0 := kept hb1 a0
          replace a1 := kept hb1 a1
          replace hw := hw.below (hb1.mono hs)
          replace hj := hj.below (hb1.mono hs)
          replace ht := ht.below (hb1.mono hs)
          replace hp1 := (hp1.below hb1).mono hb1.size
          replace hp2 := (hp2.below hb1).mono hb1.size
          replace HB := Lib.hid (HB.out.trans (hb1.mono hs))
          replace hs := Nat.le_trans hs hb1.size
          clear hb1
          go_upto_region 6 with (go_at_call 80; refine (CK w4 w4.heap.size A1 A2 A3 c1 c2 c3 hp1 hp2 (Nat.le_refl _) ht1).mono ?_; rintro e w5 ⟨rfl, hb1⟩)
          replace a0 := kept hb1 a0
          replace a1 := kept hb1 a1
          replace hw := hw.below (hb1.mono hs)
          replace hj := hj.below (hb1.mono hs)
          replace ht := ht.below (hb1.mono hs)
          replace hp1 := (hp1.below hb1).mono hb1.size
          replace hp2 := (hp2.below hb1).mono hb1.size
          replace ht1 := (ht1.below hb1).mono hb1.size
          replace HB := Lib.hid (HB.out.trans (hb1.mono hs))
          replace hs := Nat.le_trans hs hb1.size
          clear hb1
          clear hp1 hp2 ht1
          go_wp2_with fail
          refine (CopyWork_any w5 w.heap.size Aw Aj nw cw nj cj Wd J HL.out HLJ.out (by omega) (by omega) hw hj hs).mono ?_
          rintro e w6 ⟨A1, c1, A2, c2, rfl, hc2, hp1, hp2, hb1⟩
          replace a0 := kept hb1 a0
          replace a1 := kept hb1 a1
          replace hw := hw.below (hb1.mono hs)
          replace hj := hj.below (hb1.mono hs)
          replace ht := ht.below (hb1.mono hs)
          replace HB := Lib.hid (HB.out.trans (hb1.mono hs))
          replace hs := Nat.le_trans hs hb1.size
          clear hb1
          go_upto_region 7 with (go_at_call 82; refine (FW w6 w6.heap.size A1 A2 c1 c2 hp1 hp2 (Nat.le_refl _) hc2).mono ?_; rintro e w7 ⟨v, rfl, rfl, hb1⟩)
          replace a0 := kept hb1 a0
          replace a1 := kept hb1 a1
          replace hw := hw.below (hb1.mono hs)
          replace hj := hj.below (hb1.mono hs)
          replace ht := ht.below (hb1.mono hs)
          replace hp1 := (hp1.below hb1).mono hb1.size
          replace hp2 := (hp2.below hb1).mono hb1.size
          replace HB := Lib.hid (HB.out.trans (hb1.mono hs))
          replace hs := Nat.le_trans hs hb1.size
          clear hb1
          clear hp1 hp2
          go_upto_region 8 with (go_at_call 83; refine (RE w7 w.heap.size Aw Aj cw cj hw hj hs).mono ?_; rintro e w8 ⟨rfl, hb1⟩)
          replace a0 := kept hb1 a0
          replace a1 := kept hb1 a1
          replace hw := hw.below (hb1.mono hs)
          replace hj := hj.below (hb1.mono hs)
          replace ht := ht.below (hb1.mono hs)
          replace HB := Lib.hid (HB.out.trans (hb1.mono hs))
          replace hs := Nat.le_trans hs hb1.size
          clear hb1
          go_upto_region 11 with (go_at_call 84; refine (RC w8 w.heap.size Aw Aj At cw cj ct hw hj hs ht).mono ?_; rintro e w9 ⟨rfl, hb1⟩)
          replace a0 := kept hb1 a0
          replace a1 := kept hb1 a1
          replace hw := hw.below (hb1.mono hs)
          replace hj := hj.below (hb1.mono hs)
          replace ht := ht.below (hb1.mono hs)
          replace HB := Lib.hid (HB.out.trans (hb1.mono hs))
          replace hs := Nat.le_trans hs hb1.size
          clear hb1
          go_upto_region 14 with (go_at_call 85; refine (RF w9 w.heap.size Aw Aj cw cj hw hj hs).mono ?_; rintro e w10 ⟨v, rfl, rfl, hb1⟩)
          replace a0 := kept hb1 a0
          replace a1 := kept hb1 a1
          replace hw := hw.below (hb1.mono hs)
          replace hj := hj.below (hb1.mono hs)
          replace ht := ht.below (hb1.mono hs)
          replace HB := Lib.hid (HB.out.trans (hb1.mono hs))
          replace hs := Nat.le_trans hs hb1.size
          clear hb1
          go_wp2
          go_ret
          exact ⟨rfl, HB.out⟩
        | some T =>
          obtain ⟨t1, t2⟩ := place_some (n := nw) J Wd T (fun q hq => (r4 q hq).2) hR
          have hT9 : T.length ≤ 9 := by rw [t1, HLJ.out]; omega
          have hET : checkM Wd J T = 0 := by rw [checkM, if_pos hd, if_pos t1, HL.out]; exact t2
          obtain ⟨NT, hNT⟩ : ∃ N, checkN Wd J T = N := ⟨_, rfl⟩
          have CT := fun W0 B A1 A2 A3 c1 c2 c3 (h1 : Rd W0 B A1 (intCells Wd)) (h2 : Rd W0 B A2 (evCells J)) (h3 : B ≤ W0.heap.size) (h4 : Rd W0 B A3 (intCells T)) => CheckWork_any W0 B A1 A2 nw c1 nj c2 Wd J HL.out HLJ.out h1 h2 h3 (by omega) (by omega) A3 T.length c3 T rfl h4 (by omega) 0 NT hET hNT
          unfold LeastPost at CT
          have HP := Lib.hid hR
          clear hE hN hE2 hN2 hR hd r1 r2 r3 r4 t1 t2 hET hNT
          simp only [BeamsAt, leastE] at FW
          simp only [BeamsAt, Option.isSome_some] at RF
          go_wp2_with fail
          refine (CopyWork_any w2 w.heap.size Aw Aj nw cw nj cj Wd J HL.out HLJ.out (by omega) (by omega) hw hj hs).mono ?_
          rintro e w3 ⟨A1, c1, A2, c2, rfl, hc2, hp1, hp2, hb1⟩
          replace a0 := kept hb1 a0
          replace a1 := kept hb1 a1
          replace hw := hw.below (hb1.mono hs)
          replace hj := hj.below (hb1.mono hs)
          replace ht := ht.below (hb1.mono hs)
          replace HB := Lib.hid (HB.out.trans (hb1.mono hs))
          replace hs := Nat.le_trans hs hb1.size
          clear hb1
          go_wp2_with fail
          refine (CopyInts_any w3 w.heap.size At nt ct ws HLT.out (by omega) ht hs).mono ?_
          rintro e w4 ⟨A3, c3, rfl, ht1, hb1⟩
          replace a0 := kept hb1 a0
          replace a1 := kept hb1 a1
          replace hw := hw.below (hb1.mono hs)
          replace hj := hj.below (hb1.mono hs)
          replace ht := ht.below (hb1.mono hs)
          replace hp1 := (hp1.below hb1).mono hb1.size
          replace hp2 := (hp2.below hb1).mono hb1.size
          replace HB := Lib.hid (HB.out.trans (hb1.mono hs))
          replace hs := Nat.le_trans hs hb1.size
          clear hb1
          go_upto_region 6 with (go_at_call 80; refine (CK w4 w4.heap.size A1 A2 A3 c1 c2 c3 hp1 hp2 (Nat.le_refl _) ht1).mono ?_; rintro e w5 ⟨rfl, hb1⟩)
          replace a0 := kept hb1 a0
          replace a1 := kept hb1 a1
          replace hw := hw.below (hb1.mono hs)
          replace hj := hj.below (hb1.mono hs)
          replace ht := ht.below (hb1.mono hs)
          replace hp1 := (hp1.below hb1).mono hb1.size
          replace hp2 := (hp2.below hb1).mono hb1.size
          replace ht1 := (ht1.below hb1).mono hb1.size
          replace HB := Lib.hid (HB.out.trans (hb1.mono hs))
          replace hs := Nat.le_trans hs hb1.size
          clear hb1
          clear hp1 hp2 ht1
          go_wp2_with fail
          refine (CopyWork_any w5 w.heap.size Aw Aj nw cw nj cj Wd J HL.out HLJ.out (by omega) (by omega) hw hj hs).mono ?_
          rintro e w6 ⟨A1, c1, A2, c2, rfl, hc2, hp1, hp2, hb1⟩
          replace a0 := kept hb1 a0
          replace a1 := kept hb1 a1
          replace hw := hw.below (hb1.mono hs)
          replace hj := hj.below (hb1.mono hs)
          replace ht := ht.below (hb1.mono hs)
          replace HB := Lib.hid (HB.out.trans (hb1.mono hs))
          replace hs := Nat.le_trans hs hb1.size
          clear hb1
          go_upto_region 7 with (go_at_call 82; refine (FW w6 w6.heap.size A1 A2 c1 c2 hp1 hp2 (Nat.le_refl _) hc2).mono ?_; rintro e w7 ⟨v, rfl, ⟨A4, c4, rfl, hT4⟩, hb1⟩)
          replace a0 := kept hb1 a0
          replace a1 := kept hb1 a1
          replace hw := hw.below (hb1.mono hs)
          replace hj := hj.below (hb1.mono hs)
          replace ht := ht.below (hb1.mono hs)
          replace hp1 := (hp1.below hb1).mono hb1.size
          replace hp2 := (hp2.below hb1).mono hb1.size
          replace HB := Lib.hid (HB.out.trans (hb1.mono hs))
          replace hs := Nat.le_trans hs hb1.size
          clear hb1
          clear hp1 hp2
          go_upto_region 8 with (go_at_call 83; refine (RE w7 w.heap.size Aw Aj cw cj hw hj hs).mono ?_; rintro e w8 ⟨rfl, hb1⟩)
          replace a0 := kept hb1 a0
          replace a1 := kept hb1 a1
          replace hw := hw.below (hb1.mono hs)
          replace hj := hj.below (hb1.mono hs)
          replace ht := ht.below (hb1.mono hs)
          replace hT4 := (hT4.below hb1).mono hb1.size
          replace HB := Lib.hid (HB.out.trans (hb1.mono hs))
          replace hs := Nat.le_trans hs hb1.size
          clear hb1
          go_upto_region 11 with (go_at_call 84; refine (RC w8 w.heap.size Aw Aj At cw cj ct hw hj hs ht).mono ?_; rintro e w9 ⟨rfl, hb1⟩)
          replace a0 := kept hb1 a0
          replace a1 := kept hb1 a1
          replace hw := hw.below (hb1.mono hs)
          replace hj := hj.below (hb1.mono hs)
          replace ht := ht.below (hb1.mono hs)
          replace hT4 := (hT4.below hb1).mono hb1.size
          replace HB := Lib.hid (HB.out.trans (hb1.mono hs))
          replace hs := Nat.le_trans hs hb1.size
          clear hb1
          go_upto_region 14 with (go_at_call 85; refine (RF w9 w.heap.size Aw Aj cw cj hw hj hs).mono ?_; rintro e w10 ⟨v, rfl, ⟨A5, c5, rfl, hT5⟩, hb1⟩)
          replace a0 := kept hb1 a0
          replace a1 := kept hb1 a1
          replace hw := hw.below (hb1.mono hs)
          replace hj := hj.below (hb1.mono hs)
          replace ht := ht.below (hb1.mono hs)
          replace hT4 := (hT4.below hb1).mono hb1.size
          replace HB := Lib.hid (HB.out.trans (hb1.mono hs))
          replace hs := Nat.le_trans hs hb1.size
          clear hb1
          go_upto_region 18 with (go_at_call 50; refine (Ints_same A4 A5 T.length c4 c5 w10.heap.size w10.heap.size T w10 (by omega) rfl hT4 hT5 (Nat.le_refl _) (Nat.le_refl _)).mono ?_; rintro e w11 ⟨rfl, hb1⟩)
          replace a0 := kept hb1 a0
          replace a1 := kept hb1 a1
          replace hw := hw.below (hb1.mono hs)
          replace hj := hj.below (hb1.mono hs)
          replace ht := ht.below (hb1.mono hs)
          replace hT4 := (hT4.below hb1).mono hb1.size
          replace hT5 := (hT5.below hb1).mono hb1.size
          replace HB := Lib.hid (HB.out.trans (hb1.mono hs))
          replace hs := Nat.le_trans hs hb1.size
          clear hb1
          clear hT5
          go_wp2_with fail
          refine (CopyWork_any w11 w.heap.size Aw Aj nw cw nj cj Wd J HL.out HLJ.out (by omega) (by omega) hw hj hs).mono ?_
          rintro e w12 ⟨A1, c1, A2, c2, rfl, hc2, hp1, hp2, hb1⟩
          replace a0 := kept hb1 a0
          replace a1 := kept hb1 a1
          replace hw := hw.below (hb1.mono hs)
          replace hj := hj.below (hb1.mono hs)
          replace ht := ht.below (hb1.mono hs)
          replace hT4 := (hT4.below hb1).mono hb1.size
          replace HB := Lib.hid (HB.out.trans (hb1.mono hs))
          replace hs := Nat.le_trans hs hb1.size
          clear hb1
          go_wp2_with fail
          refine (CopyInts_any w12 w12.heap.size A4 T.length c4 T rfl (by omega) hT4 (Nat.le_refl _)).mono ?_
          rintro e w13 ⟨A3, c3, rfl, ht1, hb1⟩
          replace a0 := kept hb1 a0
          replace a1 := kept hb1 a1
          replace hw := hw.below (hb1.mono hs)
          replace hj := hj.below (hb1.mono hs)
          replace ht := ht.below (hb1.mono hs)
          replace hT4 := (hT4.below hb1).mono hb1.size
          replace hp1 := (hp1.below hb1).mono hb1.size
          replace hp2 := (hp2.below hb1).mono hb1.size
          replace HB := Lib.hid (HB.out.trans (hb1.mono hs))
          replace hs := Nat.le_trans hs hb1.size
          clear hb1
          go_upto_region 21 with (go_at_call 80; refine (CT w13 w13.heap.size A1 A2 A3 c1 c2 c3 hp1 hp2 (Nat.le_refl _) ht1).mono ?_; rintro e w14 ⟨rfl, hb1⟩)
          replace a0 := kept hb1 a0
          replace a1 := kept hb1 a1
          replace hw := hw.below (hb1.mono hs)
          replace hj := hj.below (hb1.mono hs)
          replace ht := ht.below (hb1.mono hs)
          replace hT4 := (hT4.below hb1).mono hb1.size
          replace hp1 := (hp1.below hb1).mono hb1.size
          replace hp2 := (hp2.below hb1).mono hb1.size
          replace ht1 := (ht1.below hb1).mono hb1.size
          replace HB := Lib.hid (HB.out.trans (hb1.mono hs))
          replace hs := Nat.le_trans hs hb1.size
          clear hb1
          clear hp1 hp2 ht1 hT4
          cases qm : withinB more 0 ((nw : Int) - 1) with
          | false =>
            go_wp2_with (go_at_call 49; refine (Within_val _ _ _ _ qm _).mono ?_; rintro e w' ⟨rfl, rfl⟩)
            go_ret
            exact ⟨rfl, HB.out⟩
          | true =>
            have hm0 : 0 ≤ more ∧ more ≤ (nw : Int) - 1 := by simpa [withinB] using qm
            obtain ⟨mn, rfl⟩ := Int.eq_ofNat_of_zero_le hm0.1
            have hml : mn < Wd.length := by rw [HL.out]; omega
            have hvv := HW3.out _ (drop_mem hml)
            have hw' := hw
            obtain ⟨bl, ol, rfl, hbl, d0⟩ := hw'.at_ (intCells_at Wd mn hml)
            obtain ⟨v, hv⟩ : ∃ v, Wd[mn]?.getD 0 = v := ⟨_, rfl⟩
            rw [hv] at d0 hvv
            clear hw'
            by_cases hv1 : v = 1000
            · have e9 : (v == 1000) = true := beq_iff_eq.2 hv1
              subst hv1
              go_wp2_with (go_at_call 49; refine (Within_val _ _ _ _ qm _).mono ?_; rintro e w' ⟨rfl, rfl⟩)
              go_ret
              exact ⟨rfl, HB.out⟩
            · have e9 : (v == 1000) = false := beq_eq_false_iff_ne.2 hv1
              obtain ⟨hW2, ws', hP2⟩ := more_work HD.out hml (by rw [atI, Int.toNat_natCast, hv]; exact hv1) HP.out
              rw [atI, Int.toNat_natCast, hv] at hW2 hP2
              go_upto_region 23 with (go_at_call 49; refine (Within_val _ _ _ _ qm _).mono ?_; rintro e w' ⟨rfl, rfl⟩)
              clear d0 e9 qm
              have CO := CopyWork_own w14 w.heap.size (some ⟨bl, ol, none⟩) Aj nw cw nj cj Wd J HL.out HLJ.out (by omega) (by omega) hw hj hs
              go_wp2_with fail
              refine CO.mono ?_
              rintro e w18 ⟨g1_, c1, g2_, c2, rfl, o1, o2, hbc⟩
              clear CO
              go_upto_region 24 with (fail)
              have hba : Below w18.heap.size w18 (w18.alloc (.cells #[.slice (some ⟨g1_, 0, none⟩) nw c1, .slice (some ⟨g2_, 0, none⟩) nj c2] 130)) := (Below.refl _ _).alloc (Nat.le_refl _) _
              have ky : (w18.alloc (.cells #[.slice (some ⟨g1_, 0, none⟩) nw c1, .slice (some ⟨g2_, 0, none⟩) nj c2] 130)).heap[w18.heap.size]? = some (.cells #[.slice (some ⟨g1_, 0, none⟩) nw c1, .slice (some ⟨g2_, 0, none⟩) nj c2] 130 (0, 0)) := by rw [heapq_alloc, if_pos rfl]
              replace o1 := ownsRow_below o1 hba
              replace o2 := ownsRow_below o2 hba
              have hb1 := hbc.trans (hba.mono hbc.size)
              clear hbc hba
              generalize w18.alloc (.cells #[.slice (some ⟨g1_, 0, none⟩) nw c1, .slice (some ⟨g2_, 0, none⟩) nj c2] 130) = w19 at *
              generalize w18.heap.size = y at *
              have y0 := (cell_of_row w19 y 0 _ _ _ ky).trans (by rfl : _ = some (.slice (some ⟨g1_, 0, none⟩) nw c1))
              have y1 := (cell_of_row w19 y 1 _ _ _ ky).trans (by rfl : _ = some (.slice (some ⟨g2_, 0, none⟩) nj c2))
              obtain ⟨q0, q1, q2, q3⟩ := ownI_cell o1 (intCells_at Wd mn hml)
              rw [hv] at q0
              have hyg : y ≠ g1_ := ownBlk_ne o1 rfl ky (by decide)
              have h12 : g1_ ≠ g2_ := by
                obtain ⟨_, _, cur, hcur⟩ := ownBlk o2 rfl
                exact Ne.symm (ownBlk_ne o1 rfl hcur (by decide))
              have z0 := fun x : Xt w19 => x.cell y0
              have z1 := fun x : Xt w19 => x.cell q0
              have HB5 : Hid (Below w14.heap.size w14 (w19.setCell ⟨g1_, mn, none⟩ (.int .i64 (v + 1))).drew) := (hb1.setCell (p := ⟨g1_, mn, none⟩) q2 _).drew
              have p1 : Hid ((w19.setCell ⟨g1_, mn, none⟩ (.int .i64 (v + 1))).drew.ownsRow w14.heap.size 3 1 (.slice (some ⟨g1_, 0, none⟩) nw c1) nw (intCells (Wd.set mn (v + 1)))) := by
                rw [Hid, ← intCells_set]
                exact ownI_set o1 _
              have p2 : Hid ((w19.setCell ⟨g1_, mn, none⟩ (.int .i64 (v + 1))).drew.ownsRow w14.heap.size 187 3 (.slice (some ⟨g2_, 0, none⟩) nj c2) nj (evCells J)) := ownsRow_setCell_other o2 (a := ⟨g1_, mn, none⟩) (by simp only [Value.ownBlock]; exact fun he => h12 (Option.some.inj he).symm) (.int .i64 (v + 1))
              have y0' : (w19.setCell ⟨g1_, mn, none⟩ (.int .i64 (v + 1))).drew.cell? ⟨y, 0, none⟩ = some (.slice (some ⟨g1_, 0, none⟩) nw c1) := by
                show (w19.setCell ⟨g1_, mn, none⟩ (.int .i64 (v + 1))).cell? ⟨y, 0, none⟩ = _
                rw [World.cell?_setCell_other _ _ _ _ (fun he => hyg (by simpa using (congrArg Addr.block he).symm))]
                exact y0
              have y1' : (w19.setCell ⟨g1_, mn, none⟩ (.int .i64 (v + 1))).drew.cell? ⟨y, 1, none⟩ = some (.slice (some ⟨g2_, 0, none⟩) nj c2) := by
                show (w19.setCell ⟨g1_, mn, none⟩ (.int .i64 (v + 1))).cell? ⟨y, 1, none⟩ = _
                rw [World.cell?_setCell_other _ _ _ _ (fun he => hyg (by simpa using (congrArg Addr.block he).symm))]
                exact y1
              refine wp_region_eager [10] (fun w' => ∃ x : Xt w19, w' = x.1) (by kernel_rfl) ⟨⟨w19.drew, (Below.refl _ _).drew⟩, rfl⟩ ?_
              refine wpE_reads [0, 1, 2, 3, 4, 5, 6, 7, 8, 9] 1 rfl (by kernel_rfl) ?_
              simp only [opsAt_nil, opsAt_cons, consOpt_some, List.getElem?_toArray, List.getElem?_cons_zero, List.getElem?_cons_succ]
              repeat (go_big_quiet_step (fail))
              refine wpQuiet_nil ?_
              clear z0 z1
              refine wpE_tail rfl (by kernel_rfl) ?_
              simp only [opsAt_nil, opsAt_cons, consOpt_some, List.getElem?_toArray, List.getElem?_cons_zero, List.getElem?_cons_succ]
              go_wp2
              refine onlyNormal_mk ?_
              clear o1 o2 y0 y1 q0 q1 q2 q3 hb1
              generalize (w19.setCell ⟨g1_, mn, none⟩ (.int .i64 (v + 1))).drew = w20 at *
              have hb1 := HB5.out
              clear HB5
              replace a0 := kept hb1 a0
              replace a1 := kept hb1 a1
              replace hw := hw.below (hb1.mono hs)
              replace hj := hj.below (hb1.mono hs)
              replace ht := ht.below (hb1.mono hs)
              replace HB := Lib.hid (HB.out.trans (hb1.mono hs))
              replace hs := Nat.le_trans hs hb1.size
              clear hb1
              have LW := FirstWork_yes w20 w20.heap.size (some ⟨g1_, 0, none⟩) (some ⟨g2_, 0, none⟩) nw c1 nj c2 (Wd.set mn (v + 1)) J (by rw [List.length_set]; exact HL.out) HLJ.out (Rd_of_own p1.out) (Rd_of_own p2.out) (Nat.le_refl _) (by omega) (by omega) (capOf p2.out) hW2 (some ws') hP2
              unfold LeastOutPost at LW
              clear p1 p2 hW2 hP2
              go_wp2_with fail
              refine LW.mono ?_
              rintro e w21 ⟨v9, rfl, ⟨A9, c9, rfl, hT9⟩, hb1⟩
              go_wp2
              go_ret
              exact ⟨rfl, HB.out.trans (hb1.mono hs)⟩
      · have hEM : checkM Wd J ws = workM Wd J := by rw [checkM, if_neg hd]
        have hNM : checkN Wd J ws = 0 := by rw [checkN, hEM, if_neg hd]
        have CK := fun W0 B A1 A2 A3 c1 c2 c3 (h1 : Rd W0 B A1 (intCells Wd)) (h2 : Rd W0 B A2 (evCells J)) (h3 : B ≤ W0.heap.size) (h4 : Rd W0 B A3 (intCells ws)) => CheckWork_any W0 B A1 A2 nw c1 nj c2 Wd J HL.out HLJ.out h1 h2 h3 (by omega) (by omega) A3 nt c3 ws HLT.out h4 (by omega) _ _ hEM hNM
        unfold LeastPost at CK
        have FW := fun W0 B A1 A2 c1 c2 (h1 : Rd W0 B A1 (intCells Wd)) (h2 : Rd W0 B A2 (evCells J)) (h3 : B ≤ W0.heap.size) => FirstWork_no W0 B A1 A2 nw c1 nj c2 Wd J HL.out HLJ.out h1 h2 h3 (by omega) (by omega) hd
        have RE := fun W0 B A1 A2 c1 c2 (h1 : Rd W0 B A1 (intCells Wd)) (h2 : Rd W0 B A2 (evCells J)) (h3 : B ≤ W0.heap.size) => WorkErr_any W0 B A1 A2 nw c1 nj c2 Wd J HL.out HLJ.out h1 h2 h3 (by omega) (by omega)
        unfold ErrVal at RE
        unfold LeastOutPost at FW
        have e1 : (workM Wd J != 0) = true := bne_iff_ne.2 hd
        clear hEM hNM
        generalize workM Wd J = er at *
        clear hd
        go_wp2_with fail
        refine (CopyWork_any w2 w.heap.size Aw Aj nw cw nj cj Wd J HL.out HLJ.out (by omega) (by omega) hw hj hs).mono ?_
        rintro e w3 ⟨A1, c1, A2, c2, rfl, hc2, hp1, hp2, hb1⟩
        replace a0 := kept hb1 a0
        replace a1 := kept hb1 a1
        replace hw := hw.below (hb1.mono hs)
        replace hj := hj.below (hb1.mono hs)
        replace ht := ht.below (hb1.mono hs)
        replace HB := Lib.hid (HB.out.trans (hb1.mono hs))
        replace hs := Nat.le_trans hs hb1.size
        clear hb1
        go_wp2_with fail
        refine (CopyInts_any w3 w.heap.size At nt ct ws HLT.out (by omega) ht hs).mono ?_
        rintro e w4 ⟨A3, c3, rfl, ht1, hb1⟩
        replace a0 := kept hb1 a0
        replace a1 := kept hb1 a1
        replace hw := hw.below (hb1.mono hs)
        replace hj := hj.below (hb1.mono hs)
        replace ht := ht.below (hb1.mono hs)
        replace hp1 := (hp1.below hb1).mono hb1.size
        replace hp2 := (hp2.below hb1).mono hb1.size
        replace HB := Lib.hid (HB.out.trans (hb1.mono hs))
        replace hs := Nat.le_trans hs hb1.size
        clear hb1
        go_upto_region 6 with (go_at_call 80; refine (CK w4 w4.heap.size A1 A2 A3 c1 c2 c3 hp1 hp2 (Nat.le_refl _) ht1).mono ?_; rintro e w5 ⟨rfl, hb1⟩)
        replace a0 := kept hb1 a0
        replace a1 := kept hb1 a1
        replace hw := hw.below (hb1.mono hs)
        replace hj := hj.below (hb1.mono hs)
        replace ht := ht.below (hb1.mono hs)
        replace hp1 := (hp1.below hb1).mono hb1.size
        replace hp2 := (hp2.below hb1).mono hb1.size
        replace ht1 := (ht1.below hb1).mono hb1.size
        replace HB := Lib.hid (HB.out.trans (hb1.mono hs))
        replace hs := Nat.le_trans hs hb1.size
        clear hb1
        clear hp1 hp2 ht1
        go_wp2_with fail
        refine (CopyWork_any w5 w.heap.size Aw Aj nw cw nj cj Wd J HL.out HLJ.out (by omega) (by omega) hw hj hs).mono ?_
        rintro e w6 ⟨A1, c1, A2, c2, rfl, hc2, hp1, hp2, hb1⟩
        replace a0 := kept hb1 a0
        replace a1 := kept hb1 a1
        replace hw := hw.below (hb1.mono hs)
        replace hj := hj.below (hb1.mono hs)
        replace ht := ht.below (hb1.mono hs)
        replace HB := Lib.hid (HB.out.trans (hb1.mono hs))
        replace hs := Nat.le_trans hs hb1.size
        clear hb1
        go_upto_region 7 with (go_at_call 82; refine (FW w6 w6.heap.size A1 A2 c1 c2 hp1 hp2 (Nat.le_refl _)).mono ?_; rintro e w7 ⟨v, rfl, rfl, hb1⟩)
        replace a0 := kept hb1 a0
        replace a1 := kept hb1 a1
        replace hw := hw.below (hb1.mono hs)
        replace hj := hj.below (hb1.mono hs)
        replace ht := ht.below (hb1.mono hs)
        replace hp1 := (hp1.below hb1).mono hb1.size
        replace hp2 := (hp2.below hb1).mono hb1.size
        replace HB := Lib.hid (HB.out.trans (hb1.mono hs))
        replace hs := Nat.le_trans hs hb1.size
        clear hb1
        clear hp1 hp2
        go_upto_region 8 with (go_at_call 83; refine (RE w7 w.heap.size Aw Aj cw cj hw hj hs).mono ?_; rintro e w8 ⟨rfl, hb1⟩)
        replace a0 := kept hb1 a0
        replace a1 := kept hb1 a1
        replace hw := hw.below (hb1.mono hs)
        replace hj := hj.below (hb1.mono hs)
        replace ht := ht.below (hb1.mono hs)
        replace HB := Lib.hid (HB.out.trans (hb1.mono hs))
        replace hs := Nat.le_trans hs hb1.size
        clear hb1
        go_wp2
        go_ret
        exact ⟨rfl, HB.out⟩
end Go.Proofs.YtmcjnfghlpnghaaDoor

namespace Go.Proofs.YtmcjnfghlpnghaaDoor
open Go.ChangeShapes Go.WideShapes Go.Deep Go.RowKit Go Go.Joins

section
variable {H : Type} {enc : TypeId × Value → H} {w : World} {base : Nat} {spare : Nat → Bool} {held : Bool}

theorem ofc187 : Tryd.prog.cellsOf 187 = 3 := by kernel_rfl
set_option maxRecDepth 100000 in
theorem open_job {n : Nat} {cs : List Value} {y : DataW H × List MemPlace} (h : DataW.trod enc Tryd.prog w base spare held n 187 cs = some y) : ∃ e : Ev, cs = evVals e := by
  obtain ⟨y0, y1, y2, n, _, hl, h0, h1, h2⟩ := trod_struct3 Tryd.underlying187 h
  rw [ofc187] at hl
  match cs, hl with
  | [a, b, c], _ =>
    rw [ofc3] at h0 h1 h2
    simp only [List.drop_zero, List.take_succ_cons, List.take_zero, List.drop_succ_cons] at h0 h1 h2
    obtain ⟨i, e0, _⟩ := DataW.trod_int Tryd.underlying3 h0
    obtain ⟨j, e1, _⟩ := DataW.trod_int Tryd.underlying3 h1
    obtain ⟨k, e2, _⟩ := DataW.trod_int Tryd.underlying3 h2
    simp only [List.cons.injEq, and_true] at e0 e1 e2
    subst e0 e1 e2
    exact ⟨(i, j, k), rfl⟩
theorem open_jobs {fuel : Nat} {cs : List Value} {x : DataW H × List MemPlace} (h : DataW.trod enc Tryd.prog w base spare held fuel 128 cs = some x) :
    ∃ A n c, ∃ l : List Ev, cs = [.slice A n c] ∧ l.length = n ∧ n ≤ maxLen ∧ Rd w w.heap.size A (evCells l) :=
  open_rows (P := Tryd.prog) (k := 3) evVals Tryd.underlying128 ofc187 (fun _ => rfl) (fun _ _ _ hy => open_job hy) h

set_option maxRecDepth 100000 in
theorem open_work {r : Reach} {b0 : Nat} {v : Value} {d : DataW H} {p : List MemPlace} (hv : Value.okWide Tryd.prog w r b0 130 v) (h : DataW.Trod enc Tryd.prog w base spare held 130 v d p) :
    ∃ Ap Aw np cp nw cw, ∃ (pp : List Int) (ws : List Ev), v = .agg #[.slice Ap np cp, .slice Aw nw cw] ∧ (np ≤ maxLen ∧ nw ≤ maxLen) ∧ (pp.length = np ∧ ws.length = nw ∧ Rd w w.heap.size Ap (intCells pp) ∧ Rd w w.heap.size Aw (evCells ws)) := by
  obtain ⟨v0, v1, y0, y1, n, rfl, h0, h1⟩ := open_agg2s Tryd.underlying130 (by kernel_rfl) (by kernel_rfl) hv h
  obtain ⟨Ap, np, cp, pp, e0, lp, mp, rp⟩ := open_ints h0
  obtain ⟨Aw, nw, cw, ws, e1, lw, mw, rw_⟩ := open_jobs h1
  simp only [List.cons.injEq, and_true] at e0 e1
  subst e0 e1
  exact ⟨Ap, Aw, np, cp, nw, cw, pp, ws, rfl, ⟨mp, mw⟩, lp, lw, rp, rw_⟩
end
end Go.Proofs.YtmcjnfghlpnghaaDoor
