/- The least beams: the greedy choice by ends is least, beam by beam the first one: plain. In whatever order readings with the same end come, as few beams explain them: plain. DERIVED: THE SHELF's CONTRACTS AT THIS DUMP, IN PLAIN WORDS (tools/lay-plain.mjs out of 'TrydSortShelf.lean', which tools/lay-shelf.mjs wrote): THE SAME DECLARATIONS UNDER THE SAME NAMES: 'import', 'namespace', 'open', 'def', 'theorem' AND NOTHING ELSE: no command of the shelf's: FOR A HAND-IN. Each laying: the table of numbers ('.._ren') and one theorem, a field a fact of the dump's own or the kernel's comparison; each contract: ONE APPLICATION. slices.SortFunc at readings, by their ends; slices.Clone at readings. Readings sorted by their ends, in memory of the call's own. fewest: how many beams explain a record at least. fewest: the walk. The reference's LeastFaults. with: a record without what some beams explain. LeastFaults. LeastFaults: what the code returns for a right record. No fewer beams explain it: plain. CareFaults: the walk. CareExplained: the walk. -/
import Derived.Test.YtmcjnfghlpnghaaDoorM9
import Derived.Test.YtmcjnfghlpnghaaDoorM8
import Derived.Shelf.SlSortCmp.SmallK
import Derived.Ground.SlsfProg
import Derived.Test.YtmcjnfghlpnghaaDoorProg
import Derived.Test.YtmcjnfghlpnghaaDoorW4
import Derived.Test.YtmcjnfghlpnghaaDoorE1
namespace Go.Proofs.YtmcjnfghlpnghaaDoor

/-- the last one of some beams that a reading went over -/
def endGo (f t : Int) : Int → List Int → Int
  | e, [] => e
  | e, n :: ns => endGo f t (if withinB n f t = true then n else e) ns
/-- how many beams explain readings, one by one -/
def fewGo (S : List Int) : Nat → Int → List Rg → Option Nat
  | c, _, [] => some c
  | c, last, r :: rs =>
    if r.2.2 = false ∨ r.1 ≤ last then fewGo S c last rs
    else if endGo r.1 r.2.1 (-1) S < 0 then none
    else fewGo S (c + 1) (endGo r.1 r.2.1 (-1) S) rs
/-- the readings by their ends -/
def byEnd (l : List Rg) : List Rg := l.mergeSort fun a b => decide (a.2.1 ≤ b.2.1)
def fewM (S : List Int) (l : List Rg) : Option Nat := fewGo S 0 (-1) (byEnd l)

theorem withinB_iff {n a b : Int} : withinB n a b = true ↔ a ≤ n ∧ n ≤ b := by simp [withinB]

theorem endGo_spec (f t : Int) : ∀ (S : List Int) (e : Int), S.Pairwise (· < ·) →
    (endGo f t e S = e ∧ ∀ n ∈ S, withinB n f t = false) ∨ (endGo f t e S ∈ S ∧ withinB (endGo f t e S) f t = true ∧ ∀ n ∈ S, withinB n f t = true → n ≤ endGo f t e S)
  | [], e, _ => .inl ⟨rfl, fun _ h => by simp at h⟩
  | n :: S, e, h => by
    rw [List.pairwise_cons] at h
    rw [endGo]
    rcases endGo_spec f t S (if withinB n f t = true then n else e) h.2 with ⟨h1, h2⟩ | ⟨h1, h2, h3⟩
    · by_cases hn : withinB n f t = true
      · rw [if_pos hn] at h1 ⊢
        refine .inr ⟨by rw [h1]; simp, by rw [h1]; exact hn, fun m hm hw => ?_⟩
        rcases List.mem_cons.1 hm with rfl | hm
        · rw [h1]
          exact Int.le_refl _
        · rw [h2 m hm] at hw
          cases hw
      · rw [if_neg hn] at h1 ⊢
        refine .inl ⟨h1, fun m hm => ?_⟩
        rcases List.mem_cons.1 hm with rfl | hm
        · simpa using hn
        · exact h2 m hm
    · refine .inr ⟨by simp [h1], h2, fun m hm hw => ?_⟩
      rcases List.mem_cons.1 hm with rfl | hm
      · have := h.1 _ h1
        omega
      · exact h3 m hm hw

theorem missB_no {T : List Int} {r : Rg} (h : missB T r = false) (hw : r.2.2 = true) : ∃ t ∈ T, r.1 ≤ t ∧ t ≤ r.2.1 := by
  simp only [missB, hw, Bool.true_and, Bool.not_eq_false', List.any_eq_true] at h
  obtain ⟨t, ht, h⟩ := h
  exact ⟨t, ht, withinB_iff.1 h⟩
theorem missB_of {T : List Int} {r : Rg} (h : r.2.2 = true → ∃ t ∈ T, r.1 ≤ t ∧ t ≤ r.2.1) : missB T r = false := by
  cases hw : r.2.2 with
  | false => simp [missB, hw]
  | true =>
    obtain ⟨t, ht, h⟩ := h hw
    simp only [missB, hw, Bool.true_and, Bool.not_eq_false', List.any_eq_true]
    exact ⟨t, ht, withinB_iff.2 h⟩

theorem few_lower {S : List Int} (hS : S.Pairwise (· < ·)) (h0 : ∀ s ∈ S, 0 ≤ s) {T : List Int} (hT : ∀ t ∈ T, t ∈ S) : ∀ (l : List Rg) (c : Nat) (last : Int), (∀ r ∈ l, missB T r = false) →
    ∃ k, fewGo S c last l = some k ∧ k ≤ c + T.countP (fun t => decide (last < t))
  | [], c, last, _ => ⟨c, rfl, by omega⟩
  | r :: l, c, last, h => by
    have hl : ∀ q ∈ l, missB T q = false := fun q hq => h q (by simp [hq])
    by_cases hc : r.2.2 = false ∨ r.1 ≤ last
    · obtain ⟨k, h1, h2⟩ := few_lower hS h0 hT l c last hl
      exact ⟨k, by rw [fewGo, if_pos hc]; exact h1, h2⟩
    · have hw : r.2.2 = true := by
        cases hw : r.2.2 with
        | false => exact absurd (.inl hw) hc
        | true => rfl
      have hlt : last < r.1 := by
        by_cases hx : r.1 ≤ last
        · exact absurd (.inr hx) hc
        · omega
      obtain ⟨t, ht, ht1, ht2⟩ := missB_no (h r (by simp)) hw
      rcases endGo_spec r.1 r.2.1 S (-1) hS with ⟨_, h2⟩ | ⟨h1, h2, h3⟩
      · have := h2 t (hT t ht)
        rw [withinB_iff.2 ⟨ht1, ht2⟩] at this
        cases this
      · have hte := h3 t (hT t ht) (withinB_iff.2 ⟨ht1, ht2⟩)
        have he0 := h0 _ h1
        obtain ⟨k, g1, g2⟩ := few_lower hS h0 hT l (c + 1) (endGo r.1 r.2.1 (-1) S) hl
        refine ⟨k, by rw [fewGo, if_neg hc, if_neg (by omega)]; exact g1, ?_⟩
        have hcount : T.countP (fun x => decide (endGo r.1 r.2.1 (-1) S < x)) + 1 ≤ T.countP (fun x => decide (last < x)) := by
          obtain ⟨A, B, rfl⟩ := List.append_of_mem ht
          generalize endGo r.1 r.2.1 (-1) S = en at *
          have mono : ∀ X : List Int, X.countP (fun x => decide (en < x)) ≤ X.countP (fun x => decide (last < x)) := fun X => List.countP_mono_left (fun x _ hx => by simp at *; omega)
          have ha := mono A
          have hb := mono B
          simp only [List.countP_append, List.countP_cons]
          rw [if_neg (by simp; omega), if_pos (by simp; omega)]
          omega
        omega

theorem few_upper {S : List Int} (hS : S.Pairwise (· < ·)) : ∀ (l : List Rg) (c k : Nat) (last : Int), l.Pairwise (fun a b => a.2.1 ≤ b.2.1) → (∀ r ∈ l, last ≤ r.2.1) → fewGo S c last l = some k →
    ∃ T : List Int, T.Pairwise (· < ·) ∧ (∀ t ∈ T, t ∈ S ∧ last < t) ∧ c + T.length = k ∧ ∀ r ∈ l, r.2.2 = true → (r.1 ≤ last ∧ last ≤ r.2.1) ∨ ∃ t ∈ T, r.1 ≤ t ∧ t ≤ r.2.1
  | [], c, k, last, _, _, h => ⟨[], .nil, fun _ h => by simp at h, by simpa [fewGo] using h, fun _ h => by simp at h⟩
  | r :: l, c, k, last, hs, hb, h => by
    rw [List.pairwise_cons] at hs
    rw [fewGo] at h
    by_cases hc : r.2.2 = false ∨ r.1 ≤ last
    · rw [if_pos hc] at h
      obtain ⟨T, h1, h2, h3, h4⟩ := few_upper hS l c k last hs.2 (fun q hq => hb q (by simp [hq])) h
      refine ⟨T, h1, h2, h3, fun q hq hw => ?_⟩
      rcases List.mem_cons.1 hq with rfl | hq
      · rcases hc with hc | hc
        · rw [hw] at hc
          cases hc
        · exact .inl ⟨hc, hb q (by simp)⟩
      · exact h4 q hq hw
    · rw [if_neg hc] at h
      by_cases he : endGo r.1 r.2.1 (-1) S < 0
      · rw [if_pos he] at h
        cases h
      · rw [if_neg he] at h
        have hlt : last < r.1 := by
          by_cases hx : r.1 ≤ last
          · exact absurd (.inr hx) hc
          · omega
        rcases endGo_spec r.1 r.2.1 S (-1) hS with ⟨h1, _⟩ | ⟨h1, h2, h3⟩
        · omega
        · obtain ⟨w1, w2⟩ := withinB_iff.1 h2
          generalize endGo r.1 r.2.1 (-1) S = en at *
          obtain ⟨T, g1, g2, g3, g4⟩ := few_upper hS l (c + 1) k en hs.2 (fun q hq => by have := hs.1 q hq; omega) h
          refine ⟨en :: T, List.pairwise_cons.2 ⟨fun t ht => (g2 t ht).2, g1⟩, fun t ht => ?_, by simp; omega, fun q hq hw => ?_⟩
          · rcases List.mem_cons.1 ht with rfl | ht
            · exact ⟨h1, by omega⟩
            · have := g2 t ht
              exact ⟨this.1, by omega⟩
          · rcases List.mem_cons.1 hq with rfl | hq
            · exact .inr ⟨en, by simp, w1, w2⟩
            · rcases g4 q hq hw with g | ⟨t, ht, g⟩
              · exact .inr ⟨en, by simp, g⟩
              · exact .inr ⟨t, by simp [ht], g⟩

/-- so many of some beams explain readings, no fewer do -/
def MinK (S : List Int) (ex : List Int → Bool) (k : Nat) : Prop := (∃ T : List Int, T.Sublist S ∧ ex T = true ∧ T.length = k) ∧ ∀ T : List Int, T.Sublist S → ex T = true → k ≤ T.length
def exB (l : List Rg) (T : List Int) : Bool := !l.any (missB T)
theorem exB_iff {l : List Rg} {T : List Int} : exB l T = true ↔ ∀ r ∈ l, missB T r = false := by simp [exB]
theorem MinK.uniq {S : List Int} {ex : List Int → Bool} {k k' : Nat} (h : MinK S ex k) (h' : MinK S ex k') : k = k' := by
  obtain ⟨⟨T, h1, h2, h3⟩, h4⟩ := h
  obtain ⟨⟨T', g1, g2, g3⟩, g4⟩ := h'
  have := h4 T' g1 g2
  have := g4 T h1 h2
  omega

theorem byEnd_mem {l : List Rg} {r : Rg} : r ∈ byEnd l ↔ r ∈ l := List.mem_mergeSort
theorem byEnd_sorted (l : List Rg) : (byEnd l).Pairwise (fun a b => a.2.1 ≤ b.2.1) := by
  have := List.pairwise_mergeSort (le := fun a b : Rg => decide (a.2.1 ≤ b.2.1)) (fun a b c h1 h2 => by simp at *; omega) (fun a b => by simp; omega) l
  simpa [byEnd] using this

/-- **The greedy choice is least.** -/
theorem few_some {S : List Int} (hS : S.Pairwise (· < ·)) (h0 : ∀ s ∈ S, 0 ≤ s) {l : List Rg} (hl : ∀ r ∈ l, 0 ≤ r.1 ∧ r.1 ≤ r.2.1) {k : Nat} (h : fewM S l = some k) : MinK S (exB l) k := by
  obtain ⟨T, h1, h2, h3, h4⟩ := few_upper hS (byEnd l) 0 k (-1) (byEnd_sorted l) (fun r hr => by
    have := hl r (byEnd_mem.1 hr)
    omega) h
  refine ⟨⟨T, sub_of_sorted S T hS h1 fun t ht => (h2 t ht).1, exB_iff.2 fun r hr => missB_of fun hw => ?_, by omega⟩, fun U hU hx => ?_⟩
  · rcases h4 r (byEnd_mem.2 hr) hw with g | g
    · have := hl r hr
      omega
    · exact g
  · obtain ⟨k', g1, g2⟩ := few_lower hS h0 (T := U) (fun t ht => hU.subset ht) (byEnd l) 0 (-1) (fun r hr => exB_iff.1 hx r (byEnd_mem.1 hr))
    have : fewGo S 0 (-1) (byEnd l) = some k := h
    rw [this] at g1
    cases g1
    have := List.countP_le_length (p := fun t => decide ((-1 : Int) < t)) (l := U)
    omega
theorem few_none {S : List Int} (hS : S.Pairwise (· < ·)) (h0 : ∀ s ∈ S, 0 ≤ s) {l : List Rg} (h : fewM S l = none) : ∀ U : List Int, (∀ t ∈ U, t ∈ S) → exB l U = false := by
  intro U hU
  cases hx : exB l U with
  | false => rfl
  | true =>
    exfalso
    obtain ⟨k', g1, _⟩ := few_lower hS h0 (T := U) hU (byEnd l) 0 (-1) (fun r hr => exB_iff.1 hx r (byEnd_mem.1 hr))
    have : fewGo S 0 (-1) (byEnd l) = none := h
    rw [this] at g1
    cases g1

/-- a record without what some beams explain, and without the suspects up to the last one of them -/
def withM (l : List Rg) (bs : List Int) (n : Int) : List Rg := (0, n, false) :: l.filter fun r => !r.2.2 || !bs.any fun b => withinB b r.1 r.2.1
theorem withM_ex {l : List Rg} {bs T : List Int} {n : Int} : exB (withM l bs n) T = exB l (bs ++ T) := by
  rw [Bool.eq_iff_iff, exB_iff, exB_iff]
  constructor
  · intro h r hr
    by_cases hb : (bs.any fun b => withinB b r.1 r.2.1) = true
    · simp [missB, List.any_append, hb]
    · have hb' : (bs.any fun b => withinB b r.1 r.2.1) = false := by simpa using hb
      have := h r (by
        simp only [withM, List.mem_cons, List.mem_filter]
        exact .inr ⟨hr, by rw [hb']; simp⟩)
      simp only [missB, List.any_append, hb', Bool.false_or] at this ⊢
      exact this
  · intro h r hr
    simp only [withM, List.mem_cons, List.mem_filter] at hr
    rcases hr with rfl | ⟨hr, hk⟩
    · rfl
    · have := h r hr
      cases hw : r.2.2 with
      | false => simp [missB, hw]
      | true =>
        rw [hw] at hk
        have hb : (bs.any fun b => withinB b r.1 r.2.1) = false := by simpa using hk
        simp only [missB, List.any_append, hb, Bool.false_or] at this ⊢
        exact this
theorem withM_good {l : List Rg} {bs : List Int} {n b : Int} (hb : 0 ≤ b) : (withM l bs n).any (goodB b) = (decide (b ≤ n) || l.any (goodB b)) := by
  simp only [withM, List.any_cons, List.any_filter]
  congr 1
  · simp [goodB, withinB, hb]
  · congr 1
    funext r
    cases hw : r.2.2 <;> simp [goodB, hw]
theorem withM_susp {l : List Rg} {bs : List Int} {n : Int} (k : Nat) : suspK (withM l bs n) k = (suspK l k).filter fun b => decide (n < b) := by
  unfold suspK
  rw [List.filter_map, List.filter_filter]
  congr 1
  refine List.filter_congr fun b hb => ?_
  rw [withM_good (by omega)]
  simp only [Function.comp, Bool.not_or, ← decide_not, Int.not_le]
theorem suspK_sorted (l : List Rg) (k : Nat) : (suspK l k).Pairwise (· < ·) := by
  unfold suspK
  rw [List.pairwise_map]
  refine (List.pairwise_lt_range.filter _).imp fun {a b} h => ?_
  exact Int.ofNat_lt.2 h
theorem filter_tail {pre R : List Int} {n : Int} (h : (pre ++ n :: R).Pairwise (· < ·)) : (pre ++ n :: R).filter (fun b => decide (n < b)) = R := by
  rw [List.pairwise_append] at h
  obtain ⟨_, h2, h3⟩ := h
  rw [List.pairwise_cons] at h2
  rw [List.filter_append, List.filter_cons_of_neg (by simp), List.filter_eq_nil_iff.2 (fun a ha => by
    have := h3 a ha n (by simp)
    simp
    omega), List.nil_append, List.filter_eq_self.2 (fun a ha => by simpa using h2.1 a ha)]

/-- beam by beam the first one with which as few as possible do -/
def leastGo (few : List Int → Option Nat) : List Int → List Int → Nat → List Int
  | out, _, 0 => out
  | out, [], _ + 1 => out
  | out, n :: R, k + 1 => if few (out ++ [n]) = some k then leastGo few (out ++ [n]) R k else leastGo few out R (k + 1)
def withFew (l : List Rg) (bm : Nat) (bs : List Int) : Option Nat := fewM (suspK (withM l bs (bs.getLast?.getD 0)) bm) (withM l bs (bs.getLast?.getD 0))

theorem least_find {l : List Rg} (hl : ∀ r ∈ l, 0 ≤ r.1 ∧ r.1 ≤ r.2.1) (bm : Nat) : ∀ (R pre out : List Int) (k : Nat), suspK l bm = pre ++ R → MinK R (fun T => exB l (out ++ T)) k →
    ∃ T0, (setsZ R k).find? (fun T => exB l (out ++ T)) = some T0 ∧ leastGo (withFew l bm) out R k = out ++ T0
  | R, pre, out, 0, hS, hm => by
    obtain ⟨⟨T, h1, h2, h3⟩, _⟩ := hm
    obtain rfl := List.eq_nil_of_length_eq_zero h3
    refine ⟨[], ?_, by cases R <;> simp [leastGo]⟩
    have : setsZ R 0 = [[]] := by cases R <;> rfl
    rw [this, List.find?_cons_of_pos (by simpa using h2)]
  | [], pre, out, k + 1, hS, hm => by
    obtain ⟨⟨T, h1, h2, h3⟩, _⟩ := hm
    rw [List.sublist_nil.1 h1] at h3
    simp at h3
  | n :: R, pre, out, k + 1, hS, hm => by
    have hsort := suspK_sorted l bm
    have hn0 : 0 ≤ n := (suspK_in n (by rw [hS]; simp)).1
    have hlast : (out ++ [n]).getLast?.getD 0 = n := by simp
    have hR : suspK (withM l (out ++ [n]) n) bm = R := by
      rw [withM_susp, hS]
      exact filter_tail (hS ▸ hsort)
    have hRs : R.Pairwise (· < ·) := by
      rw [hS, List.pairwise_append, List.pairwise_cons] at hsort
      exact hsort.2.1.2
    have hR0 : ∀ s ∈ R, 0 ≤ s := fun s hs => (suspK_in s (by rw [hS]; simp [hs])).1
    have hwl : ∀ r ∈ withM l (out ++ [n]) n, 0 ≤ r.1 ∧ r.1 ≤ r.2.1 := by
      intro r hr
      simp only [withM, List.mem_cons, List.mem_filter] at hr
      rcases hr with rfl | ⟨hr, _⟩
      · exact ⟨Int.le_refl _, hn0⟩
      · exact hl r hr
    have hfew : withFew l bm (out ++ [n]) = fewM R (withM l (out ++ [n]) n) := by
      rw [withFew, hlast, hR]
    have happ : ∀ T : List Int, exB l (out ++ n :: T) = exB l ((out ++ [n]) ++ T) := fun T => by simp
    obtain ⟨⟨T1, h1, h2, h3⟩, h4⟩ := hm
    rw [leastGo]
    by_cases hf : withFew l bm (out ++ [n]) = some k
    · rw [if_pos hf]
      have hmin : MinK R (fun T => exB l ((out ++ [n]) ++ T)) k := by
        have := few_some hRs hR0 hwl (hfew ▸ hf)
        obtain ⟨⟨U, u1, u2, u3⟩, u4⟩ := this
        exact ⟨⟨U, u1, by rw [withM_ex] at u2; exact u2, u3⟩, fun V v1 v2 => u4 V v1 (by rw [withM_ex]; exact v2)⟩
      obtain ⟨T0, g1, g2⟩ := least_find hl bm R (pre ++ [n]) (out ++ [n]) k (by rw [hS]; simp) hmin
      refine ⟨n :: T0, ?_, by rw [g2]; simp⟩
      rw [setsZ, List.find?_append, List.find?_map]
      have : ((fun T => exB l (out ++ T)) ∘ (n :: ·)) = fun T => exB l ((out ++ [n]) ++ T) := by
        funext T
        exact happ T
      rw [this, g1]
      rfl
    · rw [if_neg hf]
      -- no least one begins with n
      have hno : ∀ T : List Int, T.Sublist R → exB l (out ++ n :: T) = true → k + 1 ≤ T.length := by
        intro T hT hx
        have hk : k ≤ T.length := by
          have := h4 (n :: T) (hT.cons_cons _) hx
          simpa using this
        by_cases hk' : T.length = k
        · exfalso
          apply hf
          rw [hfew]
          cases hq : fewM R (withM l (out ++ [n]) n) with
          | none =>
            have := few_none hRs hR0 hq T (fun t ht => hT.subset ht)
            rw [withM_ex, ← happ, hx] at this
            cases this
          | some q =>
            have hmin := few_some hRs hR0 hwl hq
            congr 1
            refine hmin.uniq ⟨⟨T, hT, by rw [withM_ex, ← happ]; exact hx, hk'⟩, fun V hV hVx => ?_⟩
            have := h4 (n :: V) (hV.cons_cons _) (by rw [withM_ex, ← happ] at hVx; exact hVx)
            simpa using this
        · omega
      have hmin : MinK R (fun T => exB l (out ++ T)) (k + 1) := by
        refine ⟨?_, fun T hT hx => h4 T (hT.cons _) hx⟩
        cases h1 with
        | cons _ h => exact ⟨T1, h, h2, h3⟩
        | @cons_cons U _ _ h =>
          have := hno U h h2
          simp at h3
          omega
      obtain ⟨T0, g1, g2⟩ := least_find hl bm R (pre ++ [n]) out (k + 1) (by rw [hS]; simp) hmin
      refine ⟨T0, ?_, g2⟩
      rw [setsZ, List.find?_append, List.find?_eq_none.2 ?_]
      · exact g1
      · intro U hU
        obtain ⟨V, hV, rfl⟩ := List.mem_map.1 hU
        obtain ⟨v1, v2⟩ := (setsZ_mem R k V).1 hV
        intro hx
        have := hno V v1 hx
        omega

/-- the sets of all sizes, one by one -/
def allSets (S : List Int) : List (List Int) := (List.range (S.length + 1)).flatMap fun k => setsZ S k
/-- the first set that explains: what the reference returns -/
def refLeast (l : List Rg) (S : List Int) : Option (List Int) := (allSets S).find? (exB l)
/-- what the code returns -/
def leastM (l : List Rg) (bm : Nat) : Option (List Int) := (fewM (suspK l bm) l).map fun k => leastGo (withFew l bm) [] (suspK l bm) k

/-- **Both least sets are one.** -/
theorem least_eq {l : List Rg} (hl : ∀ r ∈ l, 0 ≤ r.1 ∧ r.1 ≤ r.2.1) (bm : Nat) : leastM l bm = refLeast l (suspK l bm) := by
  have hsort := suspK_sorted l bm
  have h0 : ∀ s ∈ suspK l bm, 0 ≤ s := fun s hs => (suspK_in s hs).1
  unfold leastM
  cases hf : fewM (suspK l bm) l with
  | none =>
    rw [Option.map_none]
    symm
    unfold refLeast
    rw [List.find?_eq_none]
    intro T hT
    obtain ⟨k, _, hT⟩ := List.mem_flatMap.1 hT
    have := few_none hsort h0 hf T (fun t ht => ((setsZ_mem _ k T).1 hT).1.subset ht)
    simp [this]
  | some k =>
    rw [Option.map_some]
    have hm := few_some hsort h0 hl hf
    obtain ⟨T0, g1, g2⟩ := least_find hl bm (suspK l bm) [] [] k rfl (by simpa using hm)
    rw [g2, List.nil_append]
    symm
    obtain ⟨⟨T, t1, t2, t3⟩, h4⟩ := hm
    have hk : k ≤ (suspK l bm).length := by
      have := t1.length_le
      omega
    refine find_flat _ (List.range ((suspK l bm).length + 1)) k (List.range k) ((List.range ((suspK l bm).length + 1)).drop (k + 1)) ?_ ?_ T0 (by simpa using g1)
    · refine List.ext_getElem (by simp; omega) fun i hi hi' => ?_
      simp only [List.getElem_range, List.getElem_append, List.length_range, List.getElem_cons, List.getElem_drop]
      split
      · rfl
      · split <;> omega
    · intro j hj
      rw [List.mem_range] at hj
      rw [List.find?_eq_none]
      intro U hU hx
      obtain ⟨u1, u2⟩ := (setsZ_mem _ j U).1 hU
      have := h4 U u1 hx
      omega

/-- what is returned explains, with as few beams as possible; if there is nothing all suspects do not -/
theorem leastM_some {l : List Rg} (hl : ∀ r ∈ l, 0 ≤ r.1 ∧ r.1 ≤ r.2.1) (bm : Nat) {T : List Int} (h : leastM l bm = some T) : T.Sublist (suspK l bm) ∧ exB l T = true ∧ ∀ U : List Int, U.Sublist (suspK l bm) → exB l U = true → T.length ≤ U.length := by
  have hsort := suspK_sorted l bm
  have h0 : ∀ s ∈ suspK l bm, 0 ≤ s := fun s hs => (suspK_in s hs).1
  unfold leastM at h
  cases hf : fewM (suspK l bm) l with
  | none =>
    rw [hf] at h
    cases h
  | some k =>
    have hm := few_some hsort h0 hl hf
    obtain ⟨T0, g1, g2⟩ := least_find hl bm (suspK l bm) [] [] k rfl (by simpa using hm)
    rw [hf, Option.map_some, g2, List.nil_append] at h
    cases h
    have hmem := List.mem_of_find?_eq_some g1
    have hx := List.find?_some g1
    obtain ⟨u1, u2⟩ := (setsZ_mem _ k T).1 hmem
    exact ⟨u1, by simpa using hx, fun U hU hUx => by rw [u2]; exact hm.2 U hU hUx⟩
theorem leastM_none {l : List Rg} (bm : Nat) (h : leastM l bm = none) : ∀ U : List Int, (∀ t ∈ U, t ∈ suspK l bm) → exB l U = false := by
  unfold leastM at h
  refine few_none (suspK_sorted l bm) (fun s hs => (suspK_in s hs).1) ?_
  simpa using h
end Go.Proofs.YtmcjnfghlpnghaaDoor

namespace Go.Proofs.YtmcjnfghlpnghaaDoor

theorem few_some_in {S : List Int} (hS : S.Pairwise (· < ·)) (h0 : ∀ s ∈ S, 0 ≤ s) {l m : List Rg} (hm : ∀ r, r ∈ m ↔ r ∈ l) (hs : m.Pairwise (fun a b => a.2.1 ≤ b.2.1)) (hl : ∀ r ∈ l, 0 ≤ r.1 ∧ r.1 ≤ r.2.1) {k : Nat} (h : fewGo S 0 (-1) m = some k) : MinK S (exB l) k := by
  obtain ⟨T, h1, h2, h3, h4⟩ := few_upper hS m 0 k (-1) hs (fun r hr => by
    have := hl r ((hm r).1 hr)
    omega) h
  refine ⟨⟨T, sub_of_sorted S T hS h1 fun t ht => (h2 t ht).1, exB_iff.2 fun r hr => missB_of fun hw => ?_, by omega⟩, fun U hU hx => ?_⟩
  · rcases h4 r ((hm r).2 hr) hw with g | g
    · have := hl r hr
      omega
    · exact g
  · obtain ⟨k', g1, g2⟩ := few_lower hS h0 (T := U) (fun t ht => hU.subset ht) m 0 (-1) (fun r hr => exB_iff.1 hx r ((hm r).1 hr))
    rw [h] at g1
    cases g1
    have := List.countP_le_length (p := fun t => decide ((-1 : Int) < t)) (l := U)
    omega
theorem few_none_in {S : List Int} (hS : S.Pairwise (· < ·)) (h0 : ∀ s ∈ S, 0 ≤ s) {l m : List Rg} (hm : ∀ r, r ∈ m ↔ r ∈ l) (h : fewGo S 0 (-1) m = none) : ∀ U : List Int, (∀ t ∈ U, t ∈ S) → exB l U = false := by
  intro U hU
  cases hx : exB l U with
  | false => rfl
  | true =>
    exfalso
    obtain ⟨k', g1, _⟩ := few_lower hS h0 (T := U) hU m 0 (-1) (fun r hr => exB_iff.1 hx r ((hm r).1 hr))
    rw [h] at g1
    cases g1
/-- **The order of readings with the same end is of no account.** -/
theorem few_order {S : List Int} (hS : S.Pairwise (· < ·)) (h0 : ∀ s ∈ S, 0 ≤ s) {l m : List Rg} (hm : ∀ r, r ∈ m ↔ r ∈ l) (hs : m.Pairwise (fun a b => a.2.1 ≤ b.2.1)) (hl : ∀ r ∈ l, 0 ≤ r.1 ∧ r.1 ≤ r.2.1) : fewGo S 0 (-1) m = fewM S l := by
  cases h : fewGo S 0 (-1) m with
  | none =>
    have hn := few_none_in hS h0 hm h
    cases h' : fewM S l with
    | none => rfl
    | some k =>
      obtain ⟨⟨T, t1, t2, _⟩, _⟩ := few_some hS h0 hl h'
      rw [hn T fun t ht => t1.subset ht] at t2
      cases t2
  | some k =>
    have hk := few_some_in hS h0 hm hs hl h
    cases h' : fewM S l with
    | none =>
      obtain ⟨⟨T, t1, t2, _⟩, _⟩ := hk
      rw [few_none hS h0 h' T fun t ht => t1.subset ht] at t2
      cases t2
    | some k' => rw [hk.uniq (few_some hS h0 hl h')]
end Go.Proofs.YtmcjnfghlpnghaaDoor

namespace Go.Proofs
open Go.Shelf
def Tryd.laysSort167_ren : Go.Shelf.Ren := ⟨fun | 6 => 167 | 15 => 149 | 14 => 185 | 28 => 180 | 29 => 181 | 20 => 192 | 21 => 193 | 22 => 194 | 23 => 195 | 24 => 196 | 25 => 197 | 26 => 198 | 27 => 199 | 46 => 203 | 47 => 187 | 48 => 188 | 49 => 204 | 50 => 205 | 57 => 206 | n => n, fun | 22 => 94 | 24 => 175 | 25 => 213 | 3 => 3 | 39 => 204 | 0 => 0 | 53 => 228 | 55 => 230 | 4 => 4 | 46 => 221 | 45 => 220 | 50 => 52 | 5 => 5 | 9 => 9 | 66 => 235 | 70 => 239 | 76 => 248 | 77 => 49 | n => n, fun | n => n⟩
theorem Tryd.laysSort167 : Go.Proofs.SlLaysF0.n6 Tryd.prog Tryd.laysSort167_ren := {
  mixed := by kernel_rfl
  f6 := ⟨Tryd.f167.name, by decide, Tryd.func167.trans (congrArg some (by kernel_rfl))⟩
  f14 := ⟨Tryd.f185.name, by decide, Tryd.func185.trans (congrArg some (by kernel_rfl))⟩
  f15 := Tryd.func149.trans (congrArg some (by kernel_rfl))
  f20 := ⟨Tryd.f192.name, by decide, Tryd.func192.trans (congrArg some (by kernel_rfl))⟩
  f21 := ⟨Tryd.f193.name, by decide, Tryd.func193.trans (congrArg some (by kernel_rfl))⟩
  f22 := ⟨Tryd.f194.name, by decide, Tryd.func194.trans (congrArg some (by kernel_rfl))⟩
  f23 := ⟨Tryd.f195.name, by decide, Tryd.func195.trans (congrArg some (by kernel_rfl))⟩
  f24 := ⟨Tryd.f196.name, by decide, Tryd.func196.trans (congrArg some (by kernel_rfl))⟩
  f25 := ⟨Tryd.f197.name, by decide, Tryd.func197.trans (congrArg some (by kernel_rfl))⟩
  f26 := ⟨Tryd.f198.name, by decide, Tryd.func198.trans (congrArg some (by kernel_rfl))⟩
  f27 := ⟨Tryd.f199.name, by decide, Tryd.func199.trans (congrArg some (by kernel_rfl))⟩
  f28 := Tryd.func180.trans (congrArg some (by kernel_rfl))
  f29 := Tryd.func181.trans (congrArg some (by kernel_rfl))
  f46 := ⟨Tryd.f203.name, by decide, Tryd.func203.trans (congrArg some (by kernel_rfl))⟩
  f47 := Tryd.func187.trans (congrArg some (by kernel_rfl))
  f48 := Tryd.func188.trans (congrArg some (by kernel_rfl))
  f49 := ⟨Tryd.f204.name, by decide, Tryd.func204.trans (congrArg some (by kernel_rfl))⟩
  f50 := ⟨Tryd.f205.name, by decide, Tryd.func205.trans (congrArg some (by kernel_rfl))⟩
  f57 := ⟨Tryd.f206.name, by decide, Tryd.func206.trans (congrArg some (by kernel_rfl))⟩
  t0 := Tryd.underlying0
  a0 := Tryd.isAgg0
  z0 := Tryd.sizeOf0
  v0 := Tryd.zeroValue0
  t3 := Tryd.underlying3
  a3 := Tryd.isAgg3
  z3 := Tryd.sizeOf3
  v3 := Tryd.zeroValue3
  t4 := Tryd.underlying4
  a4 := Tryd.isAgg4
  z4 := Tryd.sizeOf4
  v4 := Tryd.zeroValue4
  t5 := Tryd.underlying5
  a5 := Tryd.isAgg5
  z5 := Tryd.sizeOf5
  v5 := Tryd.zeroValue5
  t9 := Tryd.underlying9
  a9 := Tryd.isAgg9
  z9 := Tryd.sizeOf9
  v9 := Tryd.zeroValue9
  t22 := Tryd.underlying94
  a22 := Tryd.isAgg94
  z22 := Tryd.sizeOf94
  v22 := Tryd.zeroValue94
  t25 := Tryd.underlying213
  a25 := Tryd.isAgg213
  z25 := Tryd.sizeOf213
  v25 := Tryd.zeroValue213
  t39 := Tryd.underlying204
  a39 := Tryd.isAgg204
  z39 := Tryd.sizeOf204
  v39 := Tryd.zeroValue204
  t45 := Tryd.underlying220
  a45 := Tryd.isAgg220
  z45 := Tryd.sizeOf220
  v45 := Tryd.zeroValue220
  t46 := Tryd.underlying221
  a46 := Tryd.isAgg221
  z46 := Tryd.sizeOf221
  v46 := Tryd.zeroValue221
  t50 := Tryd.underlying52
  a50 := Tryd.isAgg52
  z50 := Tryd.sizeOf52
  v50 := Tryd.zeroValue52
  t53 := Tryd.underlying228
  a53 := Tryd.isAgg228
  z53 := Tryd.sizeOf228
  v53 := Tryd.zeroValue228
  t55 := Tryd.underlying230
  a55 := Tryd.isAgg230
  z55 := Tryd.sizeOf230
  v55 := Tryd.zeroValue230
  t66 := Tryd.underlying235
  a66 := Tryd.isAgg235
  z66 := Tryd.sizeOf235
  v66 := Tryd.zeroValue235
  t70 := Tryd.underlying239
  a70 := Tryd.isAgg239
  z70 := Tryd.sizeOf239
  v70 := Tryd.zeroValue239
  t76 := Tryd.underlying248
  a76 := Tryd.isAgg248
  z76 := Tryd.sizeOf248
  v76 := Tryd.zeroValue248
  t77 := Tryd.underlying49
  a77 := Tryd.isAgg49
  z77 := Tryd.sizeOf49
  v77 := Tryd.zeroValue49 }
end Go.Proofs

namespace Go.Proofs.YtmcjnfghlpnghaaDoor
open Go.RowKit Go.Shelf Go.Sort

theorem byEnd_any (x y : Rg) (W : World) : Calls Tryd.prog 168 #[.agg #[.int .i64 x.1, .int .i64 x.2.1, .bool x.2.2], .agg #[.int .i64 y.1, .int .i64 y.2.1, .bool y.2.2]] W fun e w' => e = .returned (.int .i64 (cmpI x.2.1 y.2.1)) ∧ ∃ q os', w' = grow (W.drewN q) os' := by
  have hcon := fun W' => Compare_any x.2.1 y.2.1 W'
  generalize cmpI x.2.1 y.2.1 = r at hcon ⊢
  go_enter Tryd.func168, Tryd.ntmps168
  go_wp2_with (go_at_call 128; refine (hcon _).mono ?_; rintro e w' ⟨rfl, rfl⟩)
  go_ret
  exact ⟨rfl, 0, _, by rw [alloc_eq_grow, alloc_eq_grow, grow_grow]; rfl⟩
theorem byEnd_lays (blk off size : Nat) (w : World) : CmpLays Tryd.prog 168 #[] rgVals 3 (fun x y => cmpI x.2.1 y.2.1) blk off size w :=
  fun _ _ _ _ x y => byEnd_any x y _
theorem bits_small (n : Nat) (W : World) (h : n ≤ 12) : Calls Tryd.prog 149 #[.int .u64 n] W fun e w' => (∃ l : Int, e = .returned (.int .i64 l)) ∧ w' = W :=
  (Tryd.bits_Len n W (by omega) (by omega)).mono fun _ _ ⟨he, hw⟩ => ⟨⟨_, he⟩, hw⟩
theorem SortRg_small (blk off cap : Nat) (d : Array Rg) (w : World) (hH : HoldsK rgVals 3 w blk off d) (hblk : blk < w.heap.size) (h12 : d.size ≤ 12) :
    Calls Tryd.prog 167 #[.slice (some ⟨blk, off, none⟩) d.size cap, .func (.func 168) #[] #[]] w fun e w' => e = .returned (.tuple #[]) ∧ ∃ n os, w' = sortWorldK rgVals 3 w blk off n (Sort.insertionSort (ltOf fun x y => cmpI x.2.1 y.2.1) d 0 d.size) os := by
  have eg : ∀ args w, (callFunc 168 args).run Tryd.prog w = .ok (.enter 168 args) w := enters_of Tryd.func168 (by kernel_rfl) rfl
  exact AnyQ.slices_SortFunc_small Tryd.laysSort167 3 Tryd.isAgg175 Tryd.sizeOf175 rgVals (fun _ => rfl) (fun x v hv => by simp [rgVals] at hv; rcases hv with rfl | rfl | rfl <;> rfl) (fun x y => cmpI x.2.1 y.2.1) 168 #[] blk off cap d w eg (byEnd_lays blk off d.size w) hH hblk h12 bits_small
end Go.Proofs.YtmcjnfghlpnghaaDoor

namespace Go.Proofs.YtmcjnfghlpnghaaDoor
open Go.RowKit

def SortedPost (w : World) (blk : Nat) (l : List Rg) (e : Ending) (w' : World) : Prop :=
  e = .returned (.tuple #[]) ∧ ∃ m : List Rg, (∀ r, r ∈ m ↔ r ∈ l) ∧ m.length = l.length ∧ m.Pairwise (fun a b => a.2.1 ≤ b.2.1) ∧ (∀ k u, (rgCells m)[k]? = some u → w'.cell? ⟨blk, k, none⟩ = some u) ∧ Below blk w w'

open Go.Shelf Go.Sort

theorem flat_eq (l : List Rg) (j : Nat) (hj : j < l.length * 3) : (rgCells l)[j]? = some ((flatK rgVals 3 l.toArray)[j]!) := by
  rw [get_flatK _ _ _ _ (by simpa using hj)]
  have h3 : j / 3 < l.length := by omega
  have he : l.toArray[j / 3]! = l[j / 3] := by simp [h3]
  rw [he]
  obtain ⟨c0, c1, c2⟩ := rgCells_at l (j / 3) l[j / 3] (List.getElem?_eq_getElem h3)
  have hm : j % 3 = 0 ∨ j % 3 = 1 ∨ j % 3 = 2 := by omega
  rcases hm with hm | hm | hm
  · rw [show j / 3 * 3 = j by omega] at c0
    rw [c0, hm]
    rfl
  · rw [show j / 3 * 3 + 1 = j by omega] at c1
    rw [c1, hm]
    rfl
  · rw [show j / 3 * 3 + 2 = j by omega] at c2
    rw [c2, hm]
    rfl

theorem lt_end (x y : Rg) : ltOf (fun x y : Rg => cmpI x.2.1 y.2.1) x y = decide (x.2.1 < y.2.1) := by
  show decide (cmpI x.2.1 y.2.1 < 0) = _
  rcases Int.lt_trichotomy x.2.1 y.2.1 with h | h | h
  · rw [cmpI_lt h]
    simp [h]
  · rw [cmpI_eq h]
    simp [h]
  · rw [cmpI_gt h]
    have : ¬ x.2.1 < y.2.1 := by omega
    simp [this]
theorem swo_end : SWO (ltOf fun x y : Rg => cmpI x.2.1 y.2.1) where
  irrefl x := by
    rw [lt_end]
    simp
  trans x y z h1 h2 := by
    rw [lt_end, decide_eq_true_eq] at *
    omega
  ntrans x y z h1 h2 := by
    rw [lt_end, decide_eq_false_iff_not] at *
    omega

theorem SortRg_own (w : World) (B blk cap : Nat) (l : List Rg) (h : w.ownsRow B 175 3 (.slice (some ⟨blk, 0, none⟩) l.length cap) l.length (rgCells l)) (hlen : l.length ≤ 12) :
    Calls Tryd.prog 167 #[.slice (some ⟨blk, 0, none⟩) l.length cap, .func (.func 168) #[] #[]] w (SortedPost w blk l) := by
  have hblk : blk < w.heap.size := (ownBlk h rfl).2.1
  have hH : HoldsK rgVals 3 w blk 0 l.toArray := by
    intro j hj
    have hj' : j < l.length * 3 := by simpa using hj
    refine ⟨?_, by simpa using h.frozenAt (0 + j)⟩
    rw [Nat.zero_add, h.cellAt j hj', flat_eq l j hj']
    rfl
  have hS := SortRg_small blk 0 cap l.toArray w hH hblk (by simpa using hlen)
  rw [List.size_toArray] at hS
  refine hS.mono ?_
  rintro e w' ⟨rfl, n, os, rfl⟩
  obtain ⟨hp, hs⟩ := insertionSort_holds (lt := ltOf fun x y : Rg => cmpI x.2.1 y.2.1) swo_end l.toArray 0 l.toArray.size (Nat.zero_le _) (Nat.le_refl _)
  rw [List.size_toArray] at hp hs
  obtain ⟨p1, _, p3⟩ := hp
  generalize Sort.insertionSort (ltOf fun x y : Rg => cmpI x.2.1 y.2.1) l.toArray 0 l.length = d at *
  have hd : d.size = l.length := by simpa using p1
  have hperm : d.toList.Perm l := by
    rw [show d.extract 0 l.length = d by rw [← hd]; simp, show l.toArray.extract 0 l.length = l.toArray by rw [← List.size_toArray]; simp] at p3
    simpa using p3
  have hda : d.toList.toArray = d := by simp
  have hsz : (putRowK rgVals 3 (Sort.ahead w n) blk 0 d).heap.size = w.heap.size := by simp [putRowK, putRow, mapBlock, Sort.ahead]
  refine ⟨rfl, d.toList, fun r => hperm.mem_iff, hperm.length_eq, ?_, ?_, ⟨rfl, rfl, rfl, ?_, ?_⟩⟩
  · rw [List.pairwise_iff_getElem]
    intro i j hi hj hij
    have hi' : i < d.size := by simpa using hi
    have hj' : j < d.size := by simpa using hj
    have := hs i j (Nat.zero_le _) hij (by omega)
    rw [getElem!_pos d j hj', getElem!_pos d i hi'] at this
    rw [lt_end, decide_eq_false_iff_not] at this
    simp only [Array.getElem_toList]
    omega
  · intro k u hu
    have hk : k < d.toList.length * 3 := by
      have := (List.getElem?_eq_some_iff.1 hu).1
      rwa [rgCells_len] at this
    have hk' : k < d.size * 3 := by simpa using hk
    show World.cell? (grow (putRowK rgVals 3 (Sort.ahead w n) blk 0 d) os) _ = _
    rw [cell?_grow _ _ _ (by rw [hsz]; exact hblk)]
    have h1 := cell?_putRow id (Sort.ahead w n) blk 0 (flatK rgVals 3 l.toArray) (flatK rgVals 3 d) hH (by simp [hd]) k (by simp; omega)
    rw [Nat.zero_add] at h1
    show (putRow id (Sort.ahead w n) blk 0 (flatK rgVals 3 d)).cell? _ = _
    rw [h1, ← hu, flat_eq d.toList k hk, hda]
    rfl
  · show w.heap.size ≤ (grow (putRowK rgVals 3 (Sort.ahead w n) blk 0 d) os).heap.size
    rw [size_grow, hsz]
    omega
  · intro k hk
    show (grow (putRowK rgVals 3 (Sort.ahead w n) blk 0 d) os).heap[k]? = _
    rw [heap_grow_old _ _ (by rw [hsz]; omega)]
    simp only [putRowK, putRow, mapBlock, Sort.ahead, Array.getElem?_modify]
    rw [if_neg (by omega)]
end Go.Proofs.YtmcjnfghlpnghaaDoor

namespace Go.Proofs.YtmcjnfghlpnghaaDoor
open Go.RowKit

theorem run_eql94_nil (n c : Nat) (W : World) : Sem.run Tryd.prog (binOp BinOp.eql 94 (.slice none n c) (.slice none 0 0)) W = .ok (.bool true) W := by kernel_rfl
theorem run_eql94_row (a : Addr) (n c : Nat) (W : World) : Sem.run Tryd.prog (binOp BinOp.eql 94 (.slice (some a) n c) (.slice none 0 0)) W = .ok (.bool false) W := by kernel_rfl

def RgsPost (w : World) (l : List Rg) (n : Nat) (e : Ending) (w' : World) : Prop :=
  ∃ A c, e = .returned (.slice A n c) ∧ w'.ownsRow w.heap.size 175 3 (.slice A n c) n (rgCells l) ∧ Below w.heap.size w w'

set_option maxHeartbeats 2000000 in
theorem CloneRg_any (w : World) (B : Nat) (A : Option Addr) (n c : Nat) (l : List Rg) (hl : l.length = n) (hn : n ≤ 1000) (h : Rd w B A (rgCells l)) (hB : B ≤ w.heap.size) : Calls Tryd.prog 166 #[.slice A n c] w (RgsPost w l n) := by
  cases A with
  | none =>
    have hl0 : l = [] := by
      cases l with
      | nil => rfl
      | cons x l =>
        obtain ⟨b, off, he, _⟩ := h 0 _ (rgCells_at (x :: l) 0 x rfl).1
        cases he
    subst hl0
    obtain rfl : 0 = n := hl
    have q := fun W => run_eql94_nil 0 c W
    clear h
    go_enter Tryd.func166, Tryd.ntmps166
    go_wp2
    go_ret
    exact ⟨none, 0, rfl, ⟨rfl, .inl ⟨rfl, rfl⟩⟩, Below.refl _ _⟩
  | some a =>
    obtain ⟨i1, hi1, hy0, hy1, hy2⟩ := info_parts info175
    have q := fun W => run_eql94_row a n c W
    have HL := Lib.hid hl
    have h' := h.below (((Below.refl _ _).alloc (Nat.le_refl _) (.cells #[] 175) : Below w.heap.size w (w.alloc (.cells #[] 175))).mono hB)
    have hb0 : Below w.heap.size w (w.alloc (.cells #[] 175)) := (Below.refl _ _).alloc (Nat.le_refl _) _
    clear hl
    go_enter Tryd.func166, Tryd.ntmps166
    go_wp2_with (at_builtin; refine stp ?_)
    unfold Stp
    refine wpList_append_copy _ rfl _ _ 94 rfl w.heap.size 175 i1 _ 3 24 Tryd.underlying94 hi1 hy0 hy1 hy2 rfl (by omega) w.heap.size rfl (by rw [heapq_alloc, if_pos rfl]) (Nat.le_refl _) B (some a) n c (rgCells l) rfl (by rw [rgCells_len, HL.out]) h' (rgCells_one l) (by simp only [maxLen]; omega) (by omega) (by simp) ?_
    intro g cap w1 hown hgrow _
    have hb1 : Below w.heap.size w w1 := hb0.grown hgrow (by simp) (fun k hk => by rw [← Option.some.inj hk]; exact Nat.le_refl _)
    have HR := Lib.hid hown
    have HB := Lib.hid hb1
    clear hown hgrow hb0 hb1 h h'
    go_wp2
    go_ret
    exact ⟨_, _, rfl, HR.out, HB.out⟩

theorem insRg_none (w : World) : Calls Tryd.prog 192 #[.slice none 0 0, .int .i64 0, .int .i64 0, .func (.func 168) #[] #[]] w fun e w' => e = .returned (.tuple #[]) ∧ w' = w := by
  go_enter Tryd.func192, Tryd.ntmps192
  go_wp2
  refine wp_loop_rounds 1 ?_
  rw [rounds_succ]
  go_wp2
  go_end0
  exact ⟨rfl, rfl⟩
theorem pdqRg_none (lim : Int) (w : World) : Calls Tryd.prog 185 #[.slice none 0 0, .int .i64 0, .int .i64 0, .int .i64 lim, .func (.func 168) #[] #[]] w fun e w' => e = .returned (.tuple #[]) ∧ w' = w := by
  have hi := fun W => insRg_none W
  go_enter Tryd.func185, Tryd.ntmps185
  go_wp2
  refine wp_loop_rounds 1 ?_
  rw [rounds_succ]
  go_wp2_with (go_at_call 192; refine (hi _).mono ?_; rintro e w' ⟨rfl, rfl⟩)
  (try simp only [Exit.inBlock, Exit.then]); refine bodyPost_ret (results_none rfl _ _ _) rfl ?_
  exact ⟨rfl, rfl⟩
theorem SortRg_none (w : World) : Calls Tryd.prog 167 #[.slice none 0 0, .func (.func 168) #[] #[]] w fun e w' => e = .returned (.tuple #[]) ∧ w' = w := by
  have hp := fun lim W => pdqRg_none lim W
  have hl := fun W => bits_small 0 W (by omega)
  go_enter Tryd.func167, Tryd.ntmps167
  go_wp2_with (first | (go_at_call 149; refine (hl _).mono ?_; rintro e w' ⟨⟨l, rfl⟩, rfl⟩) | (go_at_call 185; refine (hp _ _).mono ?_; rintro e w' ⟨rfl, rfl⟩))
  go_end0
  exact ⟨rfl, rfl⟩

/-- readings of the call's own sorted, nil or not -/
def SortedRd (w : World) (K : Nat) (A : Option Addr) (l : List Rg) (n : Nat) (e : Ending) (w' : World) : Prop :=
  e = .returned (.tuple #[]) ∧ ∃ m : List Rg, (∀ r, r ∈ m ↔ r ∈ l) ∧ m.length = n ∧ m.Pairwise (fun a b => a.2.1 ≤ b.2.1) ∧ Rd w' w'.heap.size A (rgCells m) ∧ Below K w w'
theorem SortRg_any (w : World) (K : Nat) (A : Option Addr) (n c : Nat) (l : List Rg) (h : w.ownsRow K 175 3 (.slice A n c) n (rgCells l)) (hl : l.length = n) (hn : n ≤ 12) (hK : K ≤ w.heap.size) :
    Calls Tryd.prog 167 #[.slice A n c, .func (.func 168) #[] #[]] w (SortedRd w K A l n) := by
  rcases h.2 with ⟨h1, h2⟩ | ⟨g, cap, cur, h1, h2, h3, _⟩
  · simp only [Value.slice.injEq] at h1
    obtain ⟨rfl, rfl, rfl⟩ := h1
    refine (SortRg_none w).mono ?_
    rintro e w' ⟨rfl, rfl⟩
    have hl0 := List.eq_nil_of_length_eq_zero hl
    subst hl0
    exact ⟨rfl, [], fun r => Iff.rfl, rfl, .nil, fun k u hk => by simp [rgCells] at hk, Below.refl _ _⟩
  · simp only [Value.slice.injEq] at h1
    obtain ⟨rfl, _, rfl⟩ := h1
    subst hl
    refine (SortRg_own w K g c l h hn).mono ?_
    rintro e w' ⟨rfl, m, m1, m2, m3, m4, m5⟩
    have hg := lt_of_block h3
    refine ⟨rfl, m, m1, m2, m3, fun k u hk => ⟨g, 0, rfl, Nat.lt_of_lt_of_le hg m5.size, by rw [Nat.zero_add]; exact m4 k u hk⟩, m5.mono h2⟩
end Go.Proofs.YtmcjnfghlpnghaaDoor

namespace Go.Proofs.YtmcjnfghlpnghaaDoor
open Go.RowKit

def fewV : Option Nat → Int
  | none => 0
  | some k => (k : Int)
def FewOutPost (w : World) (o : Option Nat) (e : Ending) (w' : World) : Prop := e = .returned (.tuple #[.int .i64 (fewV o), .bool o.isSome]) ∧ Below w.heap.size w w'
def FewLoop (w0 : World) (S : List Int) (m : List Rg) (n : Nat) (F : Option Nat) (u6 u7 u22 : Value) (wr : World) : Prop :=
  ∃ (k c : Nat) (last : Int), k ≤ n ∧ c ≤ k ∧ u22 = .int .i64 k ∧ u6 = .int .i64 c ∧ u7 = .int .i64 last ∧ fewGo S c last (m.drop k) = F ∧ Below w0.heap.size w0 wr
def EndLoop (wq : World) (f td : Int) (S : List Int) (E : Int) (u10 u37 : Value) (wr : World) : Prop :=
  ∃ (j : Nat) (e : Int), j ≤ S.length ∧ u37 = .int .i64 j ∧ u10 = .int .i64 e ∧ endGo f td e (S.drop j) = E ∧ Below wq.heap.size wq wr

set_option maxRecDepth 100000 in
set_option maxHeartbeats 8000000 in
theorem fewest_any (w : World) (B bm : Nat) (A : Option Addr) (n c : Nat) (l : List Rg) (hl : l.length = n) (h : Rd w B A (rgCells l)) (hB : B ≤ w.heap.size) (hn : n ≤ 12) (hbm : bm ≤ 40) (ok : ∀ r ∈ l, 0 ≤ r.1 ∧ r.1 ≤ r.2.1) :
    Calls Tryd.prog 138 #[.agg #[.int .i64 bm, .slice A n c]] w (FewOutPost w (fewM (suspK l bm) l)) := by
  have hb0 : Below w.heap.size w (w.alloc (.cells #[.int .i64 (bm : Int), .slice A n c] 96)) := (Below.refl _ _).alloc (Nat.le_refl _) _
  have h0 := h.below (hb0.mono hB)
  have k0 : (w.alloc (.cells #[.int .i64 (bm : Int), .slice A n c] 96)).heap[w.heap.size]? = some (.cells #[.int .i64 (bm : Int), .slice A n c] 96 (0, 0)) := by rw [heapq_alloc, if_pos rfl]
  have c0 : (w.alloc (.cells #[.int .i64 (bm : Int), .slice A n c] 96)).cell? ⟨w.heap.size, 0, none⟩ = some (.int .i64 (bm : Int)) := (cell_of_row _ _ 0 _ _ _ k0).trans rfl
  have c1 : (w.alloc (.cells #[.int .i64 (bm : Int), .slice A n c] 96)).cell? ⟨w.heap.size, 1, none⟩ = some (.slice A n c) := (cell_of_row _ _ 1 _ _ _ k0).trans rfl
  have hs0 : w.heap.size ≤ (w.alloc (.cells #[.int .i64 (bm : Int), .slice A n c] 96)).heap.size := hb0.size
  have hB0 := Nat.le_trans hB hs0
  have HL := Lib.hid hl
  have HB := Lib.hid hb0
  have hS40 : (suspK l bm).length ≤ 40 := Nat.le_trans (suspK_len l bm) hbm
  have hord := fun (m : List Rg) (h1 : ∀ r, r ∈ m ↔ r ∈ l) (h2 : m.Pairwise fun a b => a.2.1 ≤ b.2.1) => few_order (suspK_sorted l bm) (fun s hs => (suspK_in s hs).1) h1 h2 ok
  obtain ⟨F, hF⟩ : ∃ F, fewM (suspK l bm) l = F := ⟨_, rfl⟩
  rw [hF] at hord ⊢
  have HORD := Lib.hid hord
  clear h hl hb0 k0 hord hF
  go_enter Tryd.func138, Tryd.ntmps138
  go_upto_region 1 with (fail)
  generalize w.alloc (.cells #[.int .i64 (bm : Int), .slice A n c] 96) = w0 at *
  have C00 := Lib.hid c0
  have C11 := Lib.hid c1
  have H00 := Lib.hid h0
  have HB0 := Lib.hid HB.out
  have CL := CloneRg_any w0 B A n c l HL.out (by omega) h0 hB0
  go_upto_region 2 with (go_at_call 166; refine CL.mono ?_; rintro e w1 ⟨A1, c1', rfl, hown, hb1⟩)
  have SO := SortRg_any w1 w0.heap.size A1 n c1' l hown HL.out hn hb1.size
  replace c0 := kept hb1 c0
  replace c1 := kept hb1 c1
  have hs1 := hb1.size
  have HB1 := Lib.hid hb1
  clear CL hown hb1
  go_upto_region 3 with (go_at_call 167; refine SO.mono ?_; rintro e w2 ⟨rfl, m, m1, m2, m3, m4, hb2'⟩)
  have hb2 : Below w0.heap.size w0 w2 := HB1.out.trans hb2'
  clear hb2' HB1
  replace c0 := keptB hb2 (p := ⟨w.heap.size, 0, none⟩) (show w.heap.size < w0.heap.size from by have := lt_of_cell C00.out; exact this) C00.out
  replace c1 := keptB hb2 (p := ⟨w.heap.size, 1, none⟩) (show w.heap.size < w0.heap.size from by have := lt_of_cell C00.out; exact this) C11.out
  replace h0 := H00.out.below (hb2.mono hB0)
  replace HB := Lib.hid (HB0.out.trans (hb2.mono hs0))
  have hs2 : w.heap.size ≤ w2.heap.size := Nat.le_trans hs0 hb2.size
  have hB2 : B ≤ w2.heap.size := Nat.le_trans hB0 hb2.size
  have HORD2 := Lib.hid (HORD.out m m1 m3)
  have HM := Lib.hid m2
  clear SO m1 m2 m3 hb2 HORD hs1
  have SU := suspects_any w2 B bm A n c l HL.out h0 hB2 (by omega) hbm
  generalize suspK l bm = S at *
  go_upto_region 4 with (go_at_call 120; refine SU.mono ?_; rintro e w3 ⟨A3, c3, rfl, hS, hb3⟩)
  have hm0 := (m4.below hb3).mono hb3.size
  replace HB := Lib.hid (HB.out.trans (hb3.mono hs2))
  have hs3 := Nat.le_trans hs2 hb3.size
  clear SU c0 c1 h0 m4 hb3 hB2
  go_wp2
  go_loopw [6, 7, 22] (fun u6 u7 u22 wr => FewLoop w3 S m n F u6 u7 u22 wr) (fun _ _ u22 _ => n - (intOf u22).toNat)
  case atStart => exact ⟨0, 0, -1, Nat.zero_le _, Nat.zero_le _, rfl, rfl, rfl, by rw [List.drop_zero]; exact HORD2.out, Below.refl _ _⟩
  case round =>
    obtain ⟨k, cn, last, hk, hck, rfl, rfl, rfl, he, hb⟩ := hrel
    have HE := Lib.hid he
    have HBK := Lib.hid hb
    have hsk := hb.size
    have hmr := (hm0.below hb).mono hb.size
    have hSr := (hS.below hb).mono hb.size
    clear he hb
    by_cases hlt : k < n
    · have hkl : k < m.length := by rw [HM.out]; exact hlt
      obtain ⟨ev, hev⟩ : ∃ ev, m[k]? = some ev := ⟨_, List.getElem?_eq_getElem hkl⟩
      obtain ⟨z0, z1, z2⟩ := rgCells_at m k ev hev
      obtain ⟨bb, off, rfl, hbB, e0, e1, e2⟩ := hmr.at3 z0 z1 z2
      have HS := Lib.hid (drop_cons' hev)
      obtain ⟨f, td, wg⟩ := ev
      simp only at e0 e1 e2
      have hba : Below wr.heap.size wr (wr.alloc (.cells #[.int .i64 f, .int .i64 td, .bool wg] 175)) := (Below.refl _ _).alloc (Nat.le_refl _) _
      have kb : (wr.alloc (.cells #[.int .i64 f, .int .i64 td, .bool wg] 175)).heap[wr.heap.size]? = some (.cells #[.int .i64 f, .int .i64 td, .bool wg] 175 (0, 0)) := by rw [heapq_alloc, if_pos rfl]
      have t0 := (cell_of_row _ _ 0 _ _ _ kb).trans (by rfl : _ = some (.int .i64 f))
      have t1 := (cell_of_row _ _ 1 _ _ _ kb).trans (by rfl : _ = some (.int .i64 td))
      have t2 := (cell_of_row _ _ 2 _ _ _ kb).trans (by rfl : _ = some (.bool wg))
      have hSa := (hSr.below hba).mono hba.size
      have HBA := Lib.hid (HBK.out.trans (hba.mono hsk))
      have hsa := Nat.le_trans hsk hba.size
      clear kb z0 z1 z2 hev hkl hmr hSr
      go_upto_region 8 with (fail)
      clear hba e0 e1 e2
      generalize wr.alloc (.cells #[.int .i64 f, .int .i64 td, .bool wg] 175) = wa at *
      generalize wr.heap.size = ga at *
      cases wg with
      | false =>
        have HN : Hid (fewGo S cn last (m.drop (k + 1)) = F) := by
          have := HE.out
          rw [HS.out, fewGo, if_pos (.inl rfl)] at this
          exact this
        go_wp2
        go_roundw
        case rel => exact ⟨k + 1, cn, last, by omega, by omega, by go_num, rfl, rfl, HN.out, HBA.out⟩
        case measure => simp [intOf]; omega
      | true =>
        by_cases hfl : f ≤ last
        · have HN : Hid (fewGo S cn last (m.drop (k + 1)) = F) := by
            have := HE.out
            rw [HS.out, fewGo, if_pos (.inr hfl)] at this
            exact this
          go_wp2
          go_roundw
          case rel => exact ⟨k + 1, cn, last, by omega, by omega, by go_num, rfl, rfl, HN.out, HBA.out⟩
          case measure => simp [intOf]; omega
        · obtain ⟨E, hE⟩ : ∃ E, endGo f td (-1) S = E := ⟨_, rfl⟩
          have HN : Hid ((if E < 0 then none else fewGo S (cn + 1) E (m.drop (k + 1))) = F) := by
            have := HE.out
            rw [HS.out, fewGo, if_neg (by simp; omega), hE] at this
            exact this
          have HEE := Lib.hid hE
          clear hE HE
          obtain ⟨wo, hwo⟩ : ∃ wo, wo = wa := ⟨_, rfl⟩
          subst hwo
          have T0 := Lib.hid t0
          have T1 := Lib.hid t1
          have hf2 : last < f := by omega
          go_wp2
          go_loopw [10, 37] (fun u10 u37 wr => EndLoop wo f td S E u10 u37 wr) (fun _ u37 _ => S.length - (intOf u37).toNat)
          case atStart => exact ⟨0, -1, Nat.zero_le _, rfl, rfl, by rw [List.drop_zero]; exact HEE.out, Below.refl _ _⟩
          case round =>
            clear t0 t1 t2
            obtain ⟨j, ee, hj, rfl, rfl, hg, hbj⟩ := hrel
            have HG := Lib.hid hg
            have HBJ := Lib.hid hbj
            have t0 := kept hbj T0.out
            have t1 := kept hbj T1.out
            have hSj := hSa.below hbj
            have hsj := hbj.size
            clear hg hbj
            by_cases hlj : j < S.length
            · obtain ⟨b3, o3, rfl, _, d0⟩ := hSj.at_ (intCells_at S j hlj)
              have HSJ := Lib.hid (drop_at S 0 j hlj)
              generalize S[j]?.getD 0 = x at *
              cases hw : withinB x f td with
              | false =>
                have HG2 : Hid (endGo f td ee (S.drop (j + 1)) = E) := by
                  have := HG.out
                  rw [HSJ.out, endGo, hw, if_neg (by decide)] at this
                  exact this
                have WV := fun W => within_val x f td false hw W
                clear hw
                go_wp2_with (go_at_call 99; refine (WV _).mono ?_; rintro e w' ⟨rfl, rfl⟩)
                go_roundw
                case rel => exact ⟨j + 1, ee, by omega, by go_num, rfl, HG2.out, HBJ.out⟩
                case measure => simp [intOf]; omega
              | true =>
                have HG2 : Hid (endGo f td x (S.drop (j + 1)) = E) := by
                  have := HG.out
                  rw [HSJ.out, endGo, hw, if_pos rfl] at this
                  exact this
                have WV := fun W => within_val x f td true hw W
                clear hw
                go_wp2_with (go_at_call 99; refine (WV _).mono ?_; rintro e w' ⟨rfl, rfl⟩)
                go_roundw
                case rel => exact ⟨j + 1, x, by omega, by go_num, rfl, HG2.out, HBJ.out⟩
                case measure => simp [intOf]; omega
            · have HEQ : Hid (ee = E) := by
                have := HG.out
                rw [List.drop_eq_nil_iff.2 (by omega)] at this
                exact this
              by_cases he0 : ee < 0
              · have HF : Hid (F = none) := by
                  have := HN.out
                  rw [← HEQ.out, if_pos he0] at this
                  exact this.symm
                have HFIN := Lib.hid (HB.out.trans ((HBA.out.trans (HBJ.out.mono hsa)).mono hs3))
                go_wp2
                go_ret2
                exact ⟨by rw [HF.out]; rfl, HFIN.out⟩
              · have HF : Hid (fewGo S (cn + 1) ee (m.drop (k + 1)) = F) := by
                  have := HN.out
                  rw [← HEQ.out, if_neg he0] at this
                  exact this
                have HBN := Lib.hid (HBA.out.trans (HBJ.out.mono hsa))
                clear hSj
                go_wp2
                go_roundw
                case rel => exact ⟨k + 1, cn + 1, ee, by omega, by omega, by go_num, by go_num, rfl, HF.out, HBN.out⟩
                case measure => simp [intOf]; omega
    · have HF : Hid (F = some cn) := by
        have := HE.out
        rw [List.drop_eq_nil_iff.2 (by rw [HM.out]; omega), fewGo] at this
        exact this.symm
      go_wp2
      go_ret2
      exact ⟨by rw [HF.out]; rfl, HB.out.trans (HBK.out.mono hs3)⟩
end Go.Proofs.YtmcjnfghlpnghaaDoor

namespace Go.Proofs.YtmcjnfghlpnghaaDoor
open Go.RowKit

set_option maxRecDepth 100000 in
set_option maxHeartbeats 8000000 in
theorem refSuspectsC_any (w : World) (B : Nat) (bm : Nat) (A : Option Addr) (n c : Nat) (l : List Rg) (hl : l.length = n) (h : Rd w B A (rgCells l)) (hB : B ≤ w.heap.size) (hn : n ≤ 40) (hbm : bm ≤ 40) :
    Calls Tryd.prog 66 #[.agg #[.int .i64 bm, .slice A n c]] w (IntsPostC w (suspK l bm) (suspK l bm).length) := by
  obtain ⟨i1, hi1, hy0, hy1, hy2⟩ := info_parts info3
  have hb0 : Below w.heap.size w (w.alloc (.cells #[.int .i64 (bm : Int), .slice A n c] 96)) := (Below.refl _ _).alloc (Nat.le_refl _) _
  have h0 := h.below (hb0.mono hB)
  have k0 : (w.alloc (.cells #[.int .i64 (bm : Int), .slice A n c] 96)).heap[w.heap.size]? = some (.cells #[.int .i64 (bm : Int), .slice A n c] 96 (0, 0)) := by rw [heapq_alloc, if_pos rfl]
  have c0 : (w.alloc (.cells #[.int .i64 (bm : Int), .slice A n c] 96)).cell? ⟨w.heap.size, 0, none⟩ = some (.int .i64 (bm : Int)) := (cell_of_row _ _ 0 _ _ _ k0).trans rfl
  have c1 : (w.alloc (.cells #[.int .i64 (bm : Int), .slice A n c] 96)).cell? ⟨w.heap.size, 1, none⟩ = some (.slice A n c) := (cell_of_row _ _ 1 _ _ _ k0).trans rfl
  have hs0 : w.heap.size ≤ (w.alloc (.cells #[.int .i64 (bm : Int), .slice A n c] 96)).heap.size := hb0.size
  have hB0 := Nat.le_trans hB hs0
  have HL := Lib.hid hl
  have HB := Lib.hid hb0
  clear h hl hb0 k0
  go_enter Tryd.func66, Tryd.ntmps66
  go_upto_region 1 with (fail)
  generalize w.alloc (.cells #[.int .i64 (bm : Int), .slice A n c] 96) = w0 at *
  have c0_ := c0
  have c1_ := c1
  have h0_ := h0
  have C0 := Lib.hid c0
  have C1 := Lib.hid c1
  clear c0_ c1_ h0_
  go_wp2
  go_loopw [3, 4] (fun u3 u4 wr => SuspRel w0 l bm u3 u4 wr) (fun _ u4 _ => bm - (intOf u4).toNat)
  case atStart => exact ⟨0, Nat.zero_le _, rfl, ⟨rfl, .inl ⟨rfl, rfl⟩⟩, Below.refl _ _⟩
  case round =>
    obtain ⟨k, hk, rfl, hown, hb⟩ := hrel
    have HOWN := Lib.hid hown
    obtain ⟨Au, cu, rfl⟩ := rowForm hown
    have HBW := Lib.hid hb
    have hsz := hb.size
    replace c0 := kept hb c0
    replace c1 := kept hb c1
    have hr := h0.below (hb.mono hB0)
    have hB1 := Nat.le_trans hB0 hsz
    have hl41 := suspK_len l k
    clear hb hown
    by_cases hlt : k < bm
    · obtain ⟨tot, htot⟩ : ∃ b, l.any (goodB (k : Int)) = b := ⟨_, rfl⟩
      have HTOT := Lib.hid htot
      clear htot
      go_wp2
      go_loopw [5, 6] (fun u5 u6 wr => GoodRel w0 l (k : Int) n tot (.slice Au (suspK l k).length cu) (suspK l k) u5 u6 wr) (fun _ u6 _ => n - (intOf u6).toNat)
      case atStart => exact ⟨0, false, Nat.zero_le _, rfl, rfl, by rw [Bool.false_or, List.drop_zero]; exact HTOT.out, HOWN.out, HBW.out⟩
      case round =>
        clear HOWN HBW hsz c0 hr hB1
        obtain ⟨j, g, hj, rfl, rfl, hg, hown, hb⟩ := hrel
        have HOWN := Lib.hid hown
        have HBJ := Lib.hid hb
        have c0' := kept hb C0.out
        have c1' := kept hb C1.out
        have hsj := hb.size
        have hrj := h0.below (hb.mono hB0)
        have HG := Lib.hid hg
        clear hb hg hown c1
        by_cases hjn : j < n
        · have hjl : j < l.length := by rw [HL.out]; exact hjn
          obtain ⟨ev, hev⟩ : ∃ ev, l[j]? = some ev := ⟨_, List.getElem?_eq_getElem hjl⟩
          obtain ⟨z0, z1, z2⟩ := rgCells_at l j ev hev
          obtain ⟨bb, off, rfl, hbB, e0, e1, e2⟩ := hrj.at3 z0 z1 z2
          have HD := Lib.hid (drop_cons' hev)
          obtain ⟨f, td, wr_⟩ := ev
          simp only at e0 e1 e2
          have hba : Below wr.heap.size wr (wr.alloc (.cells #[.int .i64 f, .int .i64 td, .bool wr_] 175)) := (Below.refl _ _).alloc (Nat.le_refl _) _
          have HBK := Lib.hid (HBJ.out.trans (hba.mono hsj))
          have HOWK := Lib.hid (ownsRow_below HOWN.out hba)
          have kb : (wr.alloc (.cells #[.int .i64 f, .int .i64 td, .bool wr_] 175)).heap[wr.heap.size]? = some (.cells #[.int .i64 f, .int .i64 td, .bool wr_] 175 (0, 0)) := by rw [heapq_alloc, if_pos rfl]
          have m0 := (cell_of_row _ _ 0 _ _ _ kb).trans (by rfl : _ = some (.int .i64 f))
          have m1 := (cell_of_row _ _ 1 _ _ _ kb).trans (by rfl : _ = some (.int .i64 td))
          have m2 := (cell_of_row _ _ 2 _ _ _ kb).trans (by rfl : _ = some (.bool wr_))
          clear hba kb z0 z1 z2 hev hjl hrj HBJ HOWN
          go_upto_region 10 with (fail)
          generalize wr.alloc (.cells #[.int .i64 f, .int .i64 td, .bool wr_] 175) = wa at *
          generalize wr.heap.size = zb at *
          cases g with
          | true =>
            have HT : Hid ((true || (l.drop (j + 1)).any (goodB (k : Int))) = tot) := HG.out
            clear HG HD
            go_wp2
            go_roundw
            case rel => exact ⟨j + 1, true, by omega, by go_num, rfl, HT.out, HOWK.out, HBK.out⟩
            case measure => simp [intOf]; omega
          | false =>
            cases wr_ with
            | true =>
              have HT : Hid ((false || (l.drop (j + 1)).any (goodB (k : Int))) = tot) := by
                have := HG.out
                rw [HD.out, List.any_cons] at this
                exact this
              clear HG HD
              go_wp2
              go_roundw
              case rel => exact ⟨j + 1, false, by omega, by go_num, rfl, HT.out, HOWK.out, HBK.out⟩
              case measure => simp [intOf]; omega
            | false =>
              cases hq : withinB (k : Int) f td
              all_goals
                have HQ := Lib.hid hq
                have HT : Hid ((withinB (k : Int) f td || (l.drop (j + 1)).any (goodB (k : Int))) = tot) := by
                  have := HG.out
                  rw [HD.out, List.any_cons] at this
                  exact this
                rw [hq] at HT
                clear HG HD
                go_wp2_with (go_at_call 49; refine (Within_val _ _ _ _ hq _).mono ?_; rintro e w' ⟨rfl, rfl⟩)
                go_roundw
                case rel => exact ⟨j + 1, _, by omega, by go_num, rfl, HT.out, HOWK.out, HBK.out⟩
                case measure => simp [intOf]; omega
        · obtain rfl : j = n := by omega
          have hd : l.drop j = [] := by rw [List.drop_eq_nil_iff]; rw [HL.out]; exact Nat.le_refl _
          have HT : Hid (g = tot) := by
            have := HG.out
            rw [hd, List.any_nil, Bool.or_false] at this
            exact this
          clear hd HG hrj
          cases g with
          | true =>
            have HK := Lib.hid (suspK_no (HTOT.out.trans HT.out.symm))
            go_wp2
            go_roundw
            case rel => exact ⟨k + 1, by omega, by go_num, by rw [HK.out]; exact HOWN.out, HBJ.out⟩
            case measure => simp [intOf]; omega
          | false =>
            have HK := Lib.hid (suspK_yes (HTOT.out.trans HT.out.symm))
            go_wp2_with (at_builtin; refine stp ?_)
            unfold Stp
            refine wpList_append_lies _ rfl _ _ 39 rfl w0.heap.size 3 i1 _ 1 8 Tryd.underlying39 hi1 hy0 hy1 hy2 rfl (by omega) (.slice Au (suspK l k).length cu) (suspK l k).length (intCells (suspK l k)) rfl (HOWN.out.alloc _) ⟨wr.heap.size, 0, none⟩ 1 1 [.int .i64 (k : Int)] rfl rfl (news1 (by simp)) (by simp [Value.oneCell']) (by omega) (by simp only [maxLen]; omega) (by omega) (by simp; omega) _ rfl ?_
            intro gg cap w3 hown1 hgrow hat hlt9
            have hb9 : Below w0.heap.size w0 w3 := (HBJ.out.alloc hsj _).grown hgrow (by simp; omega) (fun k hk => (ownBlk HOWN.out hk).1)
            have HOWN1 := Lib.hid hown1
            have HB9 := Lib.hid hb9
            clear hown1 hgrow hat hlt9 hb9
            go_wp2
            go_roundw
            case rel => exact ⟨k + 1, by omega, by go_num, (by rw [HK.out]; simpa [intCells] using HOWN1.out), HB9.out⟩
            case measure => simp [intOf]; omega
    · obtain rfl : k = bm := by omega
      go_wp2
      go_ret
      exact ⟨_, _, rfl, own_cap HOWN.out, rd_own HOWN.out, HB.out.trans (HBW.out.mono hs0)⟩

/-- a set of beams as a value -/
def BeamsAt (w : World) : Option (List Int) → Value → Prop
  | none, v => v = .slice none 0 0
  | some T, v => ∃ A cap, v = .slice A T.length cap ∧ Rd w w.heap.size A (intCells T)
def RefLeastPost (w : World) (o : Option (List Int)) (x : Ending) (w' : World) : Prop :=
  ∃ v, x = .returned (.tuple #[v, .bool o.isSome]) ∧ BeamsAt w' o v ∧ Below w.heap.size w w'
/-- the sets from a size on -/
def fromZ (S : List Int) (s : Nat) : List (List Int) := (List.range' s (S.length + 1 - s)).flatMap fun k => setsZ S k
theorem fromZ_cons {S : List Int} {s : Nat} (h : s ≤ S.length) : fromZ S s = setsZ S s ++ fromZ S (s + 1) := by
  unfold fromZ
  rw [show S.length + 1 - s = (S.length + 1 - (s + 1)) + 1 by omega, List.range'_succ, List.flatMap_cons]
theorem fromZ_end (S : List Int) : fromZ S (S.length + 1) = [] := by simp [fromZ]
theorem fromZ_zero (S : List Int) : fromZ S 0 = allSets S := by
  unfold fromZ allSets
  rw [Nat.sub_zero, ← List.range_eq_range']
def SizeRelZ (w0 : World) (l : List Rg) (S : List Int) (R : Option (List Int)) (u5 : Value) (wr : World) : Prop :=
  ∃ s : Nat, s ≤ S.length + 1 ∧ u5 = .int .i64 s ∧ (fromZ S s).find? (exB l) = R ∧ Below w0.heap.size w0 wr
def SetRelZ (wq : World) (l : List Rg) (xss : List (List Int)) (rest R : Option (List Int)) (u7 : Value) (wr : World) : Prop :=
  ∃ j : Nat, j ≤ xss.length ∧ u7 = .int .i64 j ∧ ((xss.drop j).find? (exB l)).or rest = R ∧ Below wq.heap.size wq wr

set_option maxRecDepth 100000 in
set_option maxHeartbeats 16000000 in
theorem refLeast_any (w : World) (B bm : Nat) (A : Option Addr) (n c : Nat) (l : List Rg) (hl : l.length = n) (h : Rd w B A (rgCells l)) (hB : B ≤ w.heap.size) (hn : n ≤ 40) (hbm : bm ≤ 12) (R : Option (List Int)) (hR : refLeast l (suspK l bm) = R) :
    Calls Tryd.prog 87 #[.agg #[.int .i64 bm, .slice A n c]] w (RefLeastPost w R) := by
  have hb0 : Below w.heap.size w (w.alloc (.cells #[.int .i64 (bm : Int), .slice A n c] 96)) := (Below.refl _ _).alloc (Nat.le_refl _) _
  have hr0 := h.below (hb0.mono hB)
  have k0 : (w.alloc (.cells #[.int .i64 (bm : Int), .slice A n c] 96)).heap[w.heap.size]? = some (.cells #[.int .i64 (bm : Int), .slice A n c] 96 (0, 0)) := by rw [heapq_alloc, if_pos rfl]
  have c0 : (w.alloc (.cells #[.int .i64 (bm : Int), .slice A n c] 96)).cell? ⟨w.heap.size, 0, none⟩ = some (.int .i64 (bm : Int)) := (cell_of_row _ _ 0 _ _ _ k0).trans rfl
  have c1 : (w.alloc (.cells #[.int .i64 (bm : Int), .slice A n c] 96)).cell? ⟨w.heap.size, 1, none⟩ = some (.slice A n c) := (cell_of_row _ _ 1 _ _ _ k0).trans rfl
  have hs0 : w.heap.size ≤ (w.alloc (.cells #[.int .i64 (bm : Int), .slice A n c] 96)).heap.size := hb0.size
  have hB0 := Nat.le_trans hB hs0
  have HL := Lib.hid hl
  have HB := Lib.hid hb0
  have hS12 : (suspK l bm).length ≤ 12 := Nat.le_trans (suspK_len l bm) hbm
  have RS := refSuspectsC_any (w.alloc (.cells #[.int .i64 (bm : Int), .slice A n c] 96)) B bm A n c l hl hr0 hB0 hn (by omega)
  have HR := Lib.hid (show (fromZ (suspK l bm) 0).find? (exB l) = R from fromZ_zero (suspK l bm) ▸ hR)
  generalize suspK l bm = S at *
  clear h hl hb0 k0 hR
  go_enter Tryd.func87, Tryd.ntmps87
  go_upto_region 1 with (fail)
  generalize w.alloc (.cells #[.int .i64 (bm : Int), .slice A n c] 96) = w0 at *
  go_upto_region 2 with (go_at_call 66; refine RS.mono ?_; rintro e w1 ⟨As, cs, rfl, hcs, hrs, hb1⟩)
  replace c0 := kept hb1 c0
  replace c1 := kept hb1 c1
  replace hr0 := hr0.below (hb1.mono hB0)
  replace HB := Lib.hid (HB.out.trans (hb1.mono hs0))
  replace hB0 := Nat.le_trans hB0 hb1.size
  replace hs0 := Nat.le_trans hs0 hb1.size
  clear hb1 RS
  have C0 := Lib.hid c0
  have C1 := Lib.hid c1
  go_wp2
  go_loopw [5] (fun u5 wr => SizeRelZ w1 l S R u5 wr) (fun u5 _ => S.length + 1 - (intOf u5).toNat)
  case atStart => exact ⟨0, by omega, rfl, HR.out, Below.refl _ _⟩
  case round =>
    clear c0 c1
    obtain ⟨s, hs1, rfl, he, hb⟩ := hrel
    have HE := Lib.hid he
    have HBK := Lib.hid hb
    have c0 := kept hb C0.out
    have c1 := kept hb C1.out
    have hr := hr0.below (hb.mono hB0)
    have hrsr := (hrs.below hb).mono hb.size
    have hsz := hb.size
    clear hb he
    by_cases hlt : s ≤ S.length
    · obtain ⟨rest, hrest⟩ : ∃ r, (fromZ S (s + 1)).find? (exB l) = r := ⟨_, rfl⟩
      have HE1 : Hid (((setsZ S s).find? (exB l)).or rest = R) := by
        have := HE.out
        rw [fromZ_cons hlt, List.find?_append, hrest] at this
        exact this
      have HREST := Lib.hid hrest
      have hxl : (setsZ S s).length ≤ 4096 := Nat.le_trans (setsZ_len S s) (Nat.le_trans (Nat.pow_le_pow_right (by omega) hS12) (by decide))
      have heach : ∀ T ∈ setsZ S s, T.length ≤ 12 := fun T hT => Nat.le_trans (setsZ_each hT) hS12
      have SC := sets_any s (by omega) wr wr.heap.size As S.length cs S rfl hS12 hcs hrsr (Nat.le_refl _)
      generalize setsZ S s = xss at *
      have HXL := Lib.hid hxl
      have HEACH := Lib.hid heach
      clear hrest hxl heach HE
      go_upto_region 6 with (go_at_call 130; refine SC.mono ?_; rintro e w2 ⟨Ar, cr, hs, rfl, hrd, hset, _, hb2⟩)
      replace c0 := kept hb2 c0
      replace c1 := kept hb2 c1
      have hr2 := hr.below (hb2.mono (Nat.le_trans hB0 hsz))
      have HBK2 := Lib.hid (HBK.out.trans (hb2.mono hsz))
      have hsz2 := Nat.le_trans hsz hb2.size
      have HRD := Lib.hid hrd
      have HSET := Lib.hid hset
      have C02 := Lib.hid c0
      have C12 := Lib.hid c1
      clear hb2 hr hrsr SC hrd hset HBK
      go_wp2
      go_loopw [7] (fun u7 wr => SetRelZ w2 l xss rest R u7 wr) (fun u7 _ => xss.length - (intOf u7).toNat)
      case atStart => exact ⟨0, Nat.zero_le _, rfl, by rw [List.drop_zero]; exact HE1.out, Below.refl _ _⟩
      case round =>
        clear c0 c1 HE1
        obtain ⟨j, hj, rfl, he, hb⟩ := hrel
        have HE := Lib.hid he
        have HBJ := Lib.hid hb
        have c0 := kept hb C02.out
        have c1 := kept hb C12.out
        have hr := hr2.below (hb.mono (Nat.le_trans hB0 hsz2))
        have hszj := hb.size
        have hrdj := (HRD.out.below hb).mono hb.size
        have hsetj := HSET.out.below hb
        have hxl := HXL.out
        clear hb he
        by_cases hltj : j < xss.length
        · obtain ⟨v, hv1, hv2⟩ := hsetj.2 j xss[j] (List.getElem?_eq_getElem hltj)
          obtain ⟨bh, oh, hAr, _, e2⟩ := hrdj.at_ hv1
          have hT12 := HEACH.out xss[j] (List.getElem_mem hltj)
          have HD : Hid (((xss[j] :: xss.drop (j + 1)).find? (exB l)).or rest = R) := by
            rw [Hid, ← List.drop_eq_getElem_cons hltj]
            exact HE.out
          generalize xss[j] = T at *
          obtain ⟨AT, cT, rfl⟩ := rowForm hv2
          have hrT := rd_own hv2
          subst hAr
          have HRT := Lib.hid hrT
          clear hv1 hv2 hrdj hsetj HE hrT
          go_upto_region 9 with (fail)
          have x0 := fun y : Xt wr => y.cell c0
          have x1 := fun y : Xt wr => y.cell c1
          have x2 := fun y : Xt wr => y.cell e2
          refine wp_region_eager [5] (fun w' => ∃ x : Xt wr, w' = x.1) (by kernel_rfl) ⟨⟨wr.drew, (Below.refl _ _).drew⟩, rfl⟩ ?_
          refine wpE_reads [0, 1, 2, 3, 4] 1 rfl (by kernel_rfl) ?_
          simp only [opsAt_nil, opsAt_cons, consOpt_some, List.getElem?_toArray, List.getElem?_cons_zero, List.getElem?_cons_succ]
          repeat (go_big_quiet_step (fail))
          refine wpQuiet_nil ?_
          have hbd : Below wr.heap.size wr wr.drew := (Below.refl _ _).drew
          show wpE _ _ _ _ _ _ _ _ _ wr.drew
          have e2d := kept hbd e2
          have EX := explained_any wr.drew wr.drew.heap.size bm A AT n c T.length cT l T HL.out rfl ((hr.below (hbd.mono (Nat.le_trans (Nat.le_trans hB0 hsz2) hszj))).mono (Nat.le_trans (Nat.le_trans (Nat.le_trans hB0 hsz2) hszj) hbd.size)) ((HRT.out.below hbd).mono hbd.size) (Nat.le_refl _) (by omega) (by omega)
          obtain ⟨ex, hex⟩ : ∃ ex, exB l T = ex := ⟨_, rfl⟩
          rw [show (!l.any (missB T)) = ex from hex] at EX
          have HEX := Lib.hid hex
          clear x0 x1 x2 c0 c1 hex
          generalize wr.drew = wd at *
          refine wpE_tail rfl (by kernel_rfl) ?_
          simp only [opsAt_nil, opsAt_cons, consOpt_some, List.getElem?_toArray, List.getElem?_cons_zero, List.getElem?_cons_succ]
          go_wp2_with (go_at_call 123; refine EX.mono ?_; rintro e w5 ⟨rfl, hb5⟩)
          have hbD : Below wr.heap.size wr w5 := hbd.trans (hb5.mono hbd.size)
          have e2 := kept hb5 e2d
          clear EX e2d hb5 hbd
          refine onlyNormal_mk ?_
          cases ex with
          | true =>
            have HEY : Hid (R = some T) := by
              have := HD.out
              rw [List.find?_cons_of_pos HEX.out] at this
              exact this.symm
            have HFIN := Lib.hid (HB.out.trans ((HBK2.out.trans ((HBJ.out.trans (hbD.mono hszj)).mono hsz2)).mono hs0))
            have HRT5 := Lib.hid ((HRT.out.below hbD).mono hbD.size)
            clear hbD
            go_wp2
            go_ret2
            exact ⟨.slice AT T.length cT, by rw [HEY.out]; rfl, by rw [HEY.out]; exact ⟨AT, cT, rfl, HRT5.out⟩, HFIN.out⟩
          | false =>
            have HEY : Hid (((xss.drop (j + 1)).find? (exB l)).or rest = R) := by
              have := HD.out
              rw [List.find?_cons_of_neg (by rw [HEX.out]; decide)] at this
              exact this
            have HBD := Lib.hid (HBJ.out.trans (hbD.mono hszj))
            clear hbD
            go_wp2
            go_roundw
            case rel => exact ⟨j + 1, by omega, by go_num, HEY.out, HBD.out⟩
            case measure => simp [intOf]; omega
        · have HEY : Hid ((fromZ S (s + 1)).find? (exB l) = R) := by
            have := HE.out
            rw [List.drop_eq_nil_iff.2 (by omega)] at this
            rw [Hid, HREST.out]
            exact this
          clear hrdj hsetj
          go_wp2
          go_roundw
          case rel => exact ⟨s + 1, by omega, by go_num, HEY.out, HBK2.out.trans (HBJ.out.mono hsz2)⟩
          case measure => simp [intOf]; omega
    · have HEY : Hid (R = none) := by
        have := HE.out
        rw [show s = S.length + 1 by omega, fromZ_end] at this
        exact this.symm
      have HFIN := Lib.hid (HB.out.trans (HBK.out.mono hs0))
      go_wp2
      go_ret2
      exact ⟨.slice none 0 0, by rw [HEY.out]; rfl, by rw [HEY.out]; rfl, HFIN.out⟩
end Go.Proofs.YtmcjnfghlpnghaaDoor

namespace Go.Proofs.YtmcjnfghlpnghaaDoor
open Go.RowKit

theorem over169_val (n f t : Int) (x : Nat) (b : Bool) (hb : withinB n f t = b) (w : World) (h0 : w.cell? ⟨x, 0, none⟩ = some (.int .i64 f)) (h1 : w.cell? ⟨x, 1, none⟩ = some (.int .i64 t)) :
    Calls Tryd.prog 169 #[.int .i64 n, .pointer (some ⟨x, 0, none⟩)] w fun e w' => e = .returned (.bool b) ∧ w = w' := by
  go_enter Tryd.func169, Tryd.ntmps169
  go_wp2_with (go_at_call 99; refine (within_val _ _ _ _ hb _).mono ?_; rintro e w' ⟨rfl, rfl⟩)
  go_ret
  exact ⟨rfl, rfl⟩

theorem IndexFunc_169 (A : Option Addr) (n c B : Nat) (l : List Int) (f t : Int) (x : Nat) (w : World) (hn : n ≤ 1000000000) (hl : l.length = n) (h : Rd w B A (intCells l)) (h0 : w.cell? ⟨x, 0, none⟩ = some (.int .i64 f)) (h1 : w.cell? ⟨x, 1, none⟩ = some (.int .i64 t)) :
    Calls Tryd.prog 95 #[.slice A n c, .func (.func 169) #[] #[.pointer (some ⟨x, 0, none⟩)]] w fun e w' => e = .returned (.int .i64 (idxGo (fun n => withinB n f t) l 0)) ∧ w = w' := by
  have HL := Lib.hid hl; clear hl
  have C := fun n b hb => over169_val n f t x b hb w h0 h1
  clear h0 h1
  go_enter Tryd.func95, Tryd.ntmps95
  go_wp2
  go_loop [5, 8] (fun _ i => ∃ k : Nat, k ≤ n ∧ i = .int .i64 k ∧ idxGo (fun n => withinB n f t) (l.drop k) k = idxGo (fun n => withinB n f t) l 0) (fun _ i => n - (intOf i).toNat)
  case atStart => exact ⟨0, Nat.zero_le _, rfl, rfl⟩
  case round =>
    obtain ⟨k, hk, rfl, he⟩ := hrel
    have HE := Lib.hid he; clear he
    by_cases hlt : k < n
    · have hkl : k < l.length := by rw [HL.out]; exact hlt
      obtain ⟨b, off, rfl, _, hc⟩ := h.at_ (intCells_at l k hkl)
      have HS := Lib.hid (drop_at l 0 k hkl)
      clear hkl
      cases hz : withinB (l[k]?.getD 0) f t
      · have C' := C _ _ hz
        have HZ := Lib.hid hz
        clear hz
        go_wp2_with (go_at_call 169; refine C'.mono ?_; rintro e w' ⟨rfl, rfl⟩)
        go_round
        case rel => exact ⟨k + 1, by omega, by go_num, by rw [← HE.out, HS.out, idxGo]; simp [HZ.out]⟩
        case measure => simp [intOf]; omega
      · have C' := C _ _ hz
        have HZ := Lib.hid hz
        clear hz
        go_wp2_with (go_at_call 169; refine C'.mono ?_; rintro e w' ⟨rfl, rfl⟩)
        go_ret
        exact ⟨by rw [← HE.out, HS.out, idxGo]; simp [HZ.out], rfl⟩
    · go_wp2
      go_ret
      have : l.drop k = [] := by rw [List.drop_eq_nil_iff]; rw [HL.out]; omega
      exact ⟨by rw [← HE.out, this]; rfl, rfl⟩

theorem ContainsFunc_169 (A : Option Addr) (n c B : Nat) (l : List Int) (f t : Int) (x : Nat) (w : World) (hn : n ≤ 1000000000) (hl : l.length = n) (h : Rd w B A (intCells l)) (h0 : w.cell? ⟨x, 0, none⟩ = some (.int .i64 f)) (h1 : w.cell? ⟨x, 1, none⟩ = some (.int .i64 t)) :
    Calls Tryd.prog 116 #[.slice A n c, .func (.func 169) #[] #[.pointer (some ⟨x, 0, none⟩)]] w fun e w' => e = .returned (.bool (l.any fun n => withinB n f t)) ∧ w = w' := by
  have C := IndexFunc_169 A n c B l f t x w hn hl h h0 h1
  clear h h0 h1
  go_enter Tryd.func116, Tryd.ntmps116
  go_wp2_with (go_at_call 95; refine C.mono ?_; rintro e w1 ⟨rfl, rfl⟩)
  go_ret
  exact ⟨by rw [← idxGo_nonneg _ l 0]; rfl, rfl⟩

theorem news3 {X : World} {g : Nat} {a b c : Value} (h0 : X.cell? ⟨g, 0, none⟩ = some a) (h1 : X.cell? ⟨g, 1, none⟩ = some b) (h2 : X.cell? ⟨g, 2, none⟩ = some c) : ∀ j u, [a, b, c][j]? = some u → X.cell? ((⟨g, 0, none⟩ : Addr).add j) = some u := by
  intro j u hu
  match j with
  | 0 => simp at hu; subst hu; exact h0
  | 1 => simp at hu; subst hu; exact h1
  | 2 => simp at hu; subst hu; exact h2
  | j + 3 => simp at hu
theorem own_apart {w : World} {B e e2 size n : Nat} {v : Value} {xs : List Value} (h : w.ownsRow B e size v n xs) {k : Nat} {cur : Array Value} (hk : w.heap[k]? = some (Obj.cells cur e2 (0, 0))) (hne : e2 ≠ e) : some k ≠ v.ownBlock := fun he => by
  obtain ⟨_, _, cur', hc⟩ := ownBlk h he.symm
  rw [hk] at hc
  simp only [Option.some.injEq, Obj.cells.injEq] at hc
  exact hne hc.2.1

/-- does a reading stay -/
def keepB (bs : List Int) (r : Rg) : Bool := !r.2.2 || !bs.any fun b => withinB b r.1 r.2.1
theorem withM_eq (l : List Rg) (bs : List Int) (n : Int) : withM l bs n = (0, n, false) :: l.filter (keepB bs) := rfl
def WithPost (w : World) (bm : Int) (m : List Rg) (e : Ending) (w' : World) : Prop :=
  ∃ A c, e = .returned (.agg #[.int .i64 bm, .slice A m.length c]) ∧ Rd w' w'.heap.size A (rgCells m) ∧ Below w.heap.size w w'
def WithRel (w0 : World) (K g6 : Nat) (bm : Int) (l : List Rg) (bs : List Int) (n : Nat) (F : List Rg) (u24 : Value) (wr : World) : Prop :=
  ∃ (k : Nat) (acc : List Rg) (A : Option Addr) (c : Nat), k ≤ n ∧ acc.length ≤ k + 1 ∧ u24 = .int .i64 k ∧ wr.heap[g6]? = some (.cells #[.int .i64 bm, .slice A acc.length c] 96 (0, 0)) ∧ wr.ownsRow K 175 3 (.slice A acc.length c) acc.length (rgCells acc) ∧ acc ++ (l.drop k).filter (keepB bs) = F ∧ Below K w0 wr

set_option maxRecDepth 100000 in
set_option maxHeartbeats 8000000 in
theorem with_any (w : World) (B : Nat) (bm : Int) (A Ab : Option Addr) (n c q c2 : Nat) (l : List Rg) (bs : List Int) (hl : l.length = n) (hl2 : bs.length = q + 1) (h : Rd w B A (rgCells l)) (h2 : Rd w B Ab (intCells bs)) (hB : B ≤ w.heap.size) (hn : n ≤ 40) (hq : q ≤ 1000) :
    Calls Tryd.prog 139 #[.agg #[.int .i64 bm, .slice A n c], .slice Ab (q + 1) c2] w (WithPost w bm (withM l bs (bs.getLast?.getD 0))) := by
  obtain ⟨i1, hi1, hy0, hy1, hy2⟩ := info_parts info175
  have hb0 : Below w.heap.size w ((w.alloc (.cells #[.int .i64 bm, .slice A n c] 96)).alloc (.cells #[.int .i64 0, .slice none 0 0] 96)) := ((Below.refl _ _).alloc (Nat.le_refl _) _).alloc (by simp) _
  have k0 : ((w.alloc (.cells #[.int .i64 bm, .slice A n c] 96)).alloc (.cells #[.int .i64 0, .slice none 0 0] 96)).heap[w.heap.size]? = some (.cells #[.int .i64 bm, .slice A n c] 96 (0, 0)) := by rw [heapq_alloc, if_neg (by simp), heapq_alloc, if_pos rfl]
  have k1 : ((w.alloc (.cells #[.int .i64 bm, .slice A n c] 96)).alloc (.cells #[.int .i64 0, .slice none 0 0] 96)).heap[w.heap.size + 1]? = some (.cells #[.int .i64 0, .slice none 0 0] 96 (0, 0)) := by rw [heapq_alloc, if_pos (by simp)]
  have hsz : ((w.alloc (.cells #[.int .i64 bm, .slice A n c] 96)).alloc (.cells #[.int .i64 0, .slice none 0 0] 96)).heap.size = w.heap.size + 2 := by simp
  have a0 := (cell_of_row _ _ 0 _ _ _ k0).trans (by rfl : _ = some (.int .i64 bm))
  have a1 := (cell_of_row _ _ 1 _ _ _ k0).trans (by rfl : _ = some (.slice A n c))
  have hr := h.below (hb0.mono hB)
  have hbs := h2.below (hb0.mono hB)
  have hlast : bs[q]?.getD 0 = bs.getLast?.getD 0 := by rw [List.getLast?_eq_getElem?, hl2]; rfl
  obtain ⟨bl, ol, rfl, _, e0⟩ := hbs.at_ (intCells_at bs q (by omega))
  rw [hlast] at e0
  generalize bs.getLast?.getD 0 = lv at *
  have HL := Lib.hid hl
  have HL2 := Lib.hid hl2
  have HB := Lib.hid hb0
  have HSZ := Lib.hid hsz
  have K1 := Lib.hid k1
  clear h h2 hl hl2 hb0 k0 k1 hsz hlast
  go_enter Tryd.func139, Tryd.ntmps139
  go_upto_region 1 with (fail)
  generalize (w.alloc (.cells #[.int .i64 bm, .slice A n c] 96)).alloc (.cells #[.int .i64 0, .slice none 0 0] 96) = w0 at *
  have hx2 : w0.heap.size = w.heap.size + 2 := HSZ.out
  generalize hxx : w.heap.size = x at *
  have HX := Lib.hid hxx.symm
  clear hxx
  go_upto_region 3 with (fail)
  have k5 : ((w0.alloc (.cells #[.int .i64 0, .int .i64 lv, .bool false] 175)).alloc (.cells #[.int .i64 bm, .slice (some ⟨x + 2, 0, none⟩) 1 1] 96)).heap[x + 2]? = some (.cells #[.int .i64 0, .int .i64 lv, .bool false] 175 (0, 0)) := by rw [heapq_alloc, if_neg (by simp; omega), heapq_alloc, if_pos hx2.symm]
  have k6 : ((w0.alloc (.cells #[.int .i64 0, .int .i64 lv, .bool false] 175)).alloc (.cells #[.int .i64 bm, .slice (some ⟨x + 2, 0, none⟩) 1 1] 96)).heap[x + 3]? = some (.cells #[.int .i64 bm, .slice (some ⟨x + 2, 0, none⟩) 1 1] 96 (0, 0)) := by rw [heapq_alloc, if_pos (by simp; omega)]
  have hb3 : Below (x + 2) w0 ((w0.alloc (.cells #[.int .i64 0, .int .i64 lv, .bool false] 175)).alloc (.cells #[.int .i64 bm, .slice (some ⟨x + 2, 0, none⟩) 1 1] 96)) := ((Below.refl _ _).alloc (by omega) _).alloc (by simp; omega) _
  have own3 : ((w0.alloc (.cells #[.int .i64 0, .int .i64 lv, .bool false] 175)).alloc (.cells #[.int .i64 bm, .slice (some ⟨x + 2, 0, none⟩) 1 1] 96)).ownsRow (x + 2) 175 3 (.slice (some ⟨x + 2, 0, none⟩) 1 1) 1 (rgCells [(0, lv, false)]) := ⟨rfl, .inr ⟨x + 2, 1, _, rfl, Nat.le_refl _, k5, by omega, by simp only [maxLen]; omega, rfl, rfl⟩⟩
  replace a1 := keptB hb3 (p := ⟨x, 1, none⟩) (show x < x + 2 by omega) a1
  obtain ⟨F, hF⟩ : ∃ F, withM l bs lv = F := ⟨_, rfl⟩
  rw [hF]
  have HREL : Hid (WithRel w0 (x + 2) (x + 3) bm l bs n F (.int .i64 0) ((w0.alloc (.cells #[.int .i64 0, .int .i64 lv, .bool false] 175)).alloc (.cells #[.int .i64 bm, .slice (some ⟨x + 2, 0, none⟩) 1 1] 96))) :=
    ⟨0, [(0, lv, false)], some ⟨x + 2, 0, none⟩, 1, Nat.zero_le _, by simp, rfl, k6, own3, by rw [List.drop_zero, ← hF]; rfl, hb3⟩
  have HF := Lib.hid hF
  clear k5 k6 hb3 own3 hF e0 a0
  generalize (w0.alloc (.cells #[.int .i64 0, .int .i64 lv, .bool false] 175)).alloc (.cells #[.int .i64 bm, .slice (some ⟨x + 2, 0, none⟩) 1 1] 96) = w3 at *
  have hx3 : x + 2 + 1 = x + 3 := rfl
  go_wp2
  go_loopw [24] (fun u24 wr => WithRel w0 (x + 2) (x + 3) bm l bs n F u24 wr) (fun u24 _ => n - (intOf u24).toNat)
  case atStart => exact HREL.out
  case round =>
    clear HREL a1
    obtain ⟨k, acc, Ar, cr, hk, hal, rfl, hg6, hown, he, hb⟩ := hrel
    have HE := Lib.hid he
    have HBK := Lib.hid hb
    have HOWN := Lib.hid hown
    have hszk := hb.size
    have hrk := hr.below (hb.mono (show B ≤ x + 2 by omega))
    have hbk := hbs.below (hb.mono (show B ≤ x + 2 by omega))
    have hl6 := lt_of_block hg6
    clear he hb hown
    by_cases hlt : k < n
    · have hkl : k < l.length := by rw [HL.out]; exact hlt
      obtain ⟨ev, hev⟩ : ∃ ev, l[k]? = some ev := ⟨_, List.getElem?_eq_getElem hkl⟩
      obtain ⟨z0, z1, z2⟩ := rgCells_at l k ev hev
      obtain ⟨bb, off, rfl, hbB, e0, e1, e2⟩ := hrk.at3 z0 z1 z2
      have HS := Lib.hid (drop_cons' hev)
      obtain ⟨f, td, wg⟩ := ev
      simp only at e0 e1 e2
      have hba : Below wr.heap.size wr (wr.alloc (.cells #[.int .i64 f, .int .i64 td, .bool wg] 175)) := (Below.refl _ _).alloc (Nat.le_refl _) _
      have kb : (wr.alloc (.cells #[.int .i64 f, .int .i64 td, .bool wg] 175)).heap[wr.heap.size]? = some (.cells #[.int .i64 f, .int .i64 td, .bool wg] 175 (0, 0)) := by rw [heapq_alloc, if_pos rfl]
      have t0 := (cell_of_row _ _ 0 _ _ _ kb).trans (by rfl : _ = some (.int .i64 f))
      have t1 := (cell_of_row _ _ 1 _ _ _ kb).trans (by rfl : _ = some (.int .i64 td))
      have t2 := (cell_of_row _ _ 2 _ _ _ kb).trans (by rfl : _ = some (.bool wg))
      have hg6a : (wr.alloc (.cells #[.int .i64 f, .int .i64 td, .bool wg] 175)).heap[x + 3]? = some (.cells #[.int .i64 bm, .slice Ar acc.length cr] 96 (0, 0)) := (hba.block _ hl6).trans hg6
      have HOWA := Lib.hid (ownsRow_below HOWN.out hba)
      have HBA := Lib.hid (HBK.out.trans (hba.mono (show x + 2 ≤ wr.heap.size by omega)))
      have hba2 := hbk.below (hba.mono (show B ≤ wr.heap.size by omega))
      have hsa : wr.heap.size ≤ (wr.alloc (.cells #[.int .i64 f, .int .i64 td, .bool wg] 175)).heap.size := hba.size
      clear kb z0 z1 z2 hev hkl hrk hbk hg6
      go_upto_region 6 with (fail)
      clear hba e0 e1 e2
      generalize wr.alloc (.cells #[.int .i64 f, .int .i64 td, .bool wg] 175) = wa at *
      generalize wr.heap.size = ga at *
      have CF := ContainsFunc_169 (some ⟨bl, ol, none⟩) (q + 1) c2 B bs f td ga wa (by omega) HL2.out hba2 t0 t1
      cases wg with
      | false =>
        have HK : Hid (keepB bs (f, td, false) = true) := rfl
        have HN : Hid ((acc ++ [(f, td, false)]) ++ (l.drop (k + 1)).filter (keepB bs) = F) := by
          have := HE.out
          rw [HS.out, List.filter_cons_of_pos HK.out] at this
          rw [Hid, List.append_assoc]
          exact this
        have s1 := (cell_of_row _ _ 1 _ _ _ hg6a).trans (by rfl : _ = some (.slice Ar acc.length cr))
        go_upto_region 7 with (go_at_call 116; refine CF.mono ?_; rintro e w' ⟨rfl, rfl⟩)
        have hbX : Below wa.heap.size wa (wa.alloc (.cells #[.int .i64 f, .int .i64 td, .bool false] 175)) := (Below.refl _ _).alloc (Nat.le_refl _) _
        have kX : (wa.alloc (.cells #[.int .i64 f, .int .i64 td, .bool false] 175)).heap[wa.heap.size]? = some (.cells #[.int .i64 f, .int .i64 td, .bool false] 175 (0, 0)) := by rw [heapq_alloc, if_pos rfl]
        have hN3 := news3 ((cell_of_row _ _ 0 _ _ _ kX).trans (by rfl : _ = some (.int .i64 f))) ((cell_of_row _ _ 1 _ _ _ kX).trans (by rfl : _ = some (.int .i64 td))) ((cell_of_row _ _ 2 _ _ _ kX).trans (by rfl : _ = some (.bool false)))
        go_wp2_with (at_builtin; refine stp ?_)
        unfold Stp
        refine wpList_append_lies _ rfl _ _ 94 rfl (x + 2) 175 i1 _ 3 24 Tryd.underlying94 hi1 hy0 hy1 hy2 rfl (by omega) (.slice Ar acc.length cr) acc.length (rgCells acc) rfl (ownsRow_below HOWA.out hbX) ⟨wa.heap.size, 0, none⟩ 1 1 [.int .i64 f, .int .i64 td, .bool false] rfl rfl hN3 (by simp [Value.oneCell']) (by omega) (by simp only [maxLen]; omega) (by omega) (by simp; omega) _ rfl ?_
        intro gg cap2 w5 hown5 hgrow5 hat5 hlt5
        have hownX := ownsRow_below HOWA.out hbX
        have hg6X := (hbX.block _ (lt_of_block hg6a)).trans hg6a
        have hg65 := (hgrow5.block (x + 3) (lt_of_block hg6X) (own_apart hownX hg6X (by decide))).trans hg6X
        have HB5 := Lib.hid (((HBA.out.trans (hbX.mono (show x + 2 ≤ wa.heap.size by omega))).grown hgrow5 (by simp; omega) (fun k hk => (ownBlk hownX hk).1)).setCell (p := ⟨x + 3, 1, none⟩) (show x + 2 ≤ x + 3 by omega) (.slice (some ⟨gg, 0, none⟩) (acc.length + 1) cap2))
        have s5 := (cell_of_row _ _ 1 _ _ _ hg65).trans (by rfl : _ = some (.slice Ar acc.length cr))
        have f5 := frozen_of_row _ _ 1 _ _ hg65
        have G6 : Hid ((w5.setCell ⟨x + 3, 1, none⟩ (.slice (some ⟨gg, 0, none⟩) (acc.length + 1) cap2)).heap[x + 3]? = some (.cells #[.int .i64 bm, .slice (some ⟨gg, 0, none⟩) (acc.length + 1) cap2] 96 (0, 0))) := by
          rw [Hid, heapq_set, if_pos rfl, hg65]
          simp [objSet_cells]
        have OW6 : Hid ((w5.setCell ⟨x + 3, 1, none⟩ (.slice (some ⟨gg, 0, none⟩) (acc.length + 1) cap2)).ownsRow (x + 2) 175 3 (.slice (some ⟨gg, 0, none⟩) (acc.length + 1) cap2) (acc.length + 1) (rgCells acc ++ [.int .i64 f, .int .i64 td, .bool false])) :=
          own_keep hown5 (fun k cur hk => by
            rw [heapq_set, if_neg]
            rintro rfl
            rw [hg65] at hk
            simp at hk)
        clear hown5 hgrow5 hat5 hlt5 hownX hg6X hg65 hg6a s1 hN3 kX hbX t0 t1 t2
        go_wp2
        go_roundw
        case rel => exact ⟨k + 1, acc ++ [(f, td, false)], some ⟨gg, 0, none⟩, cap2, by omega, by simp; omega, by go_num, by simpa using G6.out, by simpa [rgCells, rgVals] using OW6.out, HN.out, HB5.out⟩
        case measure => simp [intOf]; omega
      | true =>
        cases hany : bs.any (fun b => withinB b f td) with
        | true =>
          rw [hany] at CF
          have HN : Hid (acc ++ (l.drop (k + 1)).filter (keepB bs) = F) := by
            have := HE.out
            rw [HS.out, List.filter_cons_of_neg (by simp [keepB, hany])] at this
            exact this
          clear hany
          go_wp2_with (go_at_call 116; refine CF.mono ?_; rintro e w' ⟨rfl, rfl⟩)
          go_roundw
          case rel => exact ⟨k + 1, acc, Ar, cr, by omega, by omega, by go_num, hg6a, HOWA.out, HN.out, HBA.out⟩
          case measure => simp [intOf]; omega
        | false =>
          rw [hany] at CF
          have HK : Hid (keepB bs (f, td, true) = true) := by simp [Hid, keepB, hany]
          clear hany
          have HN : Hid ((acc ++ [(f, td, true)]) ++ (l.drop (k + 1)).filter (keepB bs) = F) := by
            have := HE.out
            rw [HS.out, List.filter_cons_of_pos HK.out] at this
            rw [Hid, List.append_assoc]
            exact this
          have s1 := (cell_of_row _ _ 1 _ _ _ hg6a).trans (by rfl : _ = some (.slice Ar acc.length cr))
          go_upto_region 7 with (go_at_call 116; refine CF.mono ?_; rintro e w' ⟨rfl, rfl⟩)
          have hbX : Below wa.heap.size wa (wa.alloc (.cells #[.int .i64 f, .int .i64 td, .bool true] 175)) := (Below.refl _ _).alloc (Nat.le_refl _) _
          have kX : (wa.alloc (.cells #[.int .i64 f, .int .i64 td, .bool true] 175)).heap[wa.heap.size]? = some (.cells #[.int .i64 f, .int .i64 td, .bool true] 175 (0, 0)) := by rw [heapq_alloc, if_pos rfl]
          have hN3 := news3 ((cell_of_row _ _ 0 _ _ _ kX).trans (by rfl : _ = some (.int .i64 f))) ((cell_of_row _ _ 1 _ _ _ kX).trans (by rfl : _ = some (.int .i64 td))) ((cell_of_row _ _ 2 _ _ _ kX).trans (by rfl : _ = some (.bool true)))
          go_wp2_with (at_builtin; refine stp ?_)
          unfold Stp
          refine wpList_append_lies _ rfl _ _ 94 rfl (x + 2) 175 i1 _ 3 24 Tryd.underlying94 hi1 hy0 hy1 hy2 rfl (by omega) (.slice Ar acc.length cr) acc.length (rgCells acc) rfl (ownsRow_below HOWA.out hbX) ⟨wa.heap.size, 0, none⟩ 1 1 [.int .i64 f, .int .i64 td, .bool true] rfl rfl hN3 (by simp [Value.oneCell']) (by omega) (by simp only [maxLen]; omega) (by omega) (by simp; omega) _ rfl ?_
          intro gg cap2 w5 hown5 hgrow5 hat5 hlt5
          have hownX := ownsRow_below HOWA.out hbX
          have hg6X := (hbX.block _ (lt_of_block hg6a)).trans hg6a
          have hg65 := (hgrow5.block (x + 3) (lt_of_block hg6X) (own_apart hownX hg6X (by decide))).trans hg6X
          have HB5 := Lib.hid (((HBA.out.trans (hbX.mono (show x + 2 ≤ wa.heap.size by omega))).grown hgrow5 (by simp; omega) (fun k hk => (ownBlk hownX hk).1)).setCell (p := ⟨x + 3, 1, none⟩) (show x + 2 ≤ x + 3 by omega) (.slice (some ⟨gg, 0, none⟩) (acc.length + 1) cap2))
          have s5 := (cell_of_row _ _ 1 _ _ _ hg65).trans (by rfl : _ = some (.slice Ar acc.length cr))
          have f5 := frozen_of_row _ _ 1 _ _ hg65
          have G6 : Hid ((w5.setCell ⟨x + 3, 1, none⟩ (.slice (some ⟨gg, 0, none⟩) (acc.length + 1) cap2)).heap[x + 3]? = some (.cells #[.int .i64 bm, .slice (some ⟨gg, 0, none⟩) (acc.length + 1) cap2] 96 (0, 0))) := by
            rw [Hid, heapq_set, if_pos rfl, hg65]
            simp [objSet_cells]
          have OW6 : Hid ((w5.setCell ⟨x + 3, 1, none⟩ (.slice (some ⟨gg, 0, none⟩) (acc.length + 1) cap2)).ownsRow (x + 2) 175 3 (.slice (some ⟨gg, 0, none⟩) (acc.length + 1) cap2) (acc.length + 1) (rgCells acc ++ [.int .i64 f, .int .i64 td, .bool true])) :=
            own_keep hown5 (fun k cur hk => by
              rw [heapq_set, if_neg]
              rintro rfl
              rw [hg65] at hk
              simp at hk)
          clear hown5 hgrow5 hat5 hlt5 hownX hg6X hg65 hg6a s1 hN3 kX hbX t0 t1 t2
          go_wp2
          go_roundw
          case rel => exact ⟨k + 1, acc ++ [(f, td, true)], some ⟨gg, 0, none⟩, cap2, by omega, by simp; omega, by go_num, by simpa using G6.out, by simpa [rgCells, rgVals] using OW6.out, HN.out, HB5.out⟩
          case measure => simp [intOf]; omega
    · have HF2 : Hid (acc = F) := by
        have := HE.out
        rw [List.drop_eq_nil_iff.2 (by rw [HL.out]; omega), List.filter_nil, List.append_nil] at this
        exact this
      have kz : wr.heap[x + 1]? = some (.cells #[.int .i64 0, .slice none 0 0] 96 (0, 0)) := by
        rw [HBK.out.block (x + 1) (by omega)]
        exact K1.out
      have g0 := (cell_of_row _ _ 0 _ _ _ hg6).trans (by rfl : _ = some (.int .i64 bm))
      have g1 := (cell_of_row _ _ 1 _ _ _ hg6).trans (by rfl : _ = some (.slice Ar acc.length cr))
      have zc0 := (cell_of_row _ _ 0 _ _ _ kz).trans (by rfl : _ = some (.int .i64 0))
      have fz0 := frozen_of_row _ _ 0 _ _ kz
      have ks : (wr.setCell ⟨x + 1, 0, none⟩ (.int .i64 bm)).heap[x + 1]? = some (.cells #[.int .i64 bm, .slice none 0 0] 96 (0, 0)) := by
        rw [heapq_set, if_pos rfl, kz]
        simp [objSet_cells]
      have zs1 := (cell_of_row _ _ 1 _ _ _ ks).trans (by rfl : _ = some (.slice none 0 0))
      have fs1 := frozen_of_row _ _ 1 _ _ ks
      have kf : ((wr.setCell ⟨x + 1, 0, none⟩ (.int .i64 bm)).setCell ⟨x + 1, 1, none⟩ (.slice Ar acc.length cr)).heap[x + 1]? = some (.cells #[.int .i64 bm, .slice Ar acc.length cr] 96 (0, 0)) := by
        rw [heapq_set, if_pos rfl, ks]
        simp [objSet_cells]
      have r0 := (cell_of_row _ _ 0 _ _ _ kf).trans (by rfl : _ = some (.int .i64 bm))
      have r1 := (cell_of_row _ _ 1 _ _ _ kf).trans (by rfl : _ = some (.slice Ar acc.length cr))
      have OWF : Hid (((wr.setCell ⟨x + 1, 0, none⟩ (.int .i64 bm)).setCell ⟨x + 1, 1, none⟩ (.slice Ar acc.length cr)).ownsRow (x + 2) 175 3 (.slice Ar acc.length cr) acc.length (rgCells acc)) :=
        own_keep HOWN.out (fun j cur hj => by
          have hne : x + 1 ≠ j := by
            rintro rfl
            rw [kz] at hj
            simp at hj
          rw [heapq_set, if_neg (fun e => hne e.symm), heapq_set, if_neg (fun e => hne e.symm)])
      have HFIN : Hid (Below x w ((wr.setCell ⟨x + 1, 0, none⟩ (.int .i64 bm)).setCell ⟨x + 1, 1, none⟩ (.slice Ar acc.length cr))) :=
        ((HB.out.trans (HBK.out.mono (by omega))).setCell (by simp only; omega) _).setCell (by simp only; omega) _
      clear kz ks kf hrk hbk
      go_wp2
      refine bodyPost_ret (v := .agg #[.int .i64 bm, .slice Ar acc.length cr]) (by simp [results, Tryd.results139, go_sem, r0, r1]) rfl ⟨Ar, cr, by rw [HF.out, ← HF2.out], by rw [HF.out, ← HF2.out]; exact rd_own OWF.out, HX.out ▸ HFIN.out⟩
end Go.Proofs.YtmcjnfghlpnghaaDoor

namespace Go.Proofs.YtmcjnfghlpnghaaDoor
open Go.RowKit

def leastE : Option (List Int) → Int
  | none => 12
  | some _ => 0
def LeastOutPost (w : World) (o : Option (List Int)) (e : Int) (x : Ending) (w' : World) : Prop :=
  ∃ v, x = .returned (.tuple #[v, .int .i64 e]) ∧ BeamsAt w' o v ∧ Below w.heap.size w w'

set_option maxHeartbeats 2000000 in
theorem LeastFaults_no (w : World) (B : Nat) (bm : Int) (A : Option Addr) (n c : Nat) (l : List Rg) (hl : l.length = n) (h : Rd w B A (rgCells l)) (hB : B ≤ w.heap.size) (hn : n ≤ 1000000000) (h0 : recM bm l ≠ 0) :
    Calls Tryd.prog 86 #[.agg #[.int .i64 bm, .slice A n c]] w (LeastOutPost w none (recM bm l)) := by
  have hb0 : Below w.heap.size w (w.alloc (.cells #[.int .i64 bm, .slice A n c] 96)) := (Below.refl _ _).alloc (Nat.le_refl _) _
  have k0 : (w.alloc (.cells #[.int .i64 bm, .slice A n c] 96)).heap[w.heap.size]? = some (.cells #[.int .i64 bm, .slice A n c] 96 (0, 0)) := by rw [heapq_alloc, if_pos rfl]
  have c0 : (w.alloc (.cells #[.int .i64 bm, .slice A n c] 96)).cell? ⟨w.heap.size, 0, none⟩ = some (.int .i64 bm) := (cell_of_row _ _ 0 _ _ _ k0).trans rfl
  have c1 : (w.alloc (.cells #[.int .i64 bm, .slice A n c] 96)).cell? ⟨w.heap.size, 1, none⟩ = some (.slice A n c) := (cell_of_row _ _ 1 _ _ _ k0).trans rfl
  have R := recordErr_any (w.alloc (.cells #[.int .i64 bm, .slice A n c] 96)) B bm A n c l hl (h.below (hb0.mono hB)) (Nat.le_trans hB hb0.size) hn
  unfold ErrVal at R
  have e1 : (recM bm l != 0) = true := bne_iff_ne.2 h0
  have HB := Lib.hid hb0
  have hs0 := hb0.size
  generalize recM bm l = er at *
  clear h hl hb0 k0 h0
  go_enter Tryd.func86, Tryd.ntmps86
  go_upto_region 1 with (fail)
  generalize w.alloc (.cells #[.int .i64 bm, .slice A n c] 96) = w0 at *
  go_wp2_with (go_at_call 119; refine R.mono ?_; rintro e w1 ⟨rfl, hb1⟩)
  go_ret2
  exact ⟨.slice none 0 0, rfl, rfl, HB.out.trans (hb1.mono hs0)⟩
end Go.Proofs.YtmcjnfghlpnghaaDoor

namespace Go.Proofs.YtmcjnfghlpnghaaDoor
open Go.RowKit

theorem drop_mem {S : List Int} {k : Nat} (h : k < S.length) : S[k]?.getD 0 ∈ S := by
  rw [List.getElem?_eq_getElem h]
  exact List.getElem_mem h
theorem withM_len (l : List Rg) (bs : List Int) (n : Int) : (withM l bs n).length ≤ l.length + 1 := by
  rw [withM, List.length_cons]
  exact Nat.succ_le_succ (List.length_filter_le _ _)
theorem withM_ok {l : List Rg} {out : List Int} {x : Int} (ok : ∀ r ∈ l, 0 ≤ r.1 ∧ r.1 ≤ r.2.1) (hx : 0 ≤ x) : ∀ r ∈ withM l (out ++ [x]) ((out ++ [x]).getLast?.getD 0), 0 ≤ r.1 ∧ r.1 ≤ r.2.1 := by
  intro r hr
  rw [withM, List.mem_cons] at hr
  rcases hr with rfl | hr
  · simp only [List.getLast?_append, List.getLast?_singleton, Option.some_or, Option.getD_some]
    exact ⟨Int.le_refl _, hx⟩
  · exact ok r (List.mem_filter.1 hr).1

def IntsOwnPost (w : World) (l : List Int) (n : Nat) (e : Ending) (w' : World) : Prop :=
  ∃ A c, e = .returned (.slice A n c) ∧ w'.ownsRow w.heap.size 3 1 (.slice A n c) n (intCells l) ∧ Below w.heap.size w w'
theorem CloneI_any (w : World) (B : Nat) (A : Option Addr) (n c : Nat) (l : List Int) (hl : l.length = n) (hn : n ≤ 1000) (h : Rd w B A (intCells l)) (hB : B ≤ w.heap.size) : Calls Tryd.prog 134 #[.slice A n c] w (IntsOwnPost w l n) := by
  cases A with
  | none =>
    have hl0 : l = [] := by
      cases l with
      | nil => rfl
      | cons x l =>
        obtain ⟨b, off, he, _⟩ := h 0 _ (intCells_at (x :: l) 0 (by simp))
        cases he
    subst hl0
    obtain rfl : 0 = n := hl
    refine (Tryd.slices_Clone_nil_f134 0 c w).mono ?_
    rintro e w' ⟨rfl, rfl⟩
    exact ⟨none, 0, rfl, ⟨rfl, .inl ⟨rfl, rfl⟩⟩, Below.refl _ _⟩
  | some a =>
    obtain ⟨i1, hi1, hy0, hy1, hy2⟩ := info_parts info3
    cases l with
    | nil =>
      obtain rfl : 0 = n := hl
      obtain ⟨b, off, idx⟩ := a
      refine (Tryd.slices_Clone_int_zero ⟨b, off, idx⟩ c w).mono ?_
      rintro e w' ⟨v, rfl, hown, _, hb⟩
      obtain ⟨A', c', rfl⟩ := rowForm hown
      exact ⟨A', c', rfl, hown, hb⟩
    | cons x l =>
      obtain ⟨b, off, he, hbB, hc⟩ := h 0 _ (intCells_at (x :: l) 0 (by simp))
      obtain rfl : a = ⟨b, off, none⟩ := by simpa using he
      have HC : ∀ j, j < (x :: l).length → w.cell? ⟨b, off + j, none⟩ = some (.int .i64 ((x :: l).getD j 0)) := by
        intro j hj
        obtain ⟨b', off', he', _, hc'⟩ := h j _ (intCells_at (x :: l) j hj)
        simp only [Option.some.injEq, Addr.mk.injEq, and_true] at he'
        obtain ⟨rfl, rfl⟩ := he'
        rw [hc']
        simp
      have q := Tryd.slices_Clone_int b off n c (x :: l) w (by omega) (by omega) HC
      rw [List.take_of_length_le (by omega)] at q
      refine q.mono ?_
      rintro e w' ⟨v, rfl, hown, _, hb⟩
      obtain ⟨A', c', rfl⟩ := rowForm hown
      exact ⟨A', c', rfl, hown, hb⟩

/-- the loop: beams so far, how many are left, beams to come -/
def LeastRel (w0 : World) (few : List Int → Option Nat) (S FIN : List Int) (u5 u7 u27 : Value) (wr : World) : Prop :=
  ∃ (k left : Nat) (li : Int) (out : List Int) (A : Option Addr) (c : Nat), k ≤ S.length ∧ out.length ≤ k ∧ left ≤ S.length ∧ u27 = .int .i64 k ∧ u5 = .int .i64 li ∧ (left : Int) = li ∧ u7 = .slice A out.length c ∧ wr.ownsRow w0.heap.size 3 1 (.slice A out.length c) out.length (intCells out) ∧ leastGo few out (S.drop k) left = FIN ∧ Below w0.heap.size w0 wr

set_option maxRecDepth 100000 in
set_option maxHeartbeats 8000000 in
theorem LeastFaults_yes (w : World) (B bm : Nat) (A : Option Addr) (n c : Nat) (l : List Rg) (hl : l.length = n) (h : Rd w B A (rgCells l)) (hB : B ≤ w.heap.size) (hn : n ≤ 8) (h0 : recM bm l = 0) (ok : ∀ r ∈ l, 0 ≤ r.1 ∧ r.1 ≤ r.2.1) (R : Option (List Int)) (hR : leastM l bm = R) :
    Calls Tryd.prog 86 #[.agg #[.int .i64 bm, .slice A n c]] w (LeastOutPost w R (leastE R)) := by
  obtain ⟨r1, r2, r3⟩ := recM_zero h0
  have hbm : bm ≤ 40 := by omega
  obtain ⟨i1, hi1, hy0, hy1, hy2⟩ := info_parts info3
  have hb0 : Below w.heap.size w (w.alloc (.cells #[.int .i64 (bm : Int), .slice A n c] 96)) := (Below.refl _ _).alloc (Nat.le_refl _) _
  have hr0 := h.below (hb0.mono hB)
  have k0 : (w.alloc (.cells #[.int .i64 (bm : Int), .slice A n c] 96)).heap[w.heap.size]? = some (.cells #[.int .i64 (bm : Int), .slice A n c] 96 (0, 0)) := by rw [heapq_alloc, if_pos rfl]
  have c0 : (w.alloc (.cells #[.int .i64 (bm : Int), .slice A n c] 96)).cell? ⟨w.heap.size, 0, none⟩ = some (.int .i64 (bm : Int)) := (cell_of_row _ _ 0 _ _ _ k0).trans rfl
  have c1 : (w.alloc (.cells #[.int .i64 (bm : Int), .slice A n c] 96)).cell? ⟨w.heap.size, 1, none⟩ = some (.slice A n c) := (cell_of_row _ _ 1 _ _ _ k0).trans rfl
  have hs0 := hb0.size
  have hB0 := Nat.le_trans hB hs0
  have RE := recordErr_any (w.alloc (.cells #[.int .i64 (bm : Int), .slice A n c] 96)) B bm A n c l hl hr0 hB0 (by omega)
  unfold ErrVal at RE
  rw [h0] at RE
  have FW := fun W (h1 : Rd W B A (rgCells l)) (h3 : B ≤ W.heap.size) => fewest_any W B bm A n c l hl h1 h3 (by omega) hbm ok
  have HL := Lib.hid hl
  have HB := Lib.hid hb0
  have HR := Lib.hid hR
  clear h hl hb0 k0 h0 hR
  go_enter Tryd.func86, Tryd.ntmps86
  go_upto_region 1 with (fail)
  generalize w.alloc (.cells #[.int .i64 (bm : Int), .slice A n c] 96) = w0 at *
  go_upto_region 2 with (go_at_call 119; refine RE.mono ?_; rintro e w1 ⟨rfl, hb1⟩)
  replace c0 := kept hb1 c0
  replace c1 := kept hb1 c1
  replace hr0 := hr0.below (hb1.mono hB0)
  replace HB := Lib.hid (HB.out.trans (hb1.mono hs0))
  replace hB0 := Nat.le_trans hB0 hb1.size
  replace hs0 := Nat.le_trans hs0 hb1.size
  clear hb1 RE
  have F1 := FW w1 hr0 hB0
  obtain ⟨fo, hfo⟩ : ∃ fo, fewM (suspK l bm) l = fo := ⟨_, rfl⟩
  unfold FewOutPost at F1
  rw [hfo] at F1
  have HFO := Lib.hid hfo
  clear hfo
  cases fo with
  | none =>
    have HRN : Hid (R = none) := by
      rw [Hid, ← HR.out, leastM, HFO.out]
      rfl
    go_wp2_with (go_at_call 138; refine F1.mono ?_; rintro e w2 ⟨rfl, hb1⟩)
    go_ret2
    exact ⟨.slice none 0 0, by rw [HRN.out]; rfl, by rw [HRN.out]; rfl, HB.out.trans (hb1.mono hs0)⟩
  | some kf =>
    have HRS : Hid (R = some (leastGo (withFew l bm) [] (suspK l bm) kf)) := by
      rw [Hid, ← HR.out, leastM, HFO.out]
      rfl
    have hkf : kf ≤ (suspK l bm).length := by
      obtain ⟨⟨T, t1, _, t3⟩, _⟩ := few_some (suspK_sorted l bm) (fun s hs => (suspK_in s hs).1) ok HFO.out
      have := t1.length_le
      omega
    have hS40 : (suspK l bm).length ≤ 40 := Nat.le_trans (suspK_len l bm) hbm
    have hSin : ∀ x ∈ suspK l bm, 0 ≤ x ∧ x < (bm : Int) := suspK_in
    rw [show fewV (some kf) = (kf : Int) from rfl, show (some kf).isSome = true from rfl] at F1
    go_upto_region 5 with (go_at_call 138; refine F1.mono ?_; rintro e w2 ⟨rfl, hb1⟩)
    replace c0 := kept hb1 c0
    replace c1 := kept hb1 c1
    replace hr0 := hr0.below (hb1.mono hB0)
    replace HB := Lib.hid (HB.out.trans (hb1.mono hs0))
    replace hB0 := Nat.le_trans hB0 hb1.size
    replace hs0 := Nat.le_trans hs0 hb1.size
    clear hb1 F1
    have SU := suspects_any w2 B bm A n c l HL.out hr0 hB0 (by omega) hbm
    obtain ⟨S, hS⟩ : ∃ S, suspK l bm = S := ⟨_, rfl⟩
    rw [hS] at SU HRS hkf hS40 hSin
    have HS := Lib.hid hS
    clear hS
    go_upto_region 8 with fail
    go_wp2_with (go_at_call 120; refine SU.mono ?_; rintro e w3 ⟨A3, c3, rfl, hSr, hb3⟩)
    replace c0 := kept hb3 c0
    replace c1 := kept hb3 c1
    replace hr0 := hr0.below (hb3.mono hB0)
    replace HB := Lib.hid (HB.out.trans (hb3.mono hs0))
    replace hB0 := Nat.le_trans hB0 hb3.size
    replace hs0 := Nat.le_trans hs0 hb3.size
    clear hb3 SU
    have C0 := Lib.hid c0
    have C1 := Lib.hid c1
    obtain ⟨FIN, hFIN⟩ : ∃ FIN, leastGo (withFew l bm) [] S kf = FIN := ⟨_, rfl⟩
    rw [hFIN] at HRS
    have HFIN := Lib.hid hFIN
    clear hFIN
    go_loopw [5, 7, 27] (fun u5 u7 u27 wr => LeastRel w3 (withFew l bm) S FIN u5 u7 u27 wr) (fun _ _ u27 _ => S.length - (intOf u27).toNat)
    case atStart => exact ⟨0, kf, kf, [], none, 0, Nat.zero_le _, Nat.zero_le _, hkf, rfl, rfl, rfl, rfl, ⟨rfl, .inl ⟨rfl, rfl⟩⟩, by rw [List.drop_zero]; exact HFIN.out, Below.refl _ _⟩
    case round =>
      clear c0 c1
      obtain ⟨k, left, li, out, Ao, co, hk, hok, hleft, rfl, rfl, hli, rfl, hown, hgo, hb⟩ := hrel
      have HOWN := Lib.hid hown
      have HGO := Lib.hid hgo
      have HBK := Lib.hid hb
      have HLI := Lib.hid hli
      have hsk := hb.size
      have hli0 : 0 ≤ li ∧ li ≤ 40 := by omega
      have c0 := kept hb C0.out
      have c1 := kept hb C1.out
      have hrk := hr0.below (hb.mono hB0)
      have hSk := hSr.below hb
      have hBK := Nat.le_trans hB0 hsk
      clear hb hown hgo hli
      by_cases hlt : k < S.length
      · have hxS := hSin _ (drop_mem hlt)
        obtain ⟨b3, o3, rfl, hb3, d0⟩ := hSk.at_ (intCells_at S k hlt)
        have HSD := Lib.hid (drop_at S 0 k hlt)
        generalize S[k]?.getD 0 = x at *
        by_cases h0 : li = 0
        · have HFE : Hid (out = FIN) := by
            have := HGO.out
            have hl0 := HLI.out
            obtain rfl : left = 0 := by omega
            rw [leastGo] at this
            exact this
          subst h0
          clear HLI
          go_wp2
          go_ret2
          exact ⟨.slice Ao out.length co, by rw [HRS.out]; rfl, by rw [HRS.out, ← HFE.out]; exact ⟨Ao, co, rfl, rd_own HOWN.out⟩, HB.out.trans (HBK.out.mono hs0)⟩
        · obtain ⟨lf, rfl⟩ : ∃ lf, left = lf + 1 := ⟨left - 1, by have := HLI.out; omega⟩
          have e0 : (li == 0) = false := beq_eq_false_iff_ne.2 h0
          have hli1 : 1 ≤ li := by omega
          obtain ⟨M, hM⟩ : ∃ M, withM l (out ++ [x]) ((out ++ [x]).getLast?.getD 0) = M := ⟨_, rfl⟩
          obtain ⟨fo, hfo⟩ : ∃ fo, withFew l bm (out ++ [x]) = fo := ⟨_, rfl⟩
          obtain ⟨fv, hfv⟩ : ∃ v, fewV fo = v := ⟨_, rfl⟩
          obtain ⟨fb, hfb⟩ : ∃ b, fo.isSome = b := ⟨_, rfl⟩
          have hfoM : fewM (suspK M bm) M = fo := by rw [← hM]; exact hfo
          have hML : M.length ≤ 9 := by
            have := withM_len l (out ++ [x]) ((out ++ [x]).getLast?.getD 0)
            rw [hM, HL.out] at this
            omega
          have hokM : ∀ r ∈ M, 0 ≤ r.1 ∧ r.1 ≤ r.2.1 := by
            rw [← hM]
            exact withM_ok ok hxS.1
          have WA := fun W A1 c1 (h1 : Rd W W.heap.size A (rgCells l)) (h2 : Rd W W.heap.size A1 (intCells (out ++ [x]))) => with_any W W.heap.size (bm : Int) A A1 n c out.length c1 l (out ++ [x]) HL.out (by simp) h1 h2 (Nat.le_refl _) (by omega) (by omega)
          rw [hM] at WA
          unfold WithPost at WA
          have FM := fun W A1 c1 (h1 : Rd W W.heap.size A1 (rgCells M)) => fewest_any W W.heap.size bm A1 M.length c1 M rfl h1 (Nat.le_refl _) (by omega) hbm hokM
          unfold FewOutPost at FM
          rw [hfoM, hfv, hfb] at FM
          have HNO : Hid (fb = false ∨ fv ≠ li - 1 → leastGo (withFew l bm) out (S.drop (k + 1)) (lf + 1) = FIN) := by
            intro hc
            have := HGO.out
            rw [HSD.out, leastGo, if_neg] at this
            · exact this
            · rw [hfo]
              rintro rfl
              rcases hc with hc | hc
              · rw [← hfb] at hc
                cases hc
              · have := HLI.out
                rw [← hfv] at hc
                exact hc (by simp only [fewV]; omega)
          have HYES : Hid (fb = true → fv = li - 1 → leastGo (withFew l bm) (out ++ [x]) (S.drop (k + 1)) lf = FIN) := by
            intro h1 h2
            have := HGO.out
            rw [HSD.out, leastGo, if_pos] at this
            · exact this
            · rw [hfo]
              have hl1 := HLI.out
              cases fo with
              | none => rw [← hfb] at h1; cases h1
              | some j =>
                simp only [fewV] at hfv
                congr 1
                omega
          clear hM hfo hfoM hfv hfb hokM h0
          go_upto_region 12 with fail
          clear e0 d0
          have x0 := fun y : Xt wr => y.cell c0
          have x1 := fun y : Xt wr => y.cell c1
          have HOW0 := Lib.hid (rd_own HOWN.out)
          refine wp_region_eager [12] (fun w' => ∃ y : Xt wr, w' = y.1) (by kernel_rfl) ⟨⟨wr.drew, (Below.refl _ _).drew⟩, rfl⟩ ?_
          refine wpE_reads [0, 1, 3] 10 rfl (by kernel_rfl) ?_
          simp only [opsAt_nil, opsAt_cons, consOpt_some, List.getElem?_toArray, List.getElem?_cons_zero, List.getElem?_cons_succ]
          repeat (go_big_quiet_step (fail))
          refine wpQuiet_nil ?_
          have hbd : Below wr.heap.size wr wr.drew := (Below.refl _ _).drew
          show wpE _ _ _ _ _ _ _ _ _ wr.drew
          clear x0 x1 c0 c1
          generalize wr.drew = wd at *
          refine wpE_two (i := 2) (k := 4) rfl (by kernel_rfl) rfl rfl ?_ ?_
          · unfold wpMid
            simp only [opsAt_nil, opsAt_cons, consOpt_some, List.getElem?_toArray, List.getElem?_cons_zero, List.getElem?_cons_succ]
            go_wp2_with (go_at_call 134; refine (CloneI_any wd wr.heap.size Ao out.length co out rfl (by omega) (HOW0.out.below hbd) hbd.size).mono ?_; rintro e y2 ⟨A2, c2, rfl, hown2, hb2⟩)
            have hb02 := hbd.trans (hb2.mono hbd.size)
            refine onlyNormal_mk ⟨⟨⟨_, hb02⟩, rfl⟩, ?_⟩
            refine wpE_one (i := 4) rfl (by kernel_rfl) rfl ?_
            unfold wpMid
            simp only [opsAt_nil, opsAt_cons, consOpt_some, List.getElem?_toArray, List.getElem?_cons_zero, List.getElem?_cons_succ]
            go_wp2
            have hb03 : Below wr.heap.size wr (y2.alloc (.cells #[.int .i64 x] 3)) := hb02.alloc hb02.size _
            have n3 : (y2.alloc (.cells #[.int .i64 x] 3)).cell? ⟨y2.heap.size, 0, none⟩ = some (.int .i64 x) := (cell_of_row _ _ 0 _ _ _ (by rw [heapq_alloc, if_pos rfl])).trans rfl
            have OW3 : Hid ((y2.alloc (.cells #[.int .i64 x] 3)).ownsRow wd.heap.size 3 1 (.slice A2 out.length c2) out.length (intCells out)) := hown2.alloc _
            have hbs1 : wr.heap.size ≤ wd.heap.size := hbd.size
            have hbs2 : wd.heap.size ≤ (y2.alloc (.cells #[.int .i64 x] 3)).heap.size := Nat.le_trans hb2.size ((Below.refl _ _).alloc (Nat.le_refl _) _ : Below y2.heap.size y2 _).size
            clear hown2 hb2 hb02
            generalize y2.alloc (.cells #[.int .i64 x] 3) = y3 at *
            generalize y2.heap.size = gz at *
            generalize wd.heap.size = bs at *
            refine onlyNormal_mk ⟨⟨⟨_, hb03⟩, rfl⟩, ?_⟩
            clear HOW0
            refine wpE_one (i := 5) rfl (by kernel_rfl) rfl ?_
            unfold wpMid
            simp only [opsAt_nil, opsAt_cons, consOpt_some, List.getElem?_toArray, List.getElem?_cons_zero, List.getElem?_cons_succ]
            go_wp2_with (at_builtin; refine stp ?_)
            unfold Stp
            refine wpList_append_lies _ rfl _ _ 39 rfl bs 3 i1 _ 1 8 Tryd.underlying39 hi1 hy0 hy1 hy2 rfl (by omega) (.slice A2 out.length c2) out.length (intCells out) rfl OW3.out ⟨gz, 0, none⟩ 1 1 [.int .i64 x] rfl rfl (news1 n3) (by simp [Value.oneCell']) (by omega) (by simp only [maxLen]; omega) (by omega) hbs2 _ rfl ?_
            intro gg cap y5 hown5 hgrow5 hat5 hlt5
            have hb5 : Below wr.heap.size wr y5 := hb03.grown hgrow5 hb03.size (fun k hk => Nat.le_trans hbs1 (ownBlk OW3.out hk).1)
            have hrs : Rd y5 y5.heap.size (some ⟨gg, 0, none⟩) (intCells (out ++ [x])) := by simpa [intCells] using rd_own hown5
            have hr5 := (hrk.below (hb5.mono hBK)).mono (Nat.le_trans hBK hb5.size)
            clear hown5 hgrow5 hat5 hlt5 OW3 n3 hbs1 hbs2 hb03
            go_wp2
            refine onlyNormal_mk ⟨⟨⟨_, hb5⟩, rfl⟩, ?_⟩
            refine wpE_one (i := 6) rfl (by kernel_rfl) rfl ?_
            unfold wpMid
            simp only [opsAt_nil, opsAt_cons, consOpt_some, List.getElem?_toArray, List.getElem?_cons_zero, List.getElem?_cons_succ]
            go_wp2_with (go_at_call 139; refine (WA y5 (some ⟨gg, 0, none⟩) cap hr5 hrs).mono ?_; rintro e y6 ⟨A6, c6, rfl, h6, hb6⟩)
            have hb06 := hb5.trans (hb6.mono hb5.size)
            clear hrs hr5 hb6 hb5
            refine onlyNormal_mk ⟨⟨⟨_, hb06⟩, rfl⟩, ?_⟩
            refine wpE_one (i := 7) rfl (by kernel_rfl) rfl ?_
            unfold wpMid
            simp only [opsAt_nil, opsAt_cons, consOpt_some, List.getElem?_toArray, List.getElem?_cons_zero, List.getElem?_cons_succ]
            go_wp2_with (go_at_call 138; refine (FM y6 A6 c6 h6).mono ?_; rintro e y7 ⟨rfl, hb7⟩)
            have hb07 := hb06.trans (hb7.mono hb06.size)
            clear h6 hb7 hb06
            refine onlyNormal_mk ⟨⟨⟨_, hb07⟩, rfl⟩, ?_⟩
            refine wpE_reads [8, 9, 10, 11] 1 rfl (by kernel_rfl) ?_
            simp only [opsAt_nil, opsAt_cons, consOpt_some, List.getElem?_toArray, List.getElem?_cons_zero, List.getElem?_cons_succ]
            repeat (go_big_quiet_step (fail))
            refine wpQuiet_nil ?_
            refine wpE_tail rfl (by kernel_rfl) ?_
            simp only [opsAt_nil, opsAt_cons, consOpt_some, List.getElem?_toArray, List.getElem?_cons_zero, List.getElem?_cons_succ]
            go_wp2
            refine onlyNormal_mk ?_
            have HOW7 := Lib.hid (ownsRow_below HOWN.out hb07)
            have HB7 := Lib.hid (HBK.out.trans (hb07.mono hsk))
            have hs7 := Nat.le_trans hsk hb07.size
            clear hb07 WA FM
            cases fb with
            | false =>
              have HN := Lib.hid (HNO.out (.inl rfl))
              go_wp2
              go_roundw
              case rel => exact ⟨k + 1, lf + 1, li, out, Ao, co, by omega, by omega, hleft, by go_num, rfl, HLI.out, rfl, HOW7.out, HN.out, Below.trans HB7.out (Below.refl _ _)⟩
              case measure => simp [intOf]; omega
            | true =>
              by_cases hfv : fv = li - 1
              · have HN := Lib.hid (HYES.out rfl hfv)
                have e9 : (fv == li - 1) = true := beq_iff_eq.2 hfv
                have HFV := Lib.hid hfv
                clear hfv
                go_upto_region 14 with fail
                clear e9
                go_wp2_with (at_builtin; refine stp ?_)
                unfold Stp
                refine wpList_append_lies _ rfl _ _ 39 rfl w3.heap.size 3 i1 _ 1 8 Tryd.underlying39 hi1 hy0 hy1 hy2 rfl (by omega) (.slice Ao out.length co) out.length (intCells out) rfl (HOW7.out.alloc _) ⟨y7.heap.size, 0, none⟩ 1 1 [.int .i64 x] rfl rfl (news1 (by simp)) (by simp [Value.oneCell']) (by omega) (by simp only [maxLen]; omega) (by omega) (by simp; omega) _ rfl ?_
                intro g8 cap8 y8 hown8 hgrow8 hat8 hlt8
                have HB8 := Lib.hid ((HB7.out.alloc hs7 _).grown hgrow8 (by simp; omega) (fun k hk => (ownBlk HOW7.out hk).1))
                have HOWN8 := Lib.hid hown8
                clear hown8 hgrow8 hat8 hlt8
                go_wp2
                go_roundw
                case rel => exact ⟨k + 1, lf, li - 1, out ++ [x], some ⟨g8, 0, none⟩, cap8, by omega, by simp; omega, by omega, by go_num, by go_num, by have := HLI.out; omega, by simp, by simpa [intCells] using HOWN8.out, HN.out, HB8.out⟩
                case measure => simp [intOf]; omega
              · have HN := Lib.hid (HNO.out (.inr hfv))
                have e9 : (fv == li - 1) = false := beq_eq_false_iff_ne.2 hfv
                clear hfv
                go_wp2
                go_roundw
                case rel => exact ⟨k + 1, lf + 1, li, out, Ao, co, by omega, by omega, hleft, by go_num, rfl, HLI.out, rfl, HOW7.out, HN.out, Below.trans HB7.out (Below.refl _ _)⟩
                case measure => simp [intOf]; omega
          · unfold wpMid
            simp only [opsAt_nil, opsAt_cons, consOpt_some, List.getElem?_toArray, List.getElem?_cons_zero, List.getElem?_cons_succ]
            go_wp2
            have hb02 : Below wr.heap.size wr (wd.alloc (.cells #[.int .i64 x] 3)) := hbd.alloc hbd.size _
            have n2 : (wd.alloc (.cells #[.int .i64 x] 3)).cell? ⟨wd.heap.size, 0, none⟩ = some (.int .i64 x) := (cell_of_row _ _ 0 _ _ _ (by rw [heapq_alloc, if_pos rfl])).trans rfl
            generalize wd.alloc (.cells #[.int .i64 x] 3) = y2 at *
            generalize wd.heap.size = gz at *
            refine onlyNormal_mk ⟨⟨⟨_, hb02⟩, rfl⟩, ?_⟩
            refine wpE_one (i := 2) rfl (by kernel_rfl) rfl ?_
            unfold wpMid
            simp only [opsAt_nil, opsAt_cons, consOpt_some, List.getElem?_toArray, List.getElem?_cons_zero, List.getElem?_cons_succ]
            go_wp2_with (go_at_call 134; refine (CloneI_any y2 wr.heap.size Ao out.length co out rfl (by omega) (HOW0.out.below hb02) hb02.size).mono ?_; rintro e y3 ⟨A2, c2, rfl, hown2, hb2⟩)
            have hb03 := hb02.trans (hb2.mono hb02.size)
            have n3 := kept hb2 n2
            have OW3 := Lib.hid hown2
            have hbs1 : wr.heap.size ≤ y2.heap.size := hb02.size
            have hbs2 : y2.heap.size ≤ y3.heap.size := hb2.size
            clear hown2 hb2 hb02 n2
            generalize y2.heap.size = bs at *
            refine onlyNormal_mk ⟨⟨⟨_, hb03⟩, rfl⟩, ?_⟩
            clear HOW0
            refine wpE_one (i := 5) rfl (by kernel_rfl) rfl ?_
            unfold wpMid
            simp only [opsAt_nil, opsAt_cons, consOpt_some, List.getElem?_toArray, List.getElem?_cons_zero, List.getElem?_cons_succ]
            go_wp2_with (at_builtin; refine stp ?_)
            unfold Stp
            refine wpList_append_lies _ rfl _ _ 39 rfl bs 3 i1 _ 1 8 Tryd.underlying39 hi1 hy0 hy1 hy2 rfl (by omega) (.slice A2 out.length c2) out.length (intCells out) rfl OW3.out ⟨gz, 0, none⟩ 1 1 [.int .i64 x] rfl rfl (news1 n3) (by simp [Value.oneCell']) (by omega) (by simp only [maxLen]; omega) (by omega) hbs2 _ rfl ?_
            intro gg cap y5 hown5 hgrow5 hat5 hlt5
            have hb5 : Below wr.heap.size wr y5 := hb03.grown hgrow5 hb03.size (fun k hk => Nat.le_trans hbs1 (ownBlk OW3.out hk).1)
            have hrs : Rd y5 y5.heap.size (some ⟨gg, 0, none⟩) (intCells (out ++ [x])) := by simpa [intCells] using rd_own hown5
            have hr5 := (hrk.below (hb5.mono hBK)).mono (Nat.le_trans hBK hb5.size)
            clear hown5 hgrow5 hat5 hlt5 OW3 n3 hbs1 hbs2 hb03
            go_wp2
            refine onlyNormal_mk ⟨⟨⟨_, hb5⟩, rfl⟩, ?_⟩
            refine wpE_one (i := 6) rfl (by kernel_rfl) rfl ?_
            unfold wpMid
            simp only [opsAt_nil, opsAt_cons, consOpt_some, List.getElem?_toArray, List.getElem?_cons_zero, List.getElem?_cons_succ]
            go_wp2_with (go_at_call 139; refine (WA y5 (some ⟨gg, 0, none⟩) cap hr5 hrs).mono ?_; rintro e y6 ⟨A6, c6, rfl, h6, hb6⟩)
            have hb06 := hb5.trans (hb6.mono hb5.size)
            clear hrs hr5 hb6 hb5
            refine onlyNormal_mk ⟨⟨⟨_, hb06⟩, rfl⟩, ?_⟩
            refine wpE_one (i := 7) rfl (by kernel_rfl) rfl ?_
            unfold wpMid
            simp only [opsAt_nil, opsAt_cons, consOpt_some, List.getElem?_toArray, List.getElem?_cons_zero, List.getElem?_cons_succ]
            go_wp2_with (go_at_call 138; refine (FM y6 A6 c6 h6).mono ?_; rintro e y7 ⟨rfl, hb7⟩)
            have hb07 := hb06.trans (hb7.mono hb06.size)
            clear h6 hb7 hb06
            refine onlyNormal_mk ⟨⟨⟨_, hb07⟩, rfl⟩, ?_⟩
            refine wpE_reads [8, 9, 10, 11] 1 rfl (by kernel_rfl) ?_
            simp only [opsAt_nil, opsAt_cons, consOpt_some, List.getElem?_toArray, List.getElem?_cons_zero, List.getElem?_cons_succ]
            repeat (go_big_quiet_step (fail))
            refine wpQuiet_nil ?_
            refine wpE_tail rfl (by kernel_rfl) ?_
            simp only [opsAt_nil, opsAt_cons, consOpt_some, List.getElem?_toArray, List.getElem?_cons_zero, List.getElem?_cons_succ]
            go_wp2
            refine onlyNormal_mk ?_
            have HOW7 := Lib.hid (ownsRow_below HOWN.out hb07)
            have HB7 := Lib.hid (HBK.out.trans (hb07.mono hsk))
            have hs7 := Nat.le_trans hsk hb07.size
            clear hb07 WA FM
            cases fb with
            | false =>
              have HN := Lib.hid (HNO.out (.inl rfl))
              go_wp2
              go_roundw
              case rel => exact ⟨k + 1, lf + 1, li, out, Ao, co, by omega, by omega, hleft, by go_num, rfl, HLI.out, rfl, HOW7.out, HN.out, Below.trans HB7.out (Below.refl _ _)⟩
              case measure => simp [intOf]; omega
            | true =>
              by_cases hfv : fv = li - 1
              · have HN := Lib.hid (HYES.out rfl hfv)
                have e9 : (fv == li - 1) = true := beq_iff_eq.2 hfv
                have HFV := Lib.hid hfv
                clear hfv
                go_upto_region 14 with fail
                clear e9
                go_wp2_with (at_builtin; refine stp ?_)
                unfold Stp
                refine wpList_append_lies _ rfl _ _ 39 rfl w3.heap.size 3 i1 _ 1 8 Tryd.underlying39 hi1 hy0 hy1 hy2 rfl (by omega) (.slice Ao out.length co) out.length (intCells out) rfl (HOW7.out.alloc _) ⟨y7.heap.size, 0, none⟩ 1 1 [.int .i64 x] rfl rfl (news1 (by simp)) (by simp [Value.oneCell']) (by omega) (by simp only [maxLen]; omega) (by omega) (by simp; omega) _ rfl ?_
                intro g8 cap8 y8 hown8 hgrow8 hat8 hlt8
                have HB8 := Lib.hid ((HB7.out.alloc hs7 _).grown hgrow8 (by simp; omega) (fun k hk => (ownBlk HOW7.out hk).1))
                have HOWN8 := Lib.hid hown8
                clear hown8 hgrow8 hat8 hlt8
                go_wp2
                go_roundw
                case rel => exact ⟨k + 1, lf, li - 1, out ++ [x], some ⟨g8, 0, none⟩, cap8, by omega, by simp; omega, by omega, by go_num, by go_num, by have := HLI.out; omega, by simp, by simpa [intCells] using HOWN8.out, HN.out, HB8.out⟩
                case measure => simp [intOf]; omega
              · have HN := Lib.hid (HNO.out (.inr hfv))
                have e9 : (fv == li - 1) = false := beq_eq_false_iff_ne.2 hfv
                clear hfv
                go_wp2
                go_roundw
                case rel => exact ⟨k + 1, lf + 1, li, out, Ao, co, by omega, by omega, hleft, by go_num, rfl, HLI.out, rfl, HOW7.out, HN.out, Below.trans HB7.out (Below.refl _ _)⟩
                case measure => simp [intOf]; omega
      · have HFE : Hid (out = FIN) := by
          have := HGO.out
          rw [List.drop_eq_nil_iff.2 (by omega)] at this
          cases left with
          | zero => rw [leastGo] at this; exact this
          | succ left => rw [leastGo] at this; exact this
        go_wp2
        go_ret2
        exact ⟨.slice Ao out.length co, by rw [HRS.out]; rfl, by rw [HRS.out, ← HFE.out]; exact ⟨Ao, co, rfl, rd_own HOWN.out⟩, HB.out.trans (HBK.out.mono hs0)⟩
end Go.Proofs.YtmcjnfghlpnghaaDoor

namespace Go.Proofs.YtmcjnfghlpnghaaDoor

theorem fE_iff {bm : Int} {S : List Int} {x last : Int} : fE bm S x last = 0 ↔ (0 ≤ x ∧ x < bm) ∧ last < x ∧ x ∈ S := by
  have hS : hasI S x = true ↔ x ∈ S := by simp [hasI]
  rw [← hS]
  unfold fE
  cases h1 : withinB x 0 (bm - 1) <;> cases h2 : hasI S x <;> by_cases h3 : last < x <;> simp [firstE, unlessE, h3] <;> simp [withinB] at h1 <;> omega
theorem faultGo_zero {bm : Int} {S : List Int} : ∀ {bs : List Int} {last : Int}, faultGo bm S bs last = 0 ↔ bs.Pairwise (· < ·) ∧ ∀ x ∈ bs, (0 ≤ x ∧ x < bm) ∧ last < x ∧ x ∈ S
  | [], last => by simp [faultGo]
  | x :: bs, last => by
    rw [faultGo, List.pairwise_cons]
    by_cases h : fE bm S x last = 0
    · rw [if_pos h, faultGo_zero]
      have hx := fE_iff.1 h
      constructor
      · rintro ⟨h1, h2⟩
        refine ⟨⟨fun y hy => (h2 y hy).2.1, h1⟩, fun y hy => ?_⟩
        rcases List.mem_cons.1 hy with rfl | hy
        · exact hx
        · have := h2 y hy
          exact ⟨this.1, by omega, this.2.2⟩
      · rintro ⟨⟨h1, h2⟩, h3⟩
        exact ⟨h2, fun y hy => ⟨(h3 y (by simp [hy])).1, h1 y hy, (h3 y (by simp [hy])).2.2⟩⟩
    · rw [if_neg h]
      constructor
      · exact fun h0 => absurd h0 h
      · rintro ⟨_, h3⟩
        exact absurd (fE_iff.2 (h3 x (by simp))) h
theorem faults_zero {bm : Int} {l : List Rg} {S bs : List Int} : faultsM bm l S bs = 0 ↔ faultGo bm S bs (-1) = 0 ∧ exB l bs = true := by
  unfold faultsM exB
  by_cases h : faultGo bm S bs (-1) = 0
  · rw [if_pos h]
    cases l.any (missB bs) <;> simp [h]
  · rw [if_neg h]
    simp [h]
theorem exB_mono {l : List Rg} {T U : List Int} (h : ∀ t ∈ T, t ∈ U) (hT : exB l T = true) : exB l U = true := by
  rw [exB_iff] at hT ⊢
  intro r hr
  refine missB_of fun hw => ?_
  obtain ⟨t, ht, g⟩ := missB_no (hT r hr) hw
  exact ⟨t, h t ht, g⟩
theorem susp_go {l : List Rg} {bm : Nat} : faultGo bm (suspK l bm) (suspK l bm) (-1) = 0 := faultGo_zero.2 ⟨suspK_sorted l bm, fun x hx => by
  have := suspK_in x hx
  exact ⟨this, by omega, hx⟩⟩
/-- no set: all suspects leave a gap, and nothing is accepted -/
theorem explained_none {l : List Rg} {bm : Nat} (h : leastM l bm = none) : faultsM bm l (suspK l bm) (suspK l bm) = 14 ∧ ∀ bs, faultsM bm l (suspK l bm) bs ≠ 0 := by
  have hn := leastM_none bm h
  constructor
  · have := hn (suspK l bm) fun _ h => h
    unfold faultsM
    rw [if_pos susp_go]
    unfold exB at this
    rw [if_pos (by simpa using this)]
  · intro bs hb
    obtain ⟨h1, h2⟩ := faults_zero.1 hb
    rw [hn bs fun t ht => ((faultGo_zero.1 h1).2 t ht).2.2] at h2
    cases h2
/-- a least set: it is accepted, all suspects are, and nothing with fewer beams -/
theorem explained_some {l : List Rg} (hl : ∀ r ∈ l, 0 ≤ r.1 ∧ r.1 ≤ r.2.1) {bm : Nat} {T : List Int} (h : leastM l bm = some T) :
    faultsM bm l (suspK l bm) (suspK l bm) = 0 ∧ faultsM bm l (suspK l bm) T = 0 ∧ ∀ bs, faultsM bm l (suspK l bm) bs = 0 → T.length ≤ bs.length := by
  obtain ⟨h1, h2, h3⟩ := leastM_some hl bm h
  refine ⟨faults_zero.2 ⟨susp_go, exB_mono (fun t ht => h1.subset ht) h2⟩, faults_zero.2 ⟨faultGo_zero.2 ⟨(suspK_sorted l bm).sublist h1, fun x hx => ?_⟩, h2⟩, fun bs hb => ?_⟩
  · have hS := h1.subset hx
    have := suspK_in x hS
    exact ⟨this, by omega, hS⟩
  · obtain ⟨g1, g2⟩ := faults_zero.1 hb
    obtain ⟨g3, g4⟩ := faultGo_zero.1 g1
    exact h3 bs (sub_of_sorted _ _ (suspK_sorted l bm) g3 fun t ht => (g4 t ht).2.2) g2
theorem rdGo_ok {bm : Int} : ∀ {l : List Rg}, rdGo bm l = 0 → ∀ r ∈ l, 0 ≤ r.1 ∧ r.1 ≤ r.2.1
  | [], _, _, h => by simp at h
  | a :: l, h, r, hr => by
    rw [rdGo] at h
    split at h
    · rename_i h0
      rcases List.mem_cons.1 hr with rfl | hr
      · unfold rdE at h0
        split at h0
        · rename_i h1
          split at h0
          · rename_i h2
            simp [withinB] at h1
            omega
          · cases h0
        · cases h0
      · exact rdGo_ok h r hr
    · rename_i h0
      exact absurd h h0
theorem recM_ok {bm : Int} {l : List Rg} (h : recM bm l = 0) : ∀ r ∈ l, 0 ≤ r.1 ∧ r.1 ≤ r.2.1 := by
  unfold recM at h
  split at h
  · split at h
    · exact rdGo_ok h
    · cases h
  · cases h
end Go.Proofs.YtmcjnfghlpnghaaDoor

namespace Go.Proofs.YtmcjnfghlpnghaaDoor
open Go.RowKit

set_option maxRecDepth 100000 in
set_option maxHeartbeats 8000000 in
theorem CareFaults_all (w : World) (bm : Int) (A : Option Addr) (n c : Nat) (l : List Rg) (hk : KindsAt w) (hl : l.length = n) (hr : Rd w w.heap.size A (rgCells l)) :
    Calls Tryd.prog 17 #[.agg #[.int .i64 bm, .slice A n c]] w (AwakePost w) := by
  have hb0 : Below w.heap.size w (w.alloc (.cells #[.int .i64 bm, .slice A n c] 96)) := (Below.refl _ _).alloc (Nat.le_refl _) _
  replace hr := hr.below hb0
  have hs : w.heap.size ≤ (w.alloc (.cells #[.int .i64 bm, .slice A n c] 96)).heap.size := hb0.size
  have k0 : (w.alloc (.cells #[.int .i64 bm, .slice A n c] 96)).heap[w.heap.size]? = some (.cells #[.int .i64 bm, .slice A n c] 96 (0, 0)) := by rw [heapq_alloc, if_pos rfl]
  have a0 : (w.alloc (.cells #[.int .i64 bm, .slice A n c] 96)).cell? ⟨w.heap.size, 0, none⟩ = some (.int .i64 bm) := (cell_of_row _ _ 0 _ _ _ k0).trans rfl
  have a1 : (w.alloc (.cells #[.int .i64 bm, .slice A n c] 96)).cell? ⟨w.heap.size, 1, none⟩ = some (.slice A n c) := (cell_of_row _ _ 1 _ _ _ k0).trans rfl
  have A0 := awake_any _ (hk.below hb0)
  have HB := Lib.hid hb0
  have HL := Lib.hid hl
  clear hl hb0 k0 hk
  go_enter Tryd.func17, Tryd.ntmps17
  go_upto_region 1 with (fail)
  generalize (w.alloc (.cells #[.int .i64 bm, .slice A n c] 96)) = w0 at *
  go_wp2_with fail
  refine (A0).mono ?_
  rintro e w1 ⟨rfl, hb1⟩
  replace a0 := kept hb1 a0
  replace a1 := kept hb1 a1
  replace hr := hr.below (hb1.mono hs)
  replace HB := Lib.hid (HB.out.trans (hb1.mono hs))
  replace hs := Nat.le_trans hs hb1.size
  clear hb1
  clear A0
  cases hq : recordB n with
  | false =>
    have RB := record_any w1 bm A n c false hq
    clear hq
    go_wp2_with fail
    refine (RB).mono ?_
    rintro e w2 ⟨rfl, hb1⟩
    replace a0 := kept hb1 a0
    replace a1 := kept hb1 a1
    replace hr := hr.below (hb1.mono hs)
    replace HB := Lib.hid (HB.out.trans (hb1.mono hs))
    replace hs := Nat.le_trans hs hb1.size
    clear hb1
    go_wp2
    go_ret
    exact ⟨rfl, HB.out⟩
  | true =>
    have RB := record_any w1 bm A n c true hq
    have g1 : n ≤ 42 ∧ (n ≤ 40 → n ≤ 8) := by
      simp only [recordB, Bool.and_eq_true, Bool.or_eq_true, decide_eq_true_eq] at hq
      omega
    obtain ⟨g1, g2⟩ := g1
    clear hq
    by_cases h9 : (9 : Int) < bm
    · by_cases h40 : bm ≤ 40
      · clear g2
        go_wp2_with fail
        refine (RB).mono ?_
        rintro e w2 ⟨rfl, hb1⟩
        replace a0 := kept hb1 a0
        replace a1 := kept hb1 a1
        replace hr := hr.below (hb1.mono hs)
        replace HB := Lib.hid (HB.out.trans (hb1.mono hs))
        replace hs := Nat.le_trans hs hb1.size
        clear hb1
        go_wp2
        go_ret
        exact ⟨rfl, HB.out⟩
      · have hd : recM bm l ≠ 0 := fun h => by
          have := recM_zero h
          omega
        clear g2
        go_wp2_with fail
        refine (RB).mono ?_
        rintro e w2 ⟨rfl, hb1⟩
        replace a0 := kept hb1 a0
        replace a1 := kept hb1 a1
        replace hr := hr.below (hb1.mono hs)
        replace HB := Lib.hid (HB.out.trans (hb1.mono hs))
        replace hs := Nat.le_trans hs hb1.size
        clear hb1
        go_upto_region 5 with fail
        clear RB
        have LF := fun W B A1 c1 (h1 : Rd W B A1 (rgCells l)) (h3 : B ≤ W.heap.size) => LeastFaults_no W B bm A1 n c1 l HL.out h1 h3 (by omega) hd
        have RE := fun W B A1 c1 (h1 : Rd W B A1 (rgCells l)) (h3 : B ≤ W.heap.size) => RecordErr_any W B bm A1 n c1 l HL.out h1 h3
        unfold LeastOutPost at LF
        unfold ErrVal at RE
        have e1 : (recM bm l != 0) = true := bne_iff_ne.2 hd
        generalize recM bm l = er at *
        clear hd
        go_wp2_with fail
        refine (CopyRecord_any w2 w.heap.size _ A n c l HL.out (by omega) hr hs).mono ?_
        rintro e w3 ⟨A1, c1, rfl, hp1, hb1⟩
        replace a0 := kept hb1 a0
        replace a1 := kept hb1 a1
        replace hr := hr.below (hb1.mono hs)
        replace HB := Lib.hid (HB.out.trans (hb1.mono hs))
        replace hs := Nat.le_trans hs hb1.size
        clear hb1
        go_upto_region 6 with (go_at_call 86; refine (LF w3 w3.heap.size A1 c1 hp1 (Nat.le_refl _)).mono ?_; rintro e w4 ⟨v, rfl, rfl, hb1⟩)
        replace a0 := kept hb1 a0
        replace a1 := kept hb1 a1
        replace hr := hr.below (hb1.mono hs)
        replace hp1 := (hp1.below hb1).mono hb1.size
        replace HB := Lib.hid (HB.out.trans (hb1.mono hs))
        replace hs := Nat.le_trans hs hb1.size
        clear hb1
        clear hp1
        go_upto_region 7 with (go_at_call 65; refine (RE w4 w.heap.size A c hr hs).mono ?_; rintro e w5 ⟨rfl, hb1⟩)
        replace a0 := kept hb1 a0
        replace a1 := kept hb1 a1
        replace hr := hr.below (hb1.mono hs)
        replace HB := Lib.hid (HB.out.trans (hb1.mono hs))
        replace hs := Nat.le_trans hs hb1.size
        clear hb1
        go_wp2
        go_ret
        exact ⟨rfl, HB.out⟩
    · by_cases hd : recM bm l = 0
      · obtain ⟨r1, r2, r3⟩ := recM_zero hd
        have ok := recM_ok hd
        obtain ⟨bn, rfl⟩ := Int.eq_ofNat_of_zero_le (show 0 ≤ bm by omega)
        have hn40 : n ≤ 40 := by rw [← HL.out]; exact r3
        have hn8 : n ≤ 8 := g2 hn40
        have hbn : bn ≤ 12 := by omega
        obtain ⟨R, hR⟩ : ∃ R, leastM l bn = R := ⟨_, rfl⟩
        have hR2 : refLeast l (suspK l bn) = R := by rw [← least_eq ok bn]; exact hR
        have HD := Lib.hid hd
        clear r1 r2 r3 hd g2
        have LF := fun W B A1 c1 (h1 : Rd W B A1 (rgCells l)) (h3 : B ≤ W.heap.size) => LeastFaults_yes W B bn A1 n c1 l HL.out h1 h3 hn8 HD.out ok R hR
        have RL := fun W B A1 c1 (h1 : Rd W B A1 (rgCells l)) (h3 : B ≤ W.heap.size) => refLeast_any W B bn A1 n c1 l HL.out h1 h3 hn40 hbn R hR2
        have RE := fun W B A1 c1 (h1 : Rd W B A1 (rgCells l)) (h3 : B ≤ W.heap.size) => RecordErr_any W B bn A1 n c1 l HL.out h1 h3
        unfold ErrVal at RE
        simp only [HD.out] at RE
        go_wp2_with fail
        refine (RB).mono ?_
        rintro e w2 ⟨rfl, hb1⟩
        replace a0 := kept hb1 a0
        replace a1 := kept hb1 a1
        replace hr := hr.below (hb1.mono hs)
        replace HB := Lib.hid (HB.out.trans (hb1.mono hs))
        replace hs := Nat.le_trans hs hb1.size
        clear hb1
        go_upto_region 5 with fail
        clear RB
        cases R with
        | none =>
          clear hR hR2 ok
          unfold LeastOutPost at LF
          unfold RefLeastPost at RL
          go_wp2_with fail
          refine (CopyRecord_any w2 w.heap.size _ A n c l HL.out (by omega) hr hs).mono ?_
          rintro e w3 ⟨A1, c1, rfl, hp1, hb1⟩
          replace a0 := kept hb1 a0
          replace a1 := kept hb1 a1
          replace hr := hr.below (hb1.mono hs)
          replace HB := Lib.hid (HB.out.trans (hb1.mono hs))
          replace hs := Nat.le_trans hs hb1.size
          clear hb1
          go_upto_region 6 with (go_at_call 86; refine (LF w3 w3.heap.size A1 c1 hp1 (Nat.le_refl _)).mono ?_; rintro e w4 ⟨v, rfl, rfl, hb1⟩)
          replace a0 := kept hb1 a0
          replace a1 := kept hb1 a1
          replace hr := hr.below (hb1.mono hs)
          replace hp1 := (hp1.below hb1).mono hb1.size
          replace HB := Lib.hid (HB.out.trans (hb1.mono hs))
          replace hs := Nat.le_trans hs hb1.size
          clear hb1
          clear hp1
          go_upto_region 7 with (go_at_call 65; refine (RE w4 w.heap.size A c hr hs).mono ?_; rintro e w5 ⟨rfl, hb1⟩)
          replace a0 := kept hb1 a0
          replace a1 := kept hb1 a1
          replace hr := hr.below (hb1.mono hs)
          replace HB := Lib.hid (HB.out.trans (hb1.mono hs))
          replace hs := Nat.le_trans hs hb1.size
          clear hb1
          go_upto_region 10 with (go_at_call 87; refine (RL w5 w.heap.size A c hr hs).mono ?_; rintro e w6 ⟨v, rfl, rfl, hb1⟩)
          replace a0 := kept hb1 a0
          replace a1 := kept hb1 a1
          replace hr := hr.below (hb1.mono hs)
          replace HB := Lib.hid (HB.out.trans (hb1.mono hs))
          replace hs := Nat.le_trans hs hb1.size
          clear hb1
          go_wp2
          go_ret
          exact ⟨rfl, HB.out⟩
        | some T =>
          have hT9 : T.length ≤ 9 := by
            have h1 := (leastM_some ok bn hR).1.length_le
            have h2 := suspK_len l bn
            omega
          clear hR hR2 ok
          unfold LeastOutPost at LF
          unfold RefLeastPost at RL
          go_wp2_with fail
          refine (CopyRecord_any w2 w.heap.size _ A n c l HL.out (by omega) hr hs).mono ?_
          rintro e w3 ⟨A1, c1, rfl, hp1, hb1⟩
          replace a0 := kept hb1 a0
          replace a1 := kept hb1 a1
          replace hr := hr.below (hb1.mono hs)
          replace HB := Lib.hid (HB.out.trans (hb1.mono hs))
          replace hs := Nat.le_trans hs hb1.size
          clear hb1
          go_upto_region 6 with (go_at_call 86; refine (LF w3 w3.heap.size A1 c1 hp1 (Nat.le_refl _)).mono ?_; rintro e w4 ⟨v, rfl, ⟨A4, c4, rfl, hT4⟩, hb1⟩)
          replace a0 := kept hb1 a0
          replace a1 := kept hb1 a1
          replace hr := hr.below (hb1.mono hs)
          replace hp1 := (hp1.below hb1).mono hb1.size
          replace HB := Lib.hid (HB.out.trans (hb1.mono hs))
          replace hs := Nat.le_trans hs hb1.size
          clear hb1
          clear hp1
          go_upto_region 7 with (go_at_call 65; refine (RE w4 w.heap.size A c hr hs).mono ?_; rintro e w5 ⟨rfl, hb1⟩)
          replace a0 := kept hb1 a0
          replace a1 := kept hb1 a1
          replace hr := hr.below (hb1.mono hs)
          replace hT4 := (hT4.below hb1).mono hb1.size
          replace HB := Lib.hid (HB.out.trans (hb1.mono hs))
          replace hs := Nat.le_trans hs hb1.size
          clear hb1
          go_upto_region 10 with (go_at_call 87; refine (RL w5 w.heap.size A c hr hs).mono ?_; rintro e w6 ⟨v, rfl, ⟨A5, c5, rfl, hT5⟩, hb1⟩)
          replace a0 := kept hb1 a0
          replace a1 := kept hb1 a1
          replace hr := hr.below (hb1.mono hs)
          replace hT4 := (hT4.below hb1).mono hb1.size
          replace HB := Lib.hid (HB.out.trans (hb1.mono hs))
          replace hs := Nat.le_trans hs hb1.size
          clear hb1
          go_wp2_with (go_at_call 50; refine (Ints_same A4 A5 T.length c4 c5 w6.heap.size w6.heap.size T w6 (by omega) rfl hT4 hT5 (Nat.le_refl _) (Nat.le_refl _)).mono ?_; rintro e w7 ⟨rfl, hb1⟩)
          go_ret
          exact ⟨rfl, HB.out.trans (hb1.mono hs)⟩
      · clear g2
        go_wp2_with fail
        refine (RB).mono ?_
        rintro e w2 ⟨rfl, hb1⟩
        replace a0 := kept hb1 a0
        replace a1 := kept hb1 a1
        replace hr := hr.below (hb1.mono hs)
        replace HB := Lib.hid (HB.out.trans (hb1.mono hs))
        replace hs := Nat.le_trans hs hb1.size
        clear hb1
        go_upto_region 5 with fail
        clear RB
        have LF := fun W B A1 c1 (h1 : Rd W B A1 (rgCells l)) (h3 : B ≤ W.heap.size) => LeastFaults_no W B bm A1 n c1 l HL.out h1 h3 (by omega) hd
        have RE := fun W B A1 c1 (h1 : Rd W B A1 (rgCells l)) (h3 : B ≤ W.heap.size) => RecordErr_any W B bm A1 n c1 l HL.out h1 h3
        unfold LeastOutPost at LF
        unfold ErrVal at RE
        have e1 : (recM bm l != 0) = true := bne_iff_ne.2 hd
        generalize recM bm l = er at *
        clear hd
        go_wp2_with fail
        refine (CopyRecord_any w2 w.heap.size _ A n c l HL.out (by omega) hr hs).mono ?_
        rintro e w3 ⟨A1, c1, rfl, hp1, hb1⟩
        replace a0 := kept hb1 a0
        replace a1 := kept hb1 a1
        replace hr := hr.below (hb1.mono hs)
        replace HB := Lib.hid (HB.out.trans (hb1.mono hs))
        replace hs := Nat.le_trans hs hb1.size
        clear hb1
        go_upto_region 6 with (go_at_call 86; refine (LF w3 w3.heap.size A1 c1 hp1 (Nat.le_refl _)).mono ?_; rintro e w4 ⟨v, rfl, rfl, hb1⟩)
        replace a0 := kept hb1 a0
        replace a1 := kept hb1 a1
        replace hr := hr.below (hb1.mono hs)
        replace hp1 := (hp1.below hb1).mono hb1.size
        replace HB := Lib.hid (HB.out.trans (hb1.mono hs))
        replace hs := Nat.le_trans hs hb1.size
        clear hb1
        clear hp1
        go_upto_region 7 with (go_at_call 65; refine (RE w4 w.heap.size A c hr hs).mono ?_; rintro e w5 ⟨rfl, hb1⟩)
        replace a0 := kept hb1 a0
        replace a1 := kept hb1 a1
        replace hr := hr.below (hb1.mono hs)
        replace HB := Lib.hid (HB.out.trans (hb1.mono hs))
        replace hs := Nat.le_trans hs hb1.size
        clear hb1
        go_wp2
        go_ret
        exact ⟨rfl, HB.out⟩
end Go.Proofs.YtmcjnfghlpnghaaDoor

namespace Go.Proofs.YtmcjnfghlpnghaaDoor
open Go.RowKit

set_option maxRecDepth 100000 in
set_option maxHeartbeats 8000000 in
theorem CareExplained_all (w : World) (bm : Int) (A At : Option Addr) (n c nt ct : Nat) (l : List Rg) (bs : List Int) (hk : KindsAt w) (hl : l.length = n) (hlt : bs.length = nt) (hr : Rd w w.heap.size A (rgCells l)) (ht : Rd w w.heap.size At (intCells bs)) :
    Calls Tryd.prog 18 #[.agg #[.int .i64 bm, .slice A n c], .slice At nt ct] w (AwakePost w) := by
  have hb0 : Below w.heap.size w (w.alloc (.cells #[.int .i64 bm, .slice A n c] 96)) := (Below.refl _ _).alloc (Nat.le_refl _) _
  replace hr := hr.below hb0
  replace ht := ht.below hb0
  have hs : w.heap.size ≤ (w.alloc (.cells #[.int .i64 bm, .slice A n c] 96)).heap.size := hb0.size
  have k0 : (w.alloc (.cells #[.int .i64 bm, .slice A n c] 96)).heap[w.heap.size]? = some (.cells #[.int .i64 bm, .slice A n c] 96 (0, 0)) := by rw [heapq_alloc, if_pos rfl]
  have a0 : (w.alloc (.cells #[.int .i64 bm, .slice A n c] 96)).cell? ⟨w.heap.size, 0, none⟩ = some (.int .i64 bm) := (cell_of_row _ _ 0 _ _ _ k0).trans rfl
  have a1 : (w.alloc (.cells #[.int .i64 bm, .slice A n c] 96)).cell? ⟨w.heap.size, 1, none⟩ = some (.slice A n c) := (cell_of_row _ _ 1 _ _ _ k0).trans rfl
  have A0 := awake_any _ (hk.below hb0)
  have HB := Lib.hid hb0
  have HL := Lib.hid hl
  have HLT := Lib.hid hlt
  clear hl hb0 k0 hk hlt
  go_enter Tryd.func18, Tryd.ntmps18
  go_upto_region 1 with (fail)
  generalize (w.alloc (.cells #[.int .i64 bm, .slice A n c] 96)) = w0 at *
  go_wp2_with fail
  refine (A0).mono ?_
  rintro e w1 ⟨rfl, hb1⟩
  replace a0 := kept hb1 a0
  replace a1 := kept hb1 a1
  replace hr := hr.below (hb1.mono hs)
  replace ht := ht.below (hb1.mono hs)
  replace HB := Lib.hid (HB.out.trans (hb1.mono hs))
  replace hs := Nat.le_trans hs hb1.size
  clear hb1
  clear A0
  by_cases h8 : (8 : Int) < (n : Int)
  · go_wp2
    go_ret
    exact ⟨rfl, HB.out⟩
  · by_cases h10 : (10 : Int) < (nt : Int)
    · go_wp2
      go_ret
      exact ⟨rfl, HB.out⟩
    · have RE := fun W B A1 c1 (h1 : Rd W B A1 (rgCells l)) (h3 : B ≤ W.heap.size) => RecordErr_any W B bm A1 n c1 l HL.out h1 h3
      unfold ErrVal at RE
      by_cases hd : recM bm l = 0
      · obtain ⟨r1, r2, r3⟩ := recM_zero hd
        have ok := recM_ok hd
        obtain ⟨bn, rfl⟩ := Int.eq_ofNat_of_zero_le (show 0 ≤ bm by omega)
        have hn8 : n ≤ 8 := by omega
        have hbn : bn ≤ 40 := by omega
        obtain ⟨R, hR⟩ : ∃ R, leastM l bn = R := ⟨_, rfl⟩
        have HD := Lib.hid hd
        have hS40 : (suspK l bn).length ≤ 40 := Nat.le_trans (suspK_len l bn) hbn
        simp only [HD.out] at RE
        clear r1 r2 r3 hd
        have LF := fun W B A1 c1 (h1 : Rd W B A1 (rgCells l)) (h3 : B ≤ W.heap.size) => LeastFaults_yes W B bn A1 n c1 l HL.out h1 h3 hn8 HD.out ok R hR
        have SU := fun W B A1 c1 (h1 : Rd W B A1 (rgCells l)) (h3 : B ≤ W.heap.size) => Suspects_yes W B bn A1 n c1 l HL.out h1 h3 HD.out
        have CX := fun (ys : List Int) W B A1 A2 c1 n2 c2 (hy : ys.length = n2) (hn2 : n2 ≤ 1000000000) (h1 : Rd W B A1 (rgCells l)) (h2 : Rd W B A2 (intCells ys)) (h3 : B ≤ W.heap.size) (E : Int) (hE : faultsM bn l (suspK l bn) ys = E) => CheckFaults_yes W B bn A1 A2 n c1 n2 c2 l ys HL.out hy h1 h2 h3 hn2 HD.out E hE
        unfold LeastPost at CX
        cases R with
        | none =>
          obtain ⟨x1, x2⟩ := explained_none hR
          have CS := fun W B A1 A2 c1 c2 (h1 : Rd W B A1 (rgCells l)) (h2 : Rd W B A2 (intCells (suspK l bn))) (h3 : B ≤ W.heap.size) => CX _ W B A1 A2 c1 _ c2 rfl (by omega) h1 h2 h3 14 x1
          obtain ⟨E, hE⟩ : ∃ E, faultsM bn l (suspK l bn) bs = E := ⟨_, rfl⟩
          have hE0 : E ≠ 0 := by rw [← hE]; exact x2 bs
          have CF := fun W B A1 A2 c1 c2 (h1 : Rd W B A1 (rgCells l)) (h2 : Rd W B A2 (intCells bs)) (h3 : B ≤ W.heap.size) => CX _ W B A1 A2 c1 _ c2 HLT.out (by omega) h1 h2 h3 E hE
          have q1 : faultN (suspK l bn).length 14 = 0 := by rw [faultN, if_neg (by decide)]
          have q2 : faultN nt E = 0 := by rw [faultN, if_neg hE0]
          have e1 : (E != 0) = true := bne_iff_ne.2 hE0
          simp only [q1] at CS
          simp only [q2] at CF
          unfold LeastOutPost at LF
          generalize suspK l bn = S at *
          clear x1 x2 hE hE0 q1 q2 hR ok CX HD
          go_upto_region 5 with (go_at_call 65; refine (RE w1 w.heap.size A c hr hs).mono ?_; rintro e w2 ⟨rfl, hb1⟩)
          replace a0 := kept hb1 a0
          replace a1 := kept hb1 a1
          replace hr := hr.below (hb1.mono hs)
          replace ht := ht.below (hb1.mono hs)
          replace HB := Lib.hid (HB.out.trans (hb1.mono hs))
          replace hs := Nat.le_trans hs hb1.size
          clear hb1
          go_wp2_with fail
          refine (CopyRecord_any w2 w.heap.size _ A n c l HL.out (by omega) hr hs).mono ?_
          rintro e w3 ⟨A1, c1, rfl, hp1, hb1⟩
          replace a0 := kept hb1 a0
          replace a1 := kept hb1 a1
          replace hr := hr.below (hb1.mono hs)
          replace ht := ht.below (hb1.mono hs)
          replace HB := Lib.hid (HB.out.trans (hb1.mono hs))
          replace hs := Nat.le_trans hs hb1.size
          clear hb1
          go_upto_region 6 with (go_at_call 86; refine (LF w3 w3.heap.size A1 c1 hp1 (Nat.le_refl _)).mono ?_; rintro e w4 ⟨v, rfl, rfl, hb1⟩)
          replace a0 := kept hb1 a0
          replace a1 := kept hb1 a1
          replace hr := hr.below (hb1.mono hs)
          replace ht := ht.below (hb1.mono hs)
          replace hp1 := (hp1.below hb1).mono hb1.size
          replace HB := Lib.hid (HB.out.trans (hb1.mono hs))
          replace hs := Nat.le_trans hs hb1.size
          clear hb1
          clear hp1
          go_wp2_with fail
          refine (CopyRecord_any w4 w.heap.size _ A n c l HL.out (by omega) hr hs).mono ?_
          rintro e w5 ⟨A1, c1, rfl, hp1, hb1⟩
          replace a0 := kept hb1 a0
          replace a1 := kept hb1 a1
          replace hr := hr.below (hb1.mono hs)
          replace ht := ht.below (hb1.mono hs)
          replace HB := Lib.hid (HB.out.trans (hb1.mono hs))
          replace hs := Nat.le_trans hs hb1.size
          clear hb1
          go_upto_region 7 with (go_at_call 62; refine (SU w5 w5.heap.size A1 c1 hp1 (Nat.le_refl _)).mono ?_; rintro e w6 ⟨A6, c6, rfl, hL, hb1⟩)
          replace a0 := kept hb1 a0
          replace a1 := kept hb1 a1
          replace hr := hr.below (hb1.mono hs)
          replace ht := ht.below (hb1.mono hs)
          replace hp1 := (hp1.below hb1).mono hb1.size
          replace HB := Lib.hid (HB.out.trans (hb1.mono hs))
          replace hs := Nat.le_trans hs hb1.size
          clear hb1
          clear hp1
          go_wp2_with fail
          refine (CopyRecord_any w6 w.heap.size _ A n c l HL.out (by omega) hr hs).mono ?_
          rintro e w7 ⟨A1, c1, rfl, hp1, hb1⟩
          replace a0 := kept hb1 a0
          replace a1 := kept hb1 a1
          replace hr := hr.below (hb1.mono hs)
          replace ht := ht.below (hb1.mono hs)
          replace hL := (hL.below hb1).mono hb1.size
          replace HB := Lib.hid (HB.out.trans (hb1.mono hs))
          replace hs := Nat.le_trans hs hb1.size
          clear hb1
          go_wp2_with fail
          refine (CopyInts_any w7 w7.heap.size A6 S.length c6 S rfl (by omega) hL (Nat.le_refl _)).mono ?_
          rintro e w8 ⟨A3, c3, rfl, ht1, hb1⟩
          replace a0 := kept hb1 a0
          replace a1 := kept hb1 a1
          replace hr := hr.below (hb1.mono hs)
          replace ht := ht.below (hb1.mono hs)
          replace hL := (hL.below hb1).mono hb1.size
          replace hp1 := (hp1.below hb1).mono hb1.size
          replace HB := Lib.hid (HB.out.trans (hb1.mono hs))
          replace hs := Nat.le_trans hs hb1.size
          clear hb1
          go_upto_region 10 with (go_at_call 64; refine (CS w8 w8.heap.size A1 A3 c1 c3 hp1 ht1 (Nat.le_refl _)).mono ?_; rintro e w9 ⟨rfl, hb1⟩)
          replace a0 := kept hb1 a0
          replace a1 := kept hb1 a1
          replace hr := hr.below (hb1.mono hs)
          replace ht := ht.below (hb1.mono hs)
          replace hL := (hL.below hb1).mono hb1.size
          replace hp1 := (hp1.below hb1).mono hb1.size
          replace ht1 := (ht1.below hb1).mono hb1.size
          replace HB := Lib.hid (HB.out.trans (hb1.mono hs))
          replace hs := Nat.le_trans hs hb1.size
          clear hb1
          clear hp1 ht1
          go_wp2_with fail
          refine (CopyRecord_any w9 w.heap.size _ A n c l HL.out (by omega) hr hs).mono ?_
          rintro e w10 ⟨A1, c1, rfl, hp1, hb1⟩
          replace a0 := kept hb1 a0
          replace a1 := kept hb1 a1
          replace hr := hr.below (hb1.mono hs)
          replace ht := ht.below (hb1.mono hs)
          replace hL := (hL.below hb1).mono hb1.size
          replace HB := Lib.hid (HB.out.trans (hb1.mono hs))
          replace hs := Nat.le_trans hs hb1.size
          clear hb1
          go_wp2_with fail
          refine (CopyInts_any w10 w.heap.size At nt ct bs HLT.out (by omega) ht hs).mono ?_
          rintro e w11 ⟨A3, c3, rfl, ht1, hb1⟩
          replace a0 := kept hb1 a0
          replace a1 := kept hb1 a1
          replace hr := hr.below (hb1.mono hs)
          replace ht := ht.below (hb1.mono hs)
          replace hL := (hL.below hb1).mono hb1.size
          replace hp1 := (hp1.below hb1).mono hb1.size
          replace HB := Lib.hid (HB.out.trans (hb1.mono hs))
          replace hs := Nat.le_trans hs hb1.size
          clear hb1
          go_upto_region 11 with (go_at_call 64; refine (CF w11 w11.heap.size A1 A3 c1 c3 hp1 ht1 (Nat.le_refl _)).mono ?_; rintro e w12 ⟨rfl, hb1⟩)
          replace a0 := kept hb1 a0
          replace a1 := kept hb1 a1
          replace hr := hr.below (hb1.mono hs)
          replace ht := ht.below (hb1.mono hs)
          replace hL := (hL.below hb1).mono hb1.size
          replace hp1 := (hp1.below hb1).mono hb1.size
          replace ht1 := (ht1.below hb1).mono hb1.size
          replace HB := Lib.hid (HB.out.trans (hb1.mono hs))
          replace hs := Nat.le_trans hs hb1.size
          clear hb1
          clear hp1 ht1
          go_wp2
          go_ret
          exact ⟨rfl, HB.out⟩
        | some T =>
          obtain ⟨x1, x2, x3⟩ := explained_some ok hR
          have hT40 : T.length ≤ 40 := by
            have h1 := (leastM_some ok bn hR).1.length_le
            omega
          have CS := fun W B A1 A2 c1 c2 (h1 : Rd W B A1 (rgCells l)) (h2 : Rd W B A2 (intCells (suspK l bn))) (h3 : B ≤ W.heap.size) => CX _ W B A1 A2 c1 _ c2 rfl (by omega) h1 h2 h3 0 x1
          have CT := fun W B A1 A2 c1 c2 (h1 : Rd W B A1 (rgCells l)) (h2 : Rd W B A2 (intCells T)) (h3 : B ≤ W.heap.size) => CX _ W B A1 A2 c1 _ c2 rfl (by omega) h1 h2 h3 0 x2
          obtain ⟨E, hE⟩ : ∃ E, faultsM bn l (suspK l bn) bs = E := ⟨_, rfl⟩
          have CF := fun W B A1 A2 c1 c2 (h1 : Rd W B A1 (rgCells l)) (h2 : Rd W B A2 (intCells bs)) (h3 : B ≤ W.heap.size) => CX _ W B A1 A2 c1 _ c2 HLT.out (by omega) h1 h2 h3 E hE
          have q1 : faultN (suspK l bn).length 0 = (suspK l bn).length := by rw [faultN, if_pos rfl]
          have q3 : faultN T.length 0 = T.length := by rw [faultN, if_pos rfl]
          have x4 : E = 0 → (T.length : Int) ≤ (nt : Int) := fun h0 => by
            have := x3 bs (hE.trans h0)
            rw [HLT.out] at this
            omega
          simp only [q1] at CS
          simp only [q3] at CT
          unfold LeastOutPost at LF
          generalize suspK l bn = S at *
          clear x1 x2 x3 hE q1 q3 hR ok CX HD
          by_cases hE0 : E = 0
          · have hge := x4 hE0
            have q2 : faultN nt E = nt := by rw [faultN, if_pos hE0]
            simp only [q2] at CF
            simp only [hE0] at CF
            clear x4 hE0 q2
            go_upto_region 5 with (go_at_call 65; refine (RE w1 w.heap.size A c hr hs).mono ?_; rintro e w2 ⟨rfl, hb1⟩)
            replace a0 := kept hb1 a0
            replace a1 := kept hb1 a1
            replace hr := hr.below (hb1.mono hs)
            replace ht := ht.below (hb1.mono hs)
            replace HB := Lib.hid (HB.out.trans (hb1.mono hs))
            replace hs := Nat.le_trans hs hb1.size
            clear hb1
            go_wp2_with fail
            refine (CopyRecord_any w2 w.heap.size _ A n c l HL.out (by omega) hr hs).mono ?_
            rintro e w3 ⟨A1, c1, rfl, hp1, hb1⟩
            replace a0 := kept hb1 a0
            replace a1 := kept hb1 a1
            replace hr := hr.below (hb1.mono hs)
            replace ht := ht.below (hb1.mono hs)
            replace HB := Lib.hid (HB.out.trans (hb1.mono hs))
            replace hs := Nat.le_trans hs hb1.size
            clear hb1
            go_upto_region 6 with (go_at_call 86; refine (LF w3 w3.heap.size A1 c1 hp1 (Nat.le_refl _)).mono ?_; rintro e w4 ⟨v, rfl, ⟨A4, c4, rfl, hT4⟩, hb1⟩)
            replace a0 := kept hb1 a0
            replace a1 := kept hb1 a1
            replace hr := hr.below (hb1.mono hs)
            replace ht := ht.below (hb1.mono hs)
            replace hp1 := (hp1.below hb1).mono hb1.size
            replace HB := Lib.hid (HB.out.trans (hb1.mono hs))
            replace hs := Nat.le_trans hs hb1.size
            clear hb1
            clear hp1
            go_wp2_with fail
            refine (CopyRecord_any w4 w.heap.size _ A n c l HL.out (by omega) hr hs).mono ?_
            rintro e w5 ⟨A1, c1, rfl, hp1, hb1⟩
            replace a0 := kept hb1 a0
            replace a1 := kept hb1 a1
            replace hr := hr.below (hb1.mono hs)
            replace ht := ht.below (hb1.mono hs)
            replace hT4 := (hT4.below hb1).mono hb1.size
            replace HB := Lib.hid (HB.out.trans (hb1.mono hs))
            replace hs := Nat.le_trans hs hb1.size
            clear hb1
            go_upto_region 7 with (go_at_call 62; refine (SU w5 w5.heap.size A1 c1 hp1 (Nat.le_refl _)).mono ?_; rintro e w6 ⟨A6, c6, rfl, hL, hb1⟩)
            replace a0 := kept hb1 a0
            replace a1 := kept hb1 a1
            replace hr := hr.below (hb1.mono hs)
            replace ht := ht.below (hb1.mono hs)
            replace hT4 := (hT4.below hb1).mono hb1.size
            replace hp1 := (hp1.below hb1).mono hb1.size
            replace HB := Lib.hid (HB.out.trans (hb1.mono hs))
            replace hs := Nat.le_trans hs hb1.size
            clear hb1
            clear hp1
            go_wp2_with fail
            refine (CopyRecord_any w6 w.heap.size _ A n c l HL.out (by omega) hr hs).mono ?_
            rintro e w7 ⟨A1, c1, rfl, hp1, hb1⟩
            replace a0 := kept hb1 a0
            replace a1 := kept hb1 a1
            replace hr := hr.below (hb1.mono hs)
            replace ht := ht.below (hb1.mono hs)
            replace hT4 := (hT4.below hb1).mono hb1.size
            replace hL := (hL.below hb1).mono hb1.size
            replace HB := Lib.hid (HB.out.trans (hb1.mono hs))
            replace hs := Nat.le_trans hs hb1.size
            clear hb1
            go_wp2_with fail
            refine (CopyInts_any w7 w7.heap.size A6 S.length c6 S rfl (by omega) hL (Nat.le_refl _)).mono ?_
            rintro e w8 ⟨A3, c3, rfl, ht1, hb1⟩
            replace a0 := kept hb1 a0
            replace a1 := kept hb1 a1
            replace hr := hr.below (hb1.mono hs)
            replace ht := ht.below (hb1.mono hs)
            replace hT4 := (hT4.below hb1).mono hb1.size
            replace hL := (hL.below hb1).mono hb1.size
            replace hp1 := (hp1.below hb1).mono hb1.size
            replace HB := Lib.hid (HB.out.trans (hb1.mono hs))
            replace hs := Nat.le_trans hs hb1.size
            clear hb1
            go_upto_region 10 with (go_at_call 64; refine (CS w8 w8.heap.size A1 A3 c1 c3 hp1 ht1 (Nat.le_refl _)).mono ?_; rintro e w9 ⟨rfl, hb1⟩)
            replace a0 := kept hb1 a0
            replace a1 := kept hb1 a1
            replace hr := hr.below (hb1.mono hs)
            replace ht := ht.below (hb1.mono hs)
            replace hT4 := (hT4.below hb1).mono hb1.size
            replace hL := (hL.below hb1).mono hb1.size
            replace hp1 := (hp1.below hb1).mono hb1.size
            replace ht1 := (ht1.below hb1).mono hb1.size
            replace HB := Lib.hid (HB.out.trans (hb1.mono hs))
            replace hs := Nat.le_trans hs hb1.size
            clear hb1
            clear hp1 ht1
            go_wp2_with fail
            refine (CopyRecord_any w9 w.heap.size _ A n c l HL.out (by omega) hr hs).mono ?_
            rintro e w10 ⟨A1, c1, rfl, hp1, hb1⟩
            replace a0 := kept hb1 a0
            replace a1 := kept hb1 a1
            replace hr := hr.below (hb1.mono hs)
            replace ht := ht.below (hb1.mono hs)
            replace hT4 := (hT4.below hb1).mono hb1.size
            replace hL := (hL.below hb1).mono hb1.size
            replace HB := Lib.hid (HB.out.trans (hb1.mono hs))
            replace hs := Nat.le_trans hs hb1.size
            clear hb1
            go_wp2_with fail
            refine (CopyInts_any w10 w.heap.size At nt ct bs HLT.out (by omega) ht hs).mono ?_
            rintro e w11 ⟨A3, c3, rfl, ht1, hb1⟩
            replace a0 := kept hb1 a0
            replace a1 := kept hb1 a1
            replace hr := hr.below (hb1.mono hs)
            replace ht := ht.below (hb1.mono hs)
            replace hT4 := (hT4.below hb1).mono hb1.size
            replace hL := (hL.below hb1).mono hb1.size
            replace hp1 := (hp1.below hb1).mono hb1.size
            replace HB := Lib.hid (HB.out.trans (hb1.mono hs))
            replace hs := Nat.le_trans hs hb1.size
            clear hb1
            go_upto_region 11 with (go_at_call 64; refine (CF w11 w11.heap.size A1 A3 c1 c3 hp1 ht1 (Nat.le_refl _)).mono ?_; rintro e w12 ⟨rfl, hb1⟩)
            replace a0 := kept hb1 a0
            replace a1 := kept hb1 a1
            replace hr := hr.below (hb1.mono hs)
            replace ht := ht.below (hb1.mono hs)
            replace hT4 := (hT4.below hb1).mono hb1.size
            replace hL := (hL.below hb1).mono hb1.size
            replace hp1 := (hp1.below hb1).mono hb1.size
            replace ht1 := (ht1.below hb1).mono hb1.size
            replace HB := Lib.hid (HB.out.trans (hb1.mono hs))
            replace hs := Nat.le_trans hs hb1.size
            clear hb1
            clear hp1 ht1
            go_wp2_with fail
            refine (CopyRecord_any w12 w.heap.size _ A n c l HL.out (by omega) hr hs).mono ?_
            rintro e w13 ⟨A1, c1, rfl, hp1, hb1⟩
            replace a0 := kept hb1 a0
            replace a1 := kept hb1 a1
            replace hr := hr.below (hb1.mono hs)
            replace ht := ht.below (hb1.mono hs)
            replace hT4 := (hT4.below hb1).mono hb1.size
            replace hL := (hL.below hb1).mono hb1.size
            replace HB := Lib.hid (HB.out.trans (hb1.mono hs))
            replace hs := Nat.le_trans hs hb1.size
            clear hb1
            go_wp2_with fail
            refine (CopyInts_any w13 w13.heap.size A4 T.length c4 T rfl (by omega) hT4 (Nat.le_refl _)).mono ?_
            rintro e w14 ⟨A3, c3, rfl, ht1, hb1⟩
            replace a0 := kept hb1 a0
            replace a1 := kept hb1 a1
            replace hr := hr.below (hb1.mono hs)
            replace ht := ht.below (hb1.mono hs)
            replace hT4 := (hT4.below hb1).mono hb1.size
            replace hL := (hL.below hb1).mono hb1.size
            replace hp1 := (hp1.below hb1).mono hb1.size
            replace HB := Lib.hid (HB.out.trans (hb1.mono hs))
            replace hs := Nat.le_trans hs hb1.size
            clear hb1
            go_upto_region 14 with (go_at_call 64; refine (CT w14 w14.heap.size A1 A3 c1 c3 hp1 ht1 (Nat.le_refl _)).mono ?_; rintro e w15 ⟨rfl, hb1⟩)
            replace a0 := kept hb1 a0
            replace a1 := kept hb1 a1
            replace hr := hr.below (hb1.mono hs)
            replace ht := ht.below (hb1.mono hs)
            replace hT4 := (hT4.below hb1).mono hb1.size
            replace hL := (hL.below hb1).mono hb1.size
            replace hp1 := (hp1.below hb1).mono hb1.size
            replace ht1 := (ht1.below hb1).mono hb1.size
            replace HB := Lib.hid (HB.out.trans (hb1.mono hs))
            replace hs := Nat.le_trans hs hb1.size
            clear hb1
            clear hp1 ht1
            go_wp2
            go_ret
            exact ⟨rfl, HB.out⟩
          · have q2 : faultN nt E = 0 := by rw [faultN, if_neg hE0]
            have e1 : (E != 0) = true := bne_iff_ne.2 hE0
            simp only [q2] at CF
            clear x4 hE0 q2
            go_upto_region 5 with (go_at_call 65; refine (RE w1 w.heap.size A c hr hs).mono ?_; rintro e w2 ⟨rfl, hb1⟩)
            replace a0 := kept hb1 a0
            replace a1 := kept hb1 a1
            replace hr := hr.below (hb1.mono hs)
            replace ht := ht.below (hb1.mono hs)
            replace HB := Lib.hid (HB.out.trans (hb1.mono hs))
            replace hs := Nat.le_trans hs hb1.size
            clear hb1
            go_wp2_with fail
            refine (CopyRecord_any w2 w.heap.size _ A n c l HL.out (by omega) hr hs).mono ?_
            rintro e w3 ⟨A1, c1, rfl, hp1, hb1⟩
            replace a0 := kept hb1 a0
            replace a1 := kept hb1 a1
            replace hr := hr.below (hb1.mono hs)
            replace ht := ht.below (hb1.mono hs)
            replace HB := Lib.hid (HB.out.trans (hb1.mono hs))
            replace hs := Nat.le_trans hs hb1.size
            clear hb1
            go_upto_region 6 with (go_at_call 86; refine (LF w3 w3.heap.size A1 c1 hp1 (Nat.le_refl _)).mono ?_; rintro e w4 ⟨v, rfl, ⟨A4, c4, rfl, hT4⟩, hb1⟩)
            replace a0 := kept hb1 a0
            replace a1 := kept hb1 a1
            replace hr := hr.below (hb1.mono hs)
            replace ht := ht.below (hb1.mono hs)
            replace hp1 := (hp1.below hb1).mono hb1.size
            replace HB := Lib.hid (HB.out.trans (hb1.mono hs))
            replace hs := Nat.le_trans hs hb1.size
            clear hb1
            clear hp1
            go_wp2_with fail
            refine (CopyRecord_any w4 w.heap.size _ A n c l HL.out (by omega) hr hs).mono ?_
            rintro e w5 ⟨A1, c1, rfl, hp1, hb1⟩
            replace a0 := kept hb1 a0
            replace a1 := kept hb1 a1
            replace hr := hr.below (hb1.mono hs)
            replace ht := ht.below (hb1.mono hs)
            replace hT4 := (hT4.below hb1).mono hb1.size
            replace HB := Lib.hid (HB.out.trans (hb1.mono hs))
            replace hs := Nat.le_trans hs hb1.size
            clear hb1
            go_upto_region 7 with (go_at_call 62; refine (SU w5 w5.heap.size A1 c1 hp1 (Nat.le_refl _)).mono ?_; rintro e w6 ⟨A6, c6, rfl, hL, hb1⟩)
            replace a0 := kept hb1 a0
            replace a1 := kept hb1 a1
            replace hr := hr.below (hb1.mono hs)
            replace ht := ht.below (hb1.mono hs)
            replace hT4 := (hT4.below hb1).mono hb1.size
            replace hp1 := (hp1.below hb1).mono hb1.size
            replace HB := Lib.hid (HB.out.trans (hb1.mono hs))
            replace hs := Nat.le_trans hs hb1.size
            clear hb1
            clear hp1
            go_wp2_with fail
            refine (CopyRecord_any w6 w.heap.size _ A n c l HL.out (by omega) hr hs).mono ?_
            rintro e w7 ⟨A1, c1, rfl, hp1, hb1⟩
            replace a0 := kept hb1 a0
            replace a1 := kept hb1 a1
            replace hr := hr.below (hb1.mono hs)
            replace ht := ht.below (hb1.mono hs)
            replace hT4 := (hT4.below hb1).mono hb1.size
            replace hL := (hL.below hb1).mono hb1.size
            replace HB := Lib.hid (HB.out.trans (hb1.mono hs))
            replace hs := Nat.le_trans hs hb1.size
            clear hb1
            go_wp2_with fail
            refine (CopyInts_any w7 w7.heap.size A6 S.length c6 S rfl (by omega) hL (Nat.le_refl _)).mono ?_
            rintro e w8 ⟨A3, c3, rfl, ht1, hb1⟩
            replace a0 := kept hb1 a0
            replace a1 := kept hb1 a1
            replace hr := hr.below (hb1.mono hs)
            replace ht := ht.below (hb1.mono hs)
            replace hT4 := (hT4.below hb1).mono hb1.size
            replace hL := (hL.below hb1).mono hb1.size
            replace hp1 := (hp1.below hb1).mono hb1.size
            replace HB := Lib.hid (HB.out.trans (hb1.mono hs))
            replace hs := Nat.le_trans hs hb1.size
            clear hb1
            go_upto_region 10 with (go_at_call 64; refine (CS w8 w8.heap.size A1 A3 c1 c3 hp1 ht1 (Nat.le_refl _)).mono ?_; rintro e w9 ⟨rfl, hb1⟩)
            replace a0 := kept hb1 a0
            replace a1 := kept hb1 a1
            replace hr := hr.below (hb1.mono hs)
            replace ht := ht.below (hb1.mono hs)
            replace hT4 := (hT4.below hb1).mono hb1.size
            replace hL := (hL.below hb1).mono hb1.size
            replace hp1 := (hp1.below hb1).mono hb1.size
            replace ht1 := (ht1.below hb1).mono hb1.size
            replace HB := Lib.hid (HB.out.trans (hb1.mono hs))
            replace hs := Nat.le_trans hs hb1.size
            clear hb1
            clear hp1 ht1
            go_wp2_with fail
            refine (CopyRecord_any w9 w.heap.size _ A n c l HL.out (by omega) hr hs).mono ?_
            rintro e w10 ⟨A1, c1, rfl, hp1, hb1⟩
            replace a0 := kept hb1 a0
            replace a1 := kept hb1 a1
            replace hr := hr.below (hb1.mono hs)
            replace ht := ht.below (hb1.mono hs)
            replace hT4 := (hT4.below hb1).mono hb1.size
            replace hL := (hL.below hb1).mono hb1.size
            replace HB := Lib.hid (HB.out.trans (hb1.mono hs))
            replace hs := Nat.le_trans hs hb1.size
            clear hb1
            go_wp2_with fail
            refine (CopyInts_any w10 w.heap.size At nt ct bs HLT.out (by omega) ht hs).mono ?_
            rintro e w11 ⟨A3, c3, rfl, ht1, hb1⟩
            replace a0 := kept hb1 a0
            replace a1 := kept hb1 a1
            replace hr := hr.below (hb1.mono hs)
            replace ht := ht.below (hb1.mono hs)
            replace hT4 := (hT4.below hb1).mono hb1.size
            replace hL := (hL.below hb1).mono hb1.size
            replace hp1 := (hp1.below hb1).mono hb1.size
            replace HB := Lib.hid (HB.out.trans (hb1.mono hs))
            replace hs := Nat.le_trans hs hb1.size
            clear hb1
            go_upto_region 11 with (go_at_call 64; refine (CF w11 w11.heap.size A1 A3 c1 c3 hp1 ht1 (Nat.le_refl _)).mono ?_; rintro e w12 ⟨rfl, hb1⟩)
            replace a0 := kept hb1 a0
            replace a1 := kept hb1 a1
            replace hr := hr.below (hb1.mono hs)
            replace ht := ht.below (hb1.mono hs)
            replace hT4 := (hT4.below hb1).mono hb1.size
            replace hL := (hL.below hb1).mono hb1.size
            replace hp1 := (hp1.below hb1).mono hb1.size
            replace ht1 := (ht1.below hb1).mono hb1.size
            replace HB := Lib.hid (HB.out.trans (hb1.mono hs))
            replace hs := Nat.le_trans hs hb1.size
            clear hb1
            clear hp1 ht1
            go_wp2_with fail
            refine (CopyRecord_any w12 w.heap.size _ A n c l HL.out (by omega) hr hs).mono ?_
            rintro e w13 ⟨A1, c1, rfl, hp1, hb1⟩
            replace a0 := kept hb1 a0
            replace a1 := kept hb1 a1
            replace hr := hr.below (hb1.mono hs)
            replace ht := ht.below (hb1.mono hs)
            replace hT4 := (hT4.below hb1).mono hb1.size
            replace hL := (hL.below hb1).mono hb1.size
            replace HB := Lib.hid (HB.out.trans (hb1.mono hs))
            replace hs := Nat.le_trans hs hb1.size
            clear hb1
            go_wp2_with fail
            refine (CopyInts_any w13 w13.heap.size A4 T.length c4 T rfl (by omega) hT4 (Nat.le_refl _)).mono ?_
            rintro e w14 ⟨A3, c3, rfl, ht1, hb1⟩
            replace a0 := kept hb1 a0
            replace a1 := kept hb1 a1
            replace hr := hr.below (hb1.mono hs)
            replace ht := ht.below (hb1.mono hs)
            replace hT4 := (hT4.below hb1).mono hb1.size
            replace hL := (hL.below hb1).mono hb1.size
            replace hp1 := (hp1.below hb1).mono hb1.size
            replace HB := Lib.hid (HB.out.trans (hb1.mono hs))
            replace hs := Nat.le_trans hs hb1.size
            clear hb1
            go_upto_region 14 with (go_at_call 64; refine (CT w14 w14.heap.size A1 A3 c1 c3 hp1 ht1 (Nat.le_refl _)).mono ?_; rintro e w15 ⟨rfl, hb1⟩)
            replace a0 := kept hb1 a0
            replace a1 := kept hb1 a1
            replace hr := hr.below (hb1.mono hs)
            replace ht := ht.below (hb1.mono hs)
            replace hT4 := (hT4.below hb1).mono hb1.size
            replace hL := (hL.below hb1).mono hb1.size
            replace hp1 := (hp1.below hb1).mono hb1.size
            replace ht1 := (ht1.below hb1).mono hb1.size
            replace HB := Lib.hid (HB.out.trans (hb1.mono hs))
            replace hs := Nat.le_trans hs hb1.size
            clear hb1
            clear hp1 ht1
            go_wp2
            go_ret
            exact ⟨rfl, HB.out⟩
      · have e1 : (recM bm l != 0) = true := bne_iff_ne.2 hd
        generalize recM bm l = er at *
        clear hd
        go_wp2_with (go_at_call 65; refine (RE w1 w.heap.size A c hr hs).mono ?_; rintro e w2 ⟨rfl, hb1⟩)
        go_ret
        exact ⟨rfl, HB.out.trans (hb1.mono hs)⟩
end Go.Proofs.YtmcjnfghlpnghaaDoor
