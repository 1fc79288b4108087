/- The least beams: the greedy choice by ends is least, beam by beam the first one: plain. -/
import Derived.Test.YtlbgocgocanloaaGreatDoorf5K0
import Derived.Test.YtlbgocgocanloaaGreatDoorf5Z8
namespace Go.Proofs.YtlbgocgocanloaaGreatDoor
/-- the last one of some beams that a reading went over -/
def endGo (f t : Int) : Int → List Int → Int
  | e, [] => e
  | e, n :: ns => endGo f t (if withinB n f t = true then n else e) ns
/-- how many beams explain readings, one by one -/
def fewGo (S : List Int) : Nat → Int → List Rg → Option Nat
  | c, _, [] => some c
  | c, last, r :: rs =>
    if r.2.2 = false ∨ r.1 ≤ last then fewGo S c last rs
    else if endGo r.1 r.2.1 (-1) S < 0 then none
    else fewGo S (c + 1) (endGo r.1 r.2.1 (-1) S) rs
/-- the readings by their ends -/
def byEnd (l : List Rg) : List Rg := l.mergeSort fun a b => decide (a.2.1 ≤ b.2.1)
def fewM (S : List Int) (l : List Rg) : Option Nat := fewGo S 0 (-1) (byEnd l)
theorem withinB_iff {n a b : Int} : withinB n a b = true ↔ a ≤ n ∧ n ≤ b := by simp [withinB]
theorem endGo_spec (f t : Int) : ∀ (S : List Int) (e : Int), S.Pairwise (· < ·) →
    (endGo f t e S = e ∧ ∀ n ∈ S, withinB n f t = false) ∨ (endGo f t e S ∈ S ∧ withinB (endGo f t e S) f t = true ∧ ∀ n ∈ S, withinB n f t = true → n ≤ endGo f t e S)
  | [], e, _ => .inl ⟨rfl, fun _ h => by simp at h⟩
  | n :: S, e, h => by
    rw [List.pairwise_cons] at h
    rw [endGo]
    rcases endGo_spec f t S (if withinB n f t = true then n else e) h.2 with ⟨h1, h2⟩ | ⟨h1, h2, h3⟩
    · by_cases hn : withinB n f t = true
      · rw [if_pos hn] at h1 ⊢
        refine .inr ⟨by rw [h1]; simp, by rw [h1]; exact hn, fun m hm hw => ?_⟩
        rcases List.mem_cons.1 hm with rfl | hm
        · rw [h1]
          exact Int.le_refl _
        · rw [h2 m hm] at hw
          cases hw
      · rw [if_neg hn] at h1 ⊢
        refine .inl ⟨h1, fun m hm => ?_⟩
        rcases List.mem_cons.1 hm with rfl | hm
        · simpa using hn
        · exact h2 m hm
    · refine .inr ⟨by simp [h1], h2, fun m hm hw => ?_⟩
      rcases List.mem_cons.1 hm with rfl | hm
      · have := h.1 _ h1
        omega
      · exact h3 m hm hw
theorem missB_no {T : List Int} {r : Rg} (h : missB T r = false) (hw : r.2.2 = true) : ∃ t ∈ T, r.1 ≤ t ∧ t ≤ r.2.1 := by
  simp only [missB, hw, Bool.true_and, Bool.not_eq_false', List.any_eq_true] at h
  obtain ⟨t, ht, h⟩ := h
  exact ⟨t, ht, withinB_iff.1 h⟩
theorem missB_of {T : List Int} {r : Rg} (h : r.2.2 = true → ∃ t ∈ T, r.1 ≤ t ∧ t ≤ r.2.1) : missB T r = false := by
  cases hw : r.2.2 with
  | false => simp [missB, hw]
  | true =>
    obtain ⟨t, ht, h⟩ := h hw
    simp only [missB, hw, Bool.true_and, Bool.not_eq_false', List.any_eq_true]
    exact ⟨t, ht, withinB_iff.2 h⟩
theorem few_lower {S : List Int} (hS : S.Pairwise (· < ·)) (h0 : ∀ s ∈ S, 0 ≤ s) {T : List Int} (hT : ∀ t ∈ T, t ∈ S) : ∀ (l : List Rg) (c : Nat) (last : Int), (∀ r ∈ l, missB T r = false) →
    ∃ k, fewGo S c last l = some k ∧ k ≤ c + T.countP (fun t => decide (last < t))
  | [], c, last, _ => ⟨c, rfl, by omega⟩
  | r :: l, c, last, h => by
    have hl : ∀ q ∈ l, missB T q = false := fun q hq => h q (by simp [hq])
    by_cases hc : r.2.2 = false ∨ r.1 ≤ last
    · obtain ⟨k, h1, h2⟩ := few_lower hS h0 hT l c last hl
      exact ⟨k, by rw [fewGo, if_pos hc]; exact h1, h2⟩
    · have hw : r.2.2 = true := by
        cases hw : r.2.2 with
        | false => exact absurd (.inl hw) hc
        | true => rfl
      have hlt : last < r.1 := by
        by_cases hx : r.1 ≤ last
        · exact absurd (.inr hx) hc
        · omega
      obtain ⟨t, ht, ht1, ht2⟩ := missB_no (h r (by simp)) hw
      rcases endGo_spec r.1 r.2.1 S (-1) hS with ⟨_, h2⟩ | ⟨h1, h2, h3⟩
      · have := h2 t (hT t ht)
        rw [withinB_iff.2 ⟨ht1, ht2⟩] at this
        cases this
      · have hte := h3 t (hT t ht) (withinB_iff.2 ⟨ht1, ht2⟩)
        have he0 := h0 _ h1
        obtain ⟨k, g1, g2⟩ := few_lower hS h0 hT l (c + 1) (endGo r.1 r.2.1 (-1) S) hl
        refine ⟨k, by rw [fewGo, if_neg hc, if_neg (by omega)]; exact g1, ?_⟩
        have hcount : T.countP (fun x => decide (endGo r.1 r.2.1 (-1) S < x)) + 1 ≤ T.countP (fun x => decide (last < x)) := by
          obtain ⟨A, B, rfl⟩ := List.append_of_mem ht
          generalize endGo r.1 r.2.1 (-1) S = en at *
          have mono : ∀ X : List Int, X.countP (fun x => decide (en < x)) ≤ X.countP (fun x => decide (last < x)) := fun X => List.countP_mono_left (fun x _ hx => by simp at *; omega)
          have ha := mono A
          have hb := mono B
          simp only [List.countP_append, List.countP_cons]
          rw [if_neg (by simp; omega), if_pos (by simp; omega)]
          omega
        omega
theorem few_upper {S : List Int} (hS : S.Pairwise (· < ·)) : ∀ (l : List Rg) (c k : Nat) (last : Int), l.Pairwise (fun a b => a.2.1 ≤ b.2.1) → (∀ r ∈ l, last ≤ r.2.1) → fewGo S c last l = some k →
    ∃ T : List Int, T.Pairwise (· < ·) ∧ (∀ t ∈ T, t ∈ S ∧ last < t) ∧ c + T.length = k ∧ ∀ r ∈ l, r.2.2 = true → (r.1 ≤ last ∧ last ≤ r.2.1) ∨ ∃ t ∈ T, r.1 ≤ t ∧ t ≤ r.2.1
  | [], c, k, last, _, _, h => ⟨[], .nil, fun _ h => by simp at h, by simpa [fewGo] using h, fun _ h => by simp at h⟩
  | r :: l, c, k, last, hs, hb, h => by
    rw [List.pairwise_cons] at hs
    rw [fewGo] at h
    by_cases hc : r.2.2 = false ∨ r.1 ≤ last
    · rw [if_pos hc] at h
      obtain ⟨T, h1, h2, h3, h4⟩ := few_upper hS l c k last hs.2 (fun q hq => hb q (by simp [hq])) h
      refine ⟨T, h1, h2, h3, fun q hq hw => ?_⟩
      rcases List.mem_cons.1 hq with rfl | hq
      · rcases hc with hc | hc
        · rw [hw] at hc
          cases hc
        · exact .inl ⟨hc, hb q (by simp)⟩
      · exact h4 q hq hw
    · rw [if_neg hc] at h
      by_cases he : endGo r.1 r.2.1 (-1) S < 0
      · rw [if_pos he] at h
        cases h
      · rw [if_neg he] at h
        have hlt : last < r.1 := by
          by_cases hx : r.1 ≤ last
          · exact absurd (.inr hx) hc
          · omega
        rcases endGo_spec r.1 r.2.1 S (-1) hS with ⟨h1, _⟩ | ⟨h1, h2, h3⟩
        · omega
        · obtain ⟨w1, w2⟩ := withinB_iff.1 h2
          generalize endGo r.1 r.2.1 (-1) S = en at *
          obtain ⟨T, g1, g2, g3, g4⟩ := few_upper hS l (c + 1) k en hs.2 (fun q hq => by have := hs.1 q hq; omega) h
          refine ⟨en :: T, List.pairwise_cons.2 ⟨fun t ht => (g2 t ht).2, g1⟩, fun t ht => ?_, by simp; omega, fun q hq hw => ?_⟩
          · rcases List.mem_cons.1 ht with rfl | ht
            · exact ⟨h1, by omega⟩
            · have := g2 t ht
              exact ⟨this.1, by omega⟩
          · rcases List.mem_cons.1 hq with rfl | hq
            · exact .inr ⟨en, by simp, w1, w2⟩
            · rcases g4 q hq hw with g | ⟨t, ht, g⟩
              · exact .inr ⟨en, by simp, g⟩
              · exact .inr ⟨t, by simp [ht], g⟩
/-- so many of some beams explain readings, no fewer do -/
def MinK (S : List Int) (ex : List Int → Bool) (k : Nat) : Prop := (∃ T : List Int, T.Sublist S ∧ ex T = true ∧ T.length = k) ∧ ∀ T : List Int, T.Sublist S → ex T = true → k ≤ T.length
def exB (l : List Rg) (T : List Int) : Bool := !l.any (missB T)
theorem exB_iff {l : List Rg} {T : List Int} : exB l T = true ↔ ∀ r ∈ l, missB T r = false := by simp [exB]
theorem MinK.uniq {S : List Int} {ex : List Int → Bool} {k k' : Nat} (h : MinK S ex k) (h' : MinK S ex k') : k = k' := by
  obtain ⟨⟨T, h1, h2, h3⟩, h4⟩ := h
  obtain ⟨⟨T', g1, g2, g3⟩, g4⟩ := h'
  have := h4 T' g1 g2
  have := g4 T h1 h2
  omega
theorem byEnd_mem {l : List Rg} {r : Rg} : r ∈ byEnd l ↔ r ∈ l := List.mem_mergeSort
theorem byEnd_sorted (l : List Rg) : (byEnd l).Pairwise (fun a b => a.2.1 ≤ b.2.1) := by
  have := List.pairwise_mergeSort (le := fun a b : Rg => decide (a.2.1 ≤ b.2.1)) (fun a b c h1 h2 => by simp at *; omega) (fun a b => by simp; omega) l
  simpa [byEnd] using this
/-- **The greedy choice is least.** -/
theorem few_some {S : List Int} (hS : S.Pairwise (· < ·)) (h0 : ∀ s ∈ S, 0 ≤ s) {l : List Rg} (hl : ∀ r ∈ l, 0 ≤ r.1 ∧ r.1 ≤ r.2.1) {k : Nat} (h : fewM S l = some k) : MinK S (exB l) k := by
  obtain ⟨T, h1, h2, h3, h4⟩ := few_upper hS (byEnd l) 0 k (-1) (byEnd_sorted l) (fun r hr => by
    have := hl r (byEnd_mem.1 hr)
    omega) h
  refine ⟨⟨T, sub_of_sorted S T hS h1 fun t ht => (h2 t ht).1, exB_iff.2 fun r hr => missB_of fun hw => ?_, by omega⟩, fun U hU hx => ?_⟩
  · rcases h4 r (byEnd_mem.2 hr) hw with g | g
    · have := hl r hr
      omega
    · exact g
  · obtain ⟨k', g1, g2⟩ := few_lower hS h0 (T := U) (fun t ht => hU.subset ht) (byEnd l) 0 (-1) (fun r hr => exB_iff.1 hx r (byEnd_mem.1 hr))
    have : fewGo S 0 (-1) (byEnd l) = some k := h
    rw [this] at g1
    cases g1
    have := List.countP_le_length (p := fun t => decide ((-1 : Int) < t)) (l := U)
    omega
theorem few_none {S : List Int} (hS : S.Pairwise (· < ·)) (h0 : ∀ s ∈ S, 0 ≤ s) {l : List Rg} (h : fewM S l = none) : ∀ U : List Int, (∀ t ∈ U, t ∈ S) → exB l U = false := by
  intro U hU
  cases hx : exB l U with
  | false => rfl
  | true =>
    exfalso
    obtain ⟨k', g1, _⟩ := few_lower hS h0 (T := U) hU (byEnd l) 0 (-1) (fun r hr => exB_iff.1 hx r (byEnd_mem.1 hr))
    have : fewGo S 0 (-1) (byEnd l) = none := h
    rw [this] at g1
    cases g1
/-- a record without what some beams explain, and without the suspects up to the last one of them -/
def withM (l : List Rg) (bs : List Int) (n : Int) : List Rg := (0, n, false) :: l.filter fun r => !r.2.2 || !bs.any fun b => withinB b r.1 r.2.1
theorem withM_ex {l : List Rg} {bs T : List Int} {n : Int} : exB (withM l bs n) T = exB l (bs ++ T) := by
  rw [Bool.eq_iff_iff, exB_iff, exB_iff]
  constructor
  · intro h r hr
    by_cases hb : (bs.any fun b => withinB b r.1 r.2.1) = true
    · simp [missB, List.any_append, hb]
    · have hb' : (bs.any fun b => withinB b r.1 r.2.1) = false := by simpa using hb
      have := h r (by
        simp only [withM, List.mem_cons, List.mem_filter]
        exact .inr ⟨hr, by rw [hb']; simp⟩)
      simp only [missB, List.any_append, hb', Bool.false_or] at this ⊢
      exact this
  · intro h r hr
    simp only [withM, List.mem_cons, List.mem_filter] at hr
    rcases hr with rfl | ⟨hr, hk⟩
    · rfl
    · have := h r hr
      cases hw : r.2.2 with
      | false => simp [missB, hw]
      | true =>
        rw [hw] at hk
        have hb : (bs.any fun b => withinB b r.1 r.2.1) = false := by simpa using hk
        simp only [missB, List.any_append, hb, Bool.false_or] at this ⊢
        exact this
theorem withM_good {l : List Rg} {bs : List Int} {n b : Int} (hb : 0 ≤ b) : (withM l bs n).any (goodB b) = (decide (b ≤ n) || l.any (goodB b)) := by
  simp only [withM, List.any_cons, List.any_filter]
  congr 1
  · simp [goodB, withinB, hb]
  · congr 1
    funext r
    cases hw : r.2.2 <;> simp [goodB, hw]
theorem withM_susp {l : List Rg} {bs : List Int} {n : Int} (k : Nat) : suspK (withM l bs n) k = (suspK l k).filter fun b => decide (n < b) := by
  unfold suspK
  rw [List.filter_map, List.filter_filter]
  congr 1
  refine List.filter_congr fun b hb => ?_
  rw [withM_good (by omega)]
  simp only [Function.comp, Bool.not_or, ← decide_not, Int.not_le]
theorem suspK_sorted (l : List Rg) (k : Nat) : (suspK l k).Pairwise (· < ·) := by
  unfold suspK
  rw [List.pairwise_map]
  refine (List.pairwise_lt_range.filter _).imp fun {a b} h => ?_
  exact Int.ofNat_lt.2 h
theorem filter_tail {pre R : List Int} {n : Int} (h : (pre ++ n :: R).Pairwise (· < ·)) : (pre ++ n :: R).filter (fun b => decide (n < b)) = R := by
  rw [List.pairwise_append] at h
  obtain ⟨_, h2, h3⟩ := h
  rw [List.pairwise_cons] at h2
  rw [List.filter_append, List.filter_cons_of_neg (by simp), List.filter_eq_nil_iff.2 (fun a ha => by
    have := h3 a ha n (by simp)
    simp
    omega), List.nil_append, List.filter_eq_self.2 (fun a ha => by simpa using h2.1 a ha)]
/-- beam by beam the first one with which as few as possible do -/
def leastGo (few : List Int → Option Nat) : List Int → List Int → Nat → List Int
  | out, _, 0 => out
  | out, [], _ + 1 => out
  | out, n :: R, k + 1 => if few (out ++ [n]) = some k then leastGo few (out ++ [n]) R k else leastGo few out R (k + 1)
def withFew (l : List Rg) (bm : Nat) (bs : List Int) : Option Nat := fewM (suspK (withM l bs (bs.getLast?.getD 0)) bm) (withM l bs (bs.getLast?.getD 0))
theorem least_find {l : List Rg} (hl : ∀ r ∈ l, 0 ≤ r.1 ∧ r.1 ≤ r.2.1) (bm : Nat) : ∀ (R pre out : List Int) (k : Nat), suspK l bm = pre ++ R → MinK R (fun T => exB l (out ++ T)) k →
    ∃ T0, (setsZ R k).find? (fun T => exB l (out ++ T)) = some T0 ∧ leastGo (withFew l bm) out R k = out ++ T0
  | R, pre, out, 0, hS, hm => by
    obtain ⟨⟨T, h1, h2, h3⟩, _⟩ := hm
    obtain rfl := List.eq_nil_of_length_eq_zero h3
    refine ⟨[], ?_, by cases R <;> simp [leastGo]⟩
    have : setsZ R 0 = [[]] := by cases R <;> rfl
    rw [this, List.find?_cons_of_pos (by simpa using h2)]
  | [], pre, out, k + 1, hS, hm => by
    obtain ⟨⟨T, h1, h2, h3⟩, _⟩ := hm
    rw [List.sublist_nil.1 h1] at h3
    simp at h3
  | n :: R, pre, out, k + 1, hS, hm => by
    have hsort := suspK_sorted l bm
    have hn0 : 0 ≤ n := (suspK_in n (by rw [hS]; simp)).1
    have hlast : (out ++ [n]).getLast?.getD 0 = n := by simp
    have hR : suspK (withM l (out ++ [n]) n) bm = R := by
      rw [withM_susp, hS]
      exact filter_tail (hS ▸ hsort)
    have hRs : R.Pairwise (· < ·) := by
      rw [hS, List.pairwise_append, List.pairwise_cons] at hsort
      exact hsort.2.1.2
    have hR0 : ∀ s ∈ R, 0 ≤ s := fun s hs => (suspK_in s (by rw [hS]; simp [hs])).1
    have hwl : ∀ r ∈ withM l (out ++ [n]) n, 0 ≤ r.1 ∧ r.1 ≤ r.2.1 := by
      intro r hr
      simp only [withM, List.mem_cons, List.mem_filter] at hr
      rcases hr with rfl | ⟨hr, _⟩
      · exact ⟨Int.le_refl _, hn0⟩
      · exact hl r hr
    have hfew : withFew l bm (out ++ [n]) = fewM R (withM l (out ++ [n]) n) := by
      rw [withFew, hlast, hR]
    have happ : ∀ T : List Int, exB l (out ++ n :: T) = exB l ((out ++ [n]) ++ T) := fun T => by simp
    obtain ⟨⟨T1, h1, h2, h3⟩, h4⟩ := hm
    rw [leastGo]
    by_cases hf : withFew l bm (out ++ [n]) = some k
    · rw [if_pos hf]
      have hmin : MinK R (fun T => exB l ((out ++ [n]) ++ T)) k := by
        have := few_some hRs hR0 hwl (hfew ▸ hf)
        obtain ⟨⟨U, u1, u2, u3⟩, u4⟩ := this
        exact ⟨⟨U, u1, by rw [withM_ex] at u2; exact u2, u3⟩, fun V v1 v2 => u4 V v1 (by rw [withM_ex]; exact v2)⟩
      obtain ⟨T0, g1, g2⟩ := least_find hl bm R (pre ++ [n]) (out ++ [n]) k (by rw [hS]; simp) hmin
      refine ⟨n :: T0, ?_, by rw [g2]; simp⟩
      rw [setsZ, List.find?_append, List.find?_map]
      have : ((fun T => exB l (out ++ T)) ∘ (n :: ·)) = fun T => exB l ((out ++ [n]) ++ T) := by
        funext T
        exact happ T
      rw [this, g1]
      rfl
    · rw [if_neg hf]
      -- no least one begins with n
      have hno : ∀ T : List Int, T.Sublist R → exB l (out ++ n :: T) = true → k + 1 ≤ T.length := by
        intro T hT hx
        have hk : k ≤ T.length := by
          have := h4 (n :: T) (hT.cons_cons _) hx
          simpa using this
        by_cases hk' : T.length = k
        · exfalso
          apply hf
          rw [hfew]
          cases hq : fewM R (withM l (out ++ [n]) n) with
          | none =>
            have := few_none hRs hR0 hq T (fun t ht => hT.subset ht)
            rw [withM_ex, ← happ, hx] at this
            cases this
          | some q =>
            have hmin := few_some hRs hR0 hwl hq
            congr 1
            refine hmin.uniq ⟨⟨T, hT, by rw [withM_ex, ← happ]; exact hx, hk'⟩, fun V hV hVx => ?_⟩
            have := h4 (n :: V) (hV.cons_cons _) (by rw [withM_ex, ← happ] at hVx; exact hVx)
            simpa using this
        · omega
      have hmin : MinK R (fun T => exB l (out ++ T)) (k + 1) := by
        refine ⟨?_, fun T hT hx => h4 T (hT.cons _) hx⟩
        cases h1 with
        | cons _ h => exact ⟨T1, h, h2, h3⟩
        | @cons_cons U _ _ h =>
          have := hno U h h2
          simp at h3
          omega
      obtain ⟨T0, g1, g2⟩ := least_find hl bm R (pre ++ [n]) out (k + 1) (by rw [hS]; simp) hmin
      refine ⟨T0, ?_, g2⟩
      rw [setsZ, List.find?_append, List.find?_eq_none.2 ?_]
      · exact g1
      · intro U hU
        obtain ⟨V, hV, rfl⟩ := List.mem_map.1 hU
        obtain ⟨v1, v2⟩ := (setsZ_mem R k V).1 hV
        intro hx
        have := hno V v1 hx
        omega
/-- what the code returns -/
def leastM (l : List Rg) (bm : Nat) : Option (List Int) := (fewM (suspK l bm) l).map fun k => leastGo (withFew l bm) [] (suspK l bm) k
/-- what is returned explains, with as few beams as possible; if there is nothing all suspects do not -/
theorem leastM_some {l : List Rg} (hl : ∀ r ∈ l, 0 ≤ r.1 ∧ r.1 ≤ r.2.1) (bm : Nat) {T : List Int} (h : leastM l bm = some T) : T.Sublist (suspK l bm) ∧ exB l T = true ∧ ∀ U : List Int, U.Sublist (suspK l bm) → exB l U = true → T.length ≤ U.length := by
  have hsort := suspK_sorted l bm
  have h0 : ∀ s ∈ suspK l bm, 0 ≤ s := fun s hs => (suspK_in s hs).1
  unfold leastM at h
  cases hf : fewM (suspK l bm) l with
  | none =>
    rw [hf] at h
    cases h
  | some k =>
    have hm := few_some hsort h0 hl hf
    obtain ⟨T0, g1, g2⟩ := least_find hl bm (suspK l bm) [] [] k rfl (by simpa using hm)
    rw [hf, Option.map_some, g2, List.nil_append] at h
    cases h
    have hmem := List.mem_of_find?_eq_some g1
    have hx := List.find?_some g1
    obtain ⟨u1, u2⟩ := (setsZ_mem _ k T).1 hmem
    exact ⟨u1, by simpa using hx, fun U hU hUx => by rw [u2]; exact hm.2 U hU hUx⟩
end Go.Proofs.YtlbgocgocanloaaGreatDoor
