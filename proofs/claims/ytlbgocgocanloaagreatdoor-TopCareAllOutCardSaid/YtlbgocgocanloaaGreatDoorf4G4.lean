/- All get out: plain. With one more door open no fewer are out; with all doors open all are out in the time that the fullest car takes. -/
import Derived.Test.YtlbgocgocanloaaGreatDoorf4P7
import Derived.Test.YtlbgocgocanloaaGreatDoorf4S1
import Derived.Test.YtlbgocgocanloaaGreatDoorf4Q8
import Derived.Test.YtlbgocgocanloaaGreatDoorf4G3
import Derived.Test.YtlbgocgocanloaaGreatDoorf4G2
import Derived.Test.YtlbgocgocanloaaGreatDoorf4T2
namespace Go.Proofs.YtlbgocgocanloaaGreatDoor
open Go.RowKit
/-- a way of a train of D cars -/
def WayIn (b dd : Int) (D : Nat) (x : Ev) : Prop := 0 ≤ x.1 ∧ x.1 < D ∧ (x.2.1 = -1 ∨ 0 ≤ x.2.1 ∧ x.2.1 < D) ∧ x.1 ≠ x.2.1 ∧ (x.2.2 = b ∨ x.2.2 = dd)
theorem waysM_in {b dd : Int} {ds : List Bool} {D : Nat} : ∀ k, k ≤ D → ∀ x ∈ waysM b dd ds k, WayIn b dd D x
  | 0, _, x, hx => by simp [waysM] at hx
  | k + 1, hk, x, hx => by
    simp only [waysM, List.mem_append] at hx
    rcases hx with (hx | hx) | hx
    · exact waysM_in k (by omega) x hx
    · unfold carB at hx
      split at hx
      · simp at hx
      · rcases List.mem_cons.1 hx with rfl | hx
        · exact ⟨by simp only; omega, by simp only; omega, .inr ⟨by simp only; omega, by simp only; omega⟩, by simp only; omega, .inl rfl⟩
        · obtain rfl := List.mem_singleton.1 hx
          exact ⟨by simp only; omega, by simp only; omega, .inr ⟨by simp only; omega, by simp only; omega⟩, by simp only; omega, .inl rfl⟩
    · unfold carD at hx
      split at hx
      · obtain rfl := List.mem_singleton.1 hx
        exact ⟨by simp only; omega, by simp only; omega, .inl rfl, by simp only; omega, .inr rfl⟩
      · simp at hx
/-- the numbers of a train that the law looks at -/
structure CarsOk (pp : List Int) (b dd : Int) : Prop where
  l1 : 1 ≤ pp.length
  l4 : pp.length ≤ 4
  people : ∀ x ∈ pp, 0 ≤ x ∧ x ≤ 200
  b1 : 1 ≤ b
  b50 : b ≤ 50
  d1 : 1 ≤ dd
  d50 : dd ≤ 50
theorem CarsOk.rooms {pp : List Int} {b dd : Int} (h : CarsOk pp b dd) (ds : List Bool) : RoomsOk pp (waysM b dd ds pp.length) := by
  have h1 := h.l1
  have h2 := h.l4
  have h3 := h.b1
  have h4 := h.b50
  have h5 := h.d1
  have h6 := h.d50
  refine ⟨h1, by omega, by have := waysM_len b dd ds pp.length; omega, fun x hx => by have := h.people x hx; omega, fun x hx => ?_⟩
  obtain ⟨a1, a2, a3, a4, a5⟩ := waysM_in pp.length (Nat.le_refl _) x hx
  exact ⟨a1, a2, a3, a4, by omega, by omega⟩
theorem wayE_of {np : Nat} {x : Ev} (h : 0 ≤ x.1 ∧ x.1 < np ∧ (x.2.1 = -1 ∨ 0 ≤ x.2.1 ∧ x.2.1 < np) ∧ x.1 ≠ x.2.1 ∧ 1 ≤ x.2.2 ∧ x.2.2 ≤ 10000) : wayE np x = 0 := by
  obtain ⟨h1, h2, h3, h4, h5, h6⟩ := h
  have e1 : (isRoomB np x.1 && (x.2.1 == -1 || isRoomB np x.2.1)) = true := by
    simp only [isRoomB, withinB, Bool.and_eq_true, Bool.or_eq_true, decide_eq_true_eq, beq_iff_eq]
    omega
  have e2 : (x.1 != x.2.1) = true := by simpa using h4
  have e3 : (decide (0 < x.2.2) && isCrowdB x.2.2) = true := by
    simp only [isCrowdB, withinB, Bool.and_eq_true, decide_eq_true_eq]
    omega
  unfold wayE
  rw [e1, e2, e3]
  rfl
theorem waysGo_of {np : Nat} : ∀ (l : List Ev) (i : Nat), (∀ x ∈ l, wayE np x = 0) → waysGo np l i = (0, 0)
  | [], _, _ => rfl
  | x :: l, i, h => by
    rw [waysGo, if_pos (h x (by simp))]
    exact waysGo_of l (i + 1) fun y hy => h y (by simp [hy])
theorem roomsM_of {pp : List Int} {ws : List Ev} (ok : RoomsOk pp ws) : (roomsM pp ws).2 = 0 := by
  have h1 := ok.some_
  have h2 := idxGo_nonneg notCrowdB pp 0
  have h3 : pp.any notCrowdB = false := by
    rw [List.any_eq_false]
    intro x hx
    have := ok.people x hx
    simp only [notCrowdB, isCrowdB, withinB, Bool.not_eq_true', Bool.and_eq_false_iff, decide_eq_false_iff_not]
    omega
  rw [h3] at h2
  unfold roomsM
  rw [if_neg (by omega), if_pos ⟨ok.few, ok.fewW⟩, if_neg (of_decide_eq_false h2), waysGo_of ws 0 fun x hx => wayE_of (ok.ways x hx)]
theorem bdTick_app {tm : List Int} {t : Nat} (m : List Ev) : ∀ l : List Ev, bdTick tm t (l ++ m) = bdTick tm t l + bdTick tm t m
  | [] => by simp [bdTick]
  | x :: l => by
    rw [List.cons_append, bdTick, bdTick, bdTick_app m l]
    omega
/-- all doors of the one are open doors of the other -/
def DoorsLe (ds ds' : List Bool) : Prop := ∀ i : Nat, ds[i]?.getD false = true → ds'[i]?.getD false = true
theorem bdTick_doors {tm : List Int} {t : Nat} {b dd : Int} (hd : 0 ≤ dd) {ds ds' : List Bool} (h : DoorsLe ds ds') : ∀ k, bdTick tm t (waysM b dd ds k) ≤ bdTick tm t (waysM b dd ds' k)
  | 0 => Int.le_refl _
  | k + 1 => by
    have ih := bdTick_doors (tm := tm) (t := t) (b := b) hd h k
    have h2 : bdTick tm t (carD dd ds k) ≤ bdTick tm t (carD dd ds' k) := by
      unfold carD
      by_cases h1 : ds[k]?.getD false = true
      · rw [if_pos h1, if_pos (h k h1)]
        exact Int.le_refl _
      · rw [if_neg h1]
        split
        · simp only [bdTick]
          split <;> omega
        · exact Int.le_refl _
    simp only [waysM, bdTick_app]
    omega
theorem bdTicks_doors {tm : List Int} {b dd : Int} (hd : 0 ≤ dd) {ds ds' : List Bool} (h : DoorsLe ds ds') (D : Nat) : ∀ k t, bdTicks tm (waysM b dd ds D) t k ≤ bdTicks tm (waysM b dd ds' D) t k
  | 0, _ => Int.le_refl _
  | k + 1, t => by
    have ih := bdTicks_doors (tm := tm) (b := b) hd h D k (t + 1)
    have h1 := bdTick_doors (tm := tm) (t := t) (b := b) hd h D
    simp only [bdTicks]
    omega
/-- **With one more door open no fewer are out.** -/
theorem out_doors {pp : List Int} {b dd : Int} (hd : 0 ≤ dd) {ds ds' : List Bool} (h : DoorsLe ds ds') {T D : Nat} {F F' : Fl} {r r' : List Int} (h1 : FlEnd pp (waysM b dd ds D) T F r) (h2 : FlEnd pp (waysM b dd ds' D) T F' r') : F.o ≤ F'.o := by
  have h3 := h1.all (cutM pp.length T r')
  rw [h2.best]
  refine Int.le_trans h3 ?_
  unfold boundM
  have := bdTicks_doors (tm := cutM pp.length T r') (b := b) hd h D T 0
  omega
/-- so much for each room that is in the cut from the beginning -/
def zk (tm : List Int) (c : Int) : Nat → Int
  | 0 => 0
  | k + 1 => zk tm c k + if tmAt tm k ≤ 0 then c else 0
theorem zk_add {tm : List Int} {a c : Int} : ∀ k, zk tm (a + c) k = zk tm a k + zk tm c k
  | 0 => rfl
  | k + 1 => by
    have ih := zk_add (tm := tm) (a := a) (c := c) k
    simp only [zk, ih]
    split <;> omega
theorem people_zk {tm : List Int} {c : Int} : ∀ (l : List Int) (r : Nat), (∀ x ∈ l, x ≤ c) → sumL l + zk tm c r ≤ bdPeople tm r l + zk tm c (r + l.length)
  | [], r, _ => by simp [sumL, bdPeople]
  | n :: l, r, h => by
    have ih := people_zk (tm := tm) (c := c) l (r + 1) fun y hy => h y (by simp [hy])
    have hn := h n (by simp)
    rw [show r + (n :: l).length = r + 1 + l.length by simp only [List.length_cons]; omega]
    simp only [sumL, bdPeople, zk] at ih ⊢
    by_cases h0 : 0 < tmAt tm r
    · rw [if_neg (by omega)] at ih
      rw [if_pos h0]
      omega
    · rw [if_pos (by omega)] at ih
      rw [if_neg h0]
      omega
theorem bdTick_full {tm : List Int} {t : Nat} {b dd : Int} (hb : 0 ≤ b) (hd : 0 ≤ dd) {ds : List Bool} : ∀ k, (∀ i, i < k → ds[i]?.getD false = true) → zk tm dd k ≤ bdTick tm t (waysM b dd ds k)
  | 0, _ => Int.le_refl _
  | k + 1, h => by
    have ih := bdTick_full (tm := tm) (t := t) hb hd k fun i hi => h i (by omega)
    have h1 : 0 ≤ bdTick tm t (carB b k) := by
      unfold carB
      split
      · exact Int.le_refl _
      · simp only [bdTick]
        split <;> split <;> omega
    have h2 : (if tmAt tm k ≤ 0 then dd else 0) ≤ bdTick tm t (carD dd ds k) := by
      unfold carD
      rw [if_pos (h k (by omega))]
      simp only [bdTick, crossB, Int.toNat_natCast, beq_self_eq_true, Bool.true_or, Bool.and_true, decide_eq_true_eq]
      split
      · rw [if_pos (by omega)]
        omega
      · split <;> omega
    simp only [waysM, bdTick_app, zk]
    omega
theorem bdTicks_full {tm : List Int} {b dd : Int} (hb : 0 ≤ b) (hd : 0 ≤ dd) {ds : List Bool} {D : Nat} (h : ∀ i, i < D → ds[i]?.getD false = true) : ∀ (k t : Nat), zk tm (dd * k) D ≤ bdTicks tm (waysM b dd ds D) t k
  | 0, _ => by
    have : ∀ n, zk tm (dd * (0 : Nat)) n ≤ 0 := fun n => by
      induction n with
      | zero => exact Int.le_refl _
      | succ n ih => simp only [zk, Int.natCast_zero, Int.mul_zero] at ih ⊢; split <;> omega
    exact this D
  | k + 1, t => by
    have ih := bdTicks_full (tm := tm) hb hd h k (t + 1)
    have h1 := bdTick_full (tm := tm) (t := t) hb hd D h
    have e : dd * ((k + 1 : Nat) : Int) = dd + dd * (k : Int) := by rw [Int.natCast_add, Int.mul_add]; simp; omega
    rw [e, zk_add]
    simp only [bdTicks]
    omega
/-- **With all doors open all are out in the time that the fullest car takes alone.** -/
theorem out_full {pp : List Int} {b dd : Int} (hb : 0 ≤ b) (hd : 0 ≤ dd) {ds : List Bool} (h : ∀ i, i < pp.length → ds[i]?.getD false = true) {T : Nat} (hT : ∀ x ∈ pp, x ≤ dd * (T : Int)) {F : Fl} {r : List Int} (h1 : FlEnd pp (waysM b dd ds pp.length) T F r) : F.o = sumL pp := by
  refine Int.le_antisymm h1.sum ?_
  have h2 := people_zk (tm := cutM pp.length T r) pp 0 hT
  have h3 := bdTicks_full (tm := cutM pp.length T r) hb hd h T 0
  rw [h1.best]
  unfold boundM
  rw [Nat.zero_add] at h2
  simp only [zk] at h2
  omega
/-- how many are out by so many ticks -/
theorem outs_of {pp : List Int} {ws : List Ev} (ok : RoomsOk pp ws) : ∃ v : Nat → Int, ∀ t, t ≤ 20 → ∃ F r, FlEnd pp ws t F r ∧ F.o = v t := by
  have h : ∀ t : Nat, ∃ o : Int, t ≤ 20 → ∃ F r, FlEnd pp ws t F r ∧ F.o = o := fun t => by
    by_cases ht : t ≤ 20
    · obtain ⟨F, r, h⟩ := cut_best ok t ht
      exact ⟨F.o, fun _ => ⟨F, r, h, rfl⟩⟩
    · exact ⟨0, fun h => absurd h ht⟩
  exact ⟨fun t => Classical.choose (h t), fun t ht => Classical.choose_spec (h t) ht⟩
theorem outIs_end {pp : List Int} {ws : List Ev} {t : Nat} {F : Fl} {r : List Int} (h : FlEnd pp ws t F r) : outIs pp ws t F.o := ⟨60001, 129, F, h.run, rfl⟩
/-- the least time that the code finds at a train with such doors -/
def LeastIs (pp : List Int) (b dd : Int) (ds : List Bool) (r : Option Nat) : Prop := ∃ v : Nat → Int, (∀ t, t ≤ 20 → ∃ F k, FlEnd pp (waysM b dd ds pp.length) t F k ∧ F.o = v t) ∧ leastGo v (sumL pp) 9 0 = r
theorem least_is {pp : List Int} {b dd : Int} (h : CarsOk pp b dd) (ds : List Bool) : ∃ r, LeastIs pp b dd ds r := by
  obtain ⟨v, hv⟩ := outs_of (h.rooms ds)
  exact ⟨_, v, hv, rfl⟩
theorem LeastIs.some_ {pp : List Int} {b dd : Int} {ds : List Bool} {n : Nat} (h : LeastIs pp b dd ds (some n)) : n ≤ 8 := by
  obtain ⟨v, _, h⟩ := h
  have := (leastGo_spec 9 0).1 n h
  omega
theorem leastGo_le {v : Nat → Int} {s : Int} {t : Nat} (ht : t ≤ 8) (hv : v t = s) : ∃ n, leastGo v s 9 0 = some n ∧ n ≤ t := by
  cases h : leastGo v s 9 0 with
  | none => exact absurd hv ((leastGo_spec 9 0).2 h t (Nat.zero_le _) (by omega))
  | some n =>
    refine ⟨n, rfl, ?_⟩
    rcases Nat.lt_or_ge t n with h1 | h1
    · exact absurd hv (((leastGo_spec 9 0).1 n h).2.2.2 t (Nat.zero_le _) h1)
    · exact h1
/-- with one more door open people are out no later -/
theorem least_mono {pp : List Int} {b dd : Int} (hd : 0 ≤ dd) {ds ds' : List Bool} (h : DoorsLe ds ds') {n : Nat} {r : Option Nat} (h1 : LeastIs pp b dd ds (some n)) (h2 : LeastIs pp b dd ds' r) : ∃ m, r = some m ∧ m ≤ n := by
  have hn := h1.some_
  obtain ⟨v, hv, g1⟩ := h1
  obtain ⟨v', hv', rfl⟩ := h2
  obtain ⟨F, k, e, e1⟩ := hv n (by omega)
  obtain ⟨F', k', e', e1'⟩ := hv' n (by omega)
  have h3 := out_doors hd h e e'
  have h4 := e'.sum
  have h5 := ((leastGo_spec 9 0).1 n g1).2.2.1
  exact leastGo_le hn (by omega)
theorem least_full {pp : List Int} {b dd : Int} (h : CarsOk pp b dd) {ds : List Bool} (hf : ∀ i, i < pp.length → ds[i]?.getD false = true) {T : Nat} (hT : ∀ x ∈ pp, x ≤ dd * (T : Int)) (h8 : T ≤ 8) {r : Option Nat} (h2 : LeastIs pp b dd ds r) : ∃ m, r = some m ∧ m ≤ T := by
  obtain ⟨v', hv', rfl⟩ := h2
  obtain ⟨F', k', e', e1'⟩ := hv' T (by omega)
  have := out_full (by have := h.b1; omega) (by have := h.d1; omega) hf hT e'
  exact leastGo_le h8 (by omega)
end Go.Proofs.YtlbgocgocanloaaGreatDoor
