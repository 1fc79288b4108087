/- Just so far apart: plain. -/
import Derived.Test.YtnnnpijepdjanaaGreatT1
namespace Go.Proofs.YtnnnpijepdjanaaGreat

def ClosedF (ws : List Wy) (f : Nat → Option Int) : Prop := ∀ w ∈ ws, ∀ u, f w.1 = some u → ∃ v, f w.2.1 = some v ∧ u + w.2.2 ≤ v
def leG (a : Far) (f : Nat → Option Int) : Prop := ∀ i u, farAt a i = some u → ∃ v, f i = some v ∧ u ≤ v
theorem farM_leG {ws : List Wy} {l : Far} {q : Nat → Option Int} (hw : WaysIn l.length ws) (hq : ClosedF ws q) (h : leG l q) : leG (farM ws l) q := by
  intro i v hv
  rcases farM_from hw hv with g | ⟨w, hm, rfl, u, hu, rfl⟩
  · exact h i v g
  · obtain ⟨x, h1, h2⟩ := h _ _ hu
    obtain ⟨y, g1, g2⟩ := hq w hm x h1
    exact ⟨y, g1, by omega⟩
theorem iterF_leG {ws : List Wy} {l : Far} {q : Nat → Option Int} (hw : WaysIn l.length ws) (hq : ClosedF ws q) (h : leG l q) : ∀ k, leG (iterF ws k l) q
  | 0 => h
  | k + 1 => farM_leG (by rw [iterF_len]; exact hw) hq (iterF_leG hw hq h k)
theorem long_iter {ws : List Wy} : ∀ (k : Nat) {l q : Far} {b : Bool}, longM ws k l = (q, b) → ∃ t, t ≤ k ∧ q = iterF ws t l ∧ (b = false → farM ws q = q)
  | 0, l, q, b, h => by
    rw [longM] at h
    cases h
    exact ⟨0, Nat.le_refl _, rfl, fun hb => by simpa using hb⟩
  | k + 1, l, q, b, h => by
    rw [longM] at h
    split at h
    · rename_i hf
      cases h
      exact ⟨0, Nat.zero_le _, rfl, fun _ => hf⟩
    · obtain ⟨t, h1, h2, h3⟩ := long_iter k h
      exact ⟨t + 1, by omega, by rw [iterF_succ]; exact h2, h3⟩
theorem long_at {ws : List Wy} : ∀ (k t : Nat) {l : Far}, t ≤ k → farM ws (iterF ws t l) = iterF ws t l → (longM ws k l).2 = false
  | 0, t, l, h, hf => by
    obtain rfl : t = 0 := by omega
    rw [longM]
    have : farM ws l = l := hf
    simp [this]
  | k + 1, t, l, h, hf => by
    rw [longM]
    split
    · rfl
    · rename_i hn
      cases t with
      | zero => exact absurd hf hn
      | succ t =>
        refine long_at k t (by omega) ?_
        rw [← iterF_succ]
        exact hf
theorem iter_up {ws : List Wy} {l : Far} {M C : Int} (hw : WaysIn l.length ws) (hC : ∀ w ∈ ws, w.2.2 ≤ C) (h0 : 0 ≤ C) (h : ∀ i u, farAt l i = some u → u ≤ M) : ∀ t i u, farAt (iterF ws t l) i = some u → u ≤ M + C * (t : Int)
  | 0, i, u, hu => by
    have := h i u hu
    simpa using this
  | t + 1, i, u, hu => by
    have ih := iter_up hw hC h0 h t
    rw [iterF] at hu
    have e : C * ((t + 1 : Nat) : Int) = C * (t : Int) + C := by
      rw [Int.natCast_add, Int.mul_add]
      simp
    rw [e]
    rcases farM_from (by rw [iterF_len]; exact hw) hu with g | ⟨w, hm, _, x, hx, rfl⟩
    · have := ih i u g
      omega
    · have := ih _ _ hx
      have := hC w hm
      omega
theorem iter_down {ws : List Wy} {l : Far} {M C : Int} (hw : WaysIn l.length ws) (hC : ∀ w ∈ ws, -C ≤ w.2.2) (h0 : 0 ≤ C) (h : ∀ i u, farAt l i = some u → M ≤ u) : ∀ t i u, farAt (iterF ws t l) i = some u → M - C * (t : Int) ≤ u
  | 0, i, u, hu => by
    have := h i u hu
    simpa using this
  | t + 1, i, u, hu => by
    have ih := iter_down hw hC h0 h t
    rw [iterF] at hu
    have e : C * ((t + 1 : Nat) : Int) = C * (t : Int) + C := by
      rw [Int.natCast_add, Int.mul_add]
      simp
    rw [e]
    rcases farM_from (by rw [iterF_len]; exact hw) hu with g | ⟨w, hm, _, x, hx, rfl⟩
    · have := ih i u g
      omega
    · have := ih _ _ hx
      have := hC w hm
      omega

def fullF (m : Nat) (l : Far) : Prop := ∀ i, i < m → ∃ x, farAt l i = some x
def zerosF (m : Nat) : Far := List.replicate m (some 0)
def lateF (m e : Nat) (L : Int) : Far := (zerosF m).set e (some L)
def aloneF (m e : Nat) : Far := (List.replicate m none).set e (some 0)
theorem farAt_zeros {m i : Nat} (h : i < m) : farAt (zerosF m) i = some 0 := by
  unfold farAt zerosF
  rw [List.getElem?_replicate, if_pos h]
  rfl
theorem farAt_none {m i : Nat} : farAt (List.replicate m none) i = none := by
  unfold farAt
  rw [List.getElem?_replicate]
  split <;> rfl
theorem farAt_late {m e i : Nat} {L : Int} (he : e < m) (h : i < m) : farAt (lateF m e L) i = some (if i = e then L else 0) := by
  unfold lateF
  rw [farAt_set (by simpa [zerosF] using he), farAt_zeros h]
  split <;> rfl
theorem farAt_alone {m e i : Nat} (he : e < m) : farAt (aloneF m e) i = if i = e then some 0 else none := by
  unfold aloneF
  rw [farAt_set (by simpa using he), farAt_none]
theorem farAt_lt {l : Far} {i : Nat} {u : Int} (h : farAt l i = some u) : i < l.length := by
  refine Decidable.byContradiction fun hn => ?_
  rw [farAt, List.getElem?_eq_none (by omega)] at h
  cases h
theorem full_iter {ws : List Wy} {m : Nat} {l : Far} (hm : l.length = m) (hw : WaysIn m ws) (h : fullF m l) (t : Nat) : fullF m (iterF ws t l) := fun i hi => by
  obtain ⟨x, hx⟩ := h i hi
  obtain ⟨v, hv, _⟩ := iterF_mono (by rw [hm]; exact hw) t 0 i x hx
  rw [Nat.zero_add] at hv
  exact ⟨v, hv⟩
theorem closed_F {ws : List Wy} {l : Far} (h : Closed ws l) : ClosedF ws (farAt l) := h

/-- **Whether there is a cycle is told from whatever all events begin with.** -/
theorem cycle_same {ws : List Wy} {m : Nat} {l l' : Far} (hm : l.length = m) (hm' : l'.length = m) (h0 : 0 < m) (hw : WaysIn m ws) (hf : fullF m l) (h : (longM ws m l).2 = false) : (longM ws m l').2 = false := by
  obtain ⟨q, b⟩ : ∃ q, longM ws m l = (q, false) := ⟨(longM ws m l).1, by rw [← h]⟩
  obtain ⟨t, t1, t2, t3⟩ := long_iter m b
  have hc : Closed ws q := fix_closed (by rw [t2, iterF_len, hm]; exact hw) (t3 rfl)
  have hfull : fullF m q := by rw [t2]; exact full_iter hm hw hf t
  exact long_at m (m - 1) (by omega) (iter_end hm' hw hc hfull (by omega))

/-- **Just so far apart.** -/
theorem tight {ws : List Wy} {m e : Nat} {q r a : Far} {b : Bool} {L : Int} (hm : 1 ≤ m ∧ m ≤ 16) (he : e < m) (hw : WaysIn m ws) (hC : ∀ w ∈ ws, -100000 ≤ w.2.2 ∧ w.2.2 ≤ 100000) (hL : L = 5000000)
    (hq : longM ws m (zerosF m) = (q, false)) (hr : longM ws m (lateF m e L) = (r, false)) (ha : longM ws m (aloneF m e) = (a, b)) :
    (∀ i, i < m → ∃ x, farAt q i = some x ∧ 0 ≤ x ∧ x ≤ 1600000) ∧ (∀ i, i < m → ∃ x, farAt r i = some x ∧ 0 ≤ x ∧ x ≤ 6600000) ∧ farAt r e = some L ∧
      ∀ i, i < m → i ≠ e → (∀ k, farAt a i = some k → farAt r i = some (L + k)) ∧ (farAt a i = none → farAt r i = farAt q i) := by
  have lz : (zerosF m).length = m := by simp [zerosF]
  have ll : (lateF m e L).length = m := by simp [lateF, lz]
  have la : (aloneF m e).length = m := by simp [aloneF]
  obtain ⟨tq, q1, q2, q3⟩ := long_iter m hq
  obtain ⟨tr, r1, r2, r3⟩ := long_iter m hr
  obtain ⟨ta, a1, a2, a3⟩ := long_iter m ha
  have cq : Closed ws q := fix_closed (by rw [q2, iterF_len, lz]; exact hw) (q3 rfl)
  have cr : Closed ws r := fix_closed (by rw [r2, iterF_len, ll]; exact hw) (r3 rfl)
  have fz : fullF m (zerosF m) := fun i hi => ⟨0, farAt_zeros hi⟩
  have fl : fullF m (lateF m e L) := fun i hi => ⟨_, farAt_late he hi⟩
  have fq : fullF m q := by rw [q2]; exact full_iter lz hw fz tq
  have fr : fullF m r := by rw [r2]; exact full_iter ll hw fl tr
  have hba : b = false := by
    have := long_at (ws := ws) m (m - 1) (l := aloneF m e) (by omega) (iter_end la hw cq fq (by omega))
    rw [ha] at this
    exact this
  have ca : Closed ws a := fix_closed (by rw [a2, iterF_len, la]; exact hw) (a3 hba)
  -- bounds
  have ht : ∀ t : Nat, t ≤ m → 100000 * (t : Int) ≤ 1600000 := fun t ht => by omega
  have uq : ∀ i x, farAt q i = some x → x ≤ 1600000 := fun i x hx => by
    rw [q2] at hx
    have := iter_up (M := 0) (C := 100000) (by rw [lz]; exact hw) (fun w h => (hC w h).2) (by omega) (fun i u hu => by
      have hi := farAt_lt hu
      rw [lz] at hi
      rw [farAt_zeros hi] at hu
      cases hu
      exact Int.le_refl _) tq i x hx
    have := ht tq q1
    omega
  have dq : ∀ i, i < m → ∃ x, farAt q i = some x ∧ 0 ≤ x := fun i hi => by
    obtain ⟨v, hv, h0⟩ := iterF_mono (ws := ws) (l := zerosF m) (by rw [lz]; exact hw) tq 0 i 0 (farAt_zeros hi)
    rw [Nat.zero_add, ← q2] at hv
    exact ⟨v, hv, h0⟩
  have da : ∀ i x, farAt a i = some x → -1600000 ≤ x := fun i x hx => by
    rw [a2] at hx
    have := iter_down (M := 0) (C := 100000) (by rw [la]; exact hw) (fun w h => (hC w h).1) (by omega) (fun i u hu => by
      rw [farAt_alone he] at hu
      split at hu
      · cases hu
        exact Int.le_refl _
      · cases hu) ta i x hx
    have := ht ta a1
    omega
  obtain ⟨pe, hpe, hpe0⟩ := dq e he
  -- what stands alone is not above the difference of right times
  have ua : leG a (fun i => (farAt q i).map (· - pe)) := by
    rw [a2]
    refine iterF_leG (by rw [la]; exact hw) (fun w hwm u hu => ?_) (fun i u hu => ?_) ta
    · cases hx : farAt q w.1 with
      | none => simp [hx] at hu
      | some x =>
        obtain ⟨v, h1, h2⟩ := cq w hwm x hx
        simp only [hx, Option.map_some, Option.some.injEq] at hu
        exact ⟨v - pe, by simp [h1], by omega⟩
    · rw [farAt_alone he] at hu
      split at hu
      · rename_i hie
        cases hu
        subst hie
        exact ⟨0, by simp [hpe], by omega⟩
      · cases hu
  have ae : farAt a e = some 0 := by
    obtain ⟨v, hv, h0⟩ := iterF_mono (ws := ws) (l := aloneF m e) (by rw [la]; exact hw) ta 0 e 0 (by rw [iterF, farAt_alone he, if_pos rfl])
    rw [Nat.zero_add, ← a2] at hv
    obtain ⟨x, hx, hle⟩ := ua e v hv
    simp only [hpe, Option.map_some, Option.some.injEq] at hx
    rw [hv]
    congr 1
    omega
  -- the later times: not below both
  have rq : leG q (farAt r) := by
    rw [q2]
    refine iterF_leG (by rw [lz]; exact hw) cr (fun i u hu => ?_) tq
    have hi := farAt_lt hu
    rw [lz] at hi
    rw [farAt_zeros hi] at hu
    cases hu
    obtain ⟨v, hv, h0⟩ := iterF_mono (ws := ws) (l := lateF m e L) (by rw [ll]; exact hw) tr 0 i _ (farAt_late he hi)
    rw [Nat.zero_add, ← r2] at hv
    refine ⟨v, hv, ?_⟩
    split at h0 <;> omega
  have ra : leG a (fun i => (farAt r i).map (· - L)) := by
    rw [a2]
    refine iterF_leG (by rw [la]; exact hw) (fun w hwm u hu => ?_) (fun i u hu => ?_) ta
    · cases hx : farAt r w.1 with
      | none => simp [hx] at hu
      | some x =>
        obtain ⟨v, h1, h2⟩ := cr w hwm x hx
        simp only [hx, Option.map_some, Option.some.injEq] at hu
        exact ⟨v - L, by simp [h1], by omega⟩
    · rw [farAt_alone he] at hu
      split at hu
      · rename_i hie
        cases hu
        subst hie
        obtain ⟨v, hv, h0⟩ := iterF_mono (ws := ws) (l := lateF m i L) (by rw [ll]; exact hw) tr 0 i _ (farAt_late he he)
        rw [Nat.zero_add, ← r2] at hv
        rw [if_pos rfl] at h0
        exact ⟨v - L, by simp [hv], by omega⟩
      · cases hu
  -- and not above the greater of both
  have rs : leG r (fun i => match farAt a i with
      | none => farAt q i
      | some k => (farAt q i).map fun x => max x (L + k)) := by
    rw [r2]
    refine iterF_leG (by rw [ll]; exact hw) (fun w hwm u hu => ?_) (fun i u hu => ?_) tr
    · obtain ⟨xq, hxq⟩ := fq w.1 (hw w hwm).1
      obtain ⟨y, y1, y2⟩ := cq w hwm xq hxq
      simp only [hxq] at hu
      simp only [y1]
      cases hx : farAt a w.1 with
      | none =>
        simp only [hx, Option.some.injEq] at hu
        subst hu
        cases hz : farAt a w.2.1 with
        | none => exact ⟨y, rfl, y2⟩
        | some k => exact ⟨max y (L + k), rfl, by omega⟩
      | some k =>
        simp only [hx, Option.map_some, Option.some.injEq] at hu
        obtain ⟨z, z1, z2⟩ := ca w hwm k hx
        simp only [z1, Option.map_some]
        exact ⟨max y (L + z), rfl, by omega⟩
    · have hi := farAt_lt hu
      rw [ll] at hi
      rw [farAt_late he hi] at hu
      cases hu
      obtain ⟨xq, hxq, hx0⟩ := dq i hi
      simp only [hxq]
      by_cases hie : i = e
      · rw [if_pos hie]
        subst hie
        simp only [ae, Option.map_some]
        exact ⟨max xq (L + 0), rfl, by omega⟩
      · rw [if_neg hie]
        cases farAt a i with
        | none => exact ⟨xq, rfl, hx0⟩
        | some k =>
          simp only [Option.map_some]
          exact ⟨max xq (L + k), rfl, by omega⟩
  have main : ∀ i, i < m → (∀ k, farAt a i = some k → farAt r i = some (L + k)) ∧ (farAt a i = none → farAt r i = farAt q i) := by
    intro i hi
    obtain ⟨xq, hxq, hx0⟩ := dq i hi
    obtain ⟨xr, hxr⟩ := fr i hi
    obtain ⟨y, y1, y2⟩ := rs i xr hxr
    have hup := uq i xq hxq
    constructor
    · intro k hk
      have hd := da i k hk
      simp only [hk, hxq, Option.map_some, Option.some.injEq] at y1
      obtain ⟨z, z1, z2⟩ := ra i k hk
      simp only [hxr, Option.map_some, Option.some.injEq] at z1
      rw [hxr]
      congr 1
      omega
    · intro hn
      simp only [hn, hxq, Option.some.injEq] at y1
      obtain ⟨z, z1, z2⟩ := rq i xq hxq
      rw [hxr, Option.some.injEq] at z1
      rw [hxr, hxq]
      congr 1
      omega
  refine ⟨fun i hi => ?_, fun i hi => ?_, ?_, fun i hi _ => main i hi⟩
  · obtain ⟨x, hx, h0⟩ := dq i hi
    exact ⟨x, hx, h0, uq i x hx⟩
  · obtain ⟨xq, hxq, hx0⟩ := dq i hi
    have hup := uq i xq hxq
    cases hk : farAt a i with
    | none => exact ⟨xq, by rw [(main i hi).2 hk, hxq], hx0, by omega⟩
    | some k =>
      have hd := da i k hk
      obtain ⟨z, z1, z2⟩ := ua i k hk
      simp only [hxq, Option.map_some, Option.some.injEq] at z1
      exact ⟨_, (main i hi).1 k hk, by omega, by omega⟩
  · have := (main e he).1 0 ae
    rw [this]
    simp
end Go.Proofs.YtnnnpijepdjanaaGreat
