/- Right states stay right: plain. -/
import Derived.Test.YtlbgocgocanloaaGreatDoorf4E1
namespace Go.Proofs.YtlbgocgocanloaaGreatDoor
/-- the error of a state of right doors -/
def stateE (D T S : Int) (s : Tr) : Int :=
  firstE [placeE s.place, unlessE (decide ((s.gates.length : Int) = D) && decide ((s.doors.length : Int) = D)) 10, unlessE (!s.mv || !isOpenB s) 23, unlessE (inPlaceB T S s.place || !hasB s.gates true) 9, unlessE (s.al || !bareB s) 17]
theorem firstE_cons {a : Int} {l : List Int} : firstE (a :: l) = 0 ↔ a = 0 ∧ firstE l = 0 := by
  simp only [firstE]
  split
  · rename_i h; simp [h]
  · rename_i h; simp [h]
theorem firstE_nil : firstE [] = 0 := rfl
structure Right (D : Nat) (T S : Int) (s : Tr) : Prop where
  lg : s.gates.length = D
  ld : s.doors.length = D
  place : placeE s.place = 0
  mv : s.mv = true → isOpenB s = false
  inp : hasB s.gates true = true → inPlaceB T S s.place = true
  bare : s.al = false → bareB s = false
theorem right_iff {D : Nat} {T S : Int} {s : Tr} : stateE D T S s = 0 ↔ Right D T S s := by
  unfold stateE
  simp only [firstE_cons, firstE_nil, and_true]
  rw [unlessE_zero (by omega), unlessE_zero (by omega), unlessE_zero (by omega), unlessE_zero (by omega)]
  constructor
  · rintro ⟨h1, h2, h3, h4, h5⟩
    simp only [Bool.and_eq_true, decide_eq_true_eq] at h2
    refine ⟨by omega, by omega, h1, fun h => ?_, fun h => ?_, fun h => ?_⟩
    · rw [h] at h3; simpa using h3
    · rw [h] at h4; simpa using h4
    · rw [h] at h5; simpa using h5
  · rintro ⟨h1, h2, h3, h4, h5, h6⟩
    refine ⟨h3, by simp [h1, h2], ?_, ?_, ?_⟩
    · cases h : s.mv with
      | false => rfl
      | true => simp [h4 h]
    · cases h : hasB s.gates true with
      | false => simp
      | true => simp [h5 h]
    · cases h : s.al with
      | true => rfl
      | false => simp [h6 h]
theorem hasB_false {l : List Bool} : hasB l true = false ↔ ∀ i : Nat, l[i]?.getD false = false := by
  unfold hasB
  rw [List.any_eq_false]
  constructor
  · intro h i
    rcases Nat.lt_or_ge i l.length with hi | hi
    · have := h l[i] (List.getElem_mem hi)
      rw [List.getElem?_eq_getElem hi, Option.getD_some]
      cases hb : l[i] with
      | false => rfl
      | true => rw [hb] at this; simp at this
    · rw [List.getElem?_eq_none hi]; rfl
  · intro h b hb
    obtain ⟨i, hi, rfl⟩ := List.mem_iff_getElem.1 hb
    have := h i
    rw [List.getElem?_eq_getElem hi, Option.getD_some] at this
    simp [this]
theorem bareGo_false : ∀ {ds gs : List Bool}, bareGo ds gs = false ↔ ∀ i : Nat, ds[i]?.getD false = true → gs[i]?.getD false = true
  | [], gs => by simp [bareGo]
  | d :: ds, gs => by
    have ih := bareGo_false (ds := ds) (gs := gs.tail)
    unfold bareGo
    rw [Bool.or_eq_false_iff, ih]
    have h0 : gs.headD false = gs[0]?.getD false := by cases gs <;> rfl
    have ht : ∀ i : Nat, gs.tail[i]? = gs[i + 1]? := fun i => by cases gs <;> simp
    constructor
    · rintro ⟨h1, h2⟩ i hi
      cases i with
      | zero =>
        have : d = true := by simpa using hi
        rw [this, h0] at h1
        simpa using h1
      | succ i =>
        have := h2 i (by simpa using hi)
        rwa [ht] at this
    · intro h
      refine ⟨?_, fun i hi => ?_⟩
      · cases d with
        | false => rfl
        | true =>
          have := h 0 (by simp)
          rw [h0, this]
          rfl
      · have := h (i + 1) (by simpa using hi)
        rwa [ht]
theorem getD_set {l : List Bool} {d i : Nat} {b : Bool} (hd : d < l.length) : (l.set d b)[i]?.getD false = if i = d then b else l[i]?.getD false := by
  by_cases h : d = i
  · subst h; simp [hd]
  · rw [List.getElem?_set_ne h, if_neg (Ne.symm h)]
theorem bareB_false {s : Tr} : bareB s = false ↔ ∀ i : Nat, s.doors[i]?.getD false = true → s.gates[i]?.getD false = true := bareGo_false
theorem isOpenB_false {s : Tr} : isOpenB s = false ↔ (∀ i : Nat, s.gates[i]?.getD false = false) ∧ ∀ i : Nat, s.doors[i]?.getD false = false := by
  unfold isOpenB
  rw [Bool.or_eq_false_iff, hasB_false, hasB_false]
theorem hasB_true {l : List Bool} : hasB l true = true ↔ ∃ i : Nat, l[i]?.getD false = true := by
  constructor
  · intro h
    refine Classical.byContradiction fun hn => ?_
    have : hasB l true = false := hasB_false.2 fun i => by
      cases hi : l[i]?.getD false with
      | false => rfl
      | true => exact absurd ⟨i, hi⟩ hn
    rw [this] at h
    cases h
  · rintro ⟨i, hi⟩
    cases h : hasB l true with
    | true => rfl
    | false => rw [hasB_false.1 h i] at hi; cases hi
theorem seqE_zero {a b : Int} (h : seqE a b = 0) : a = 0 ∧ b = 0 := by
  unfold seqE at h
  split at h
  · rename_i h0; exact ⟨h0, h⟩
  · rename_i h0; exact absurd h h0
theorem evE_zero {D : Nat} {p d : Bool} {pl dr : Int} (h : evE D p d pl dr = 0) : (p = true → placeE pl = 0) ∧ (d = true → dr.toNat < D) := by
  unfold evE at h
  simp only [firstE_cons, firstE_nil, and_true] at h
  rw [unlessE_zero (by omega), unlessE_zero (by omega), unlessE_zero (by omega)] at h
  obtain ⟨_, h2, h3⟩ := h
  refine ⟨fun hp => ?_, fun hd => ?_⟩
  · rw [hp] at h2
    have : isPlaceB pl = true := by simpa using h2
    unfold placeE
    rw [this]
    rfl
  · rw [hd] at h3
    have : withinB dr 0 ((D : Int) - 1) = true := by simpa using h3
    simp only [withinB, Bool.and_eq_true, decide_eq_true_eq] at this
    omega
/-- **An event that is accepted leaves a right state.** -/
theorem apply_right {D : Nat} {T S : Int} {s : Tr} {k pl dr : Int} (h : Right D T S s) (ha : applyE D T S s k pl dr = 0) : Right D T S (applyS s k pl dr) := by
  obtain ⟨lg, ld, hp, hm, hi, hb⟩ := h
  unfold applyE at ha
  unfold applyS
  split at ha
  · -- leave
    obtain ⟨_, h2⟩ := seqE_zero ha
    unfold leaveE at h2
    simp only [firstE_cons, firstE_nil, and_true] at h2
    rw [unlessE_zero (by omega), unlessE_zero (by omega)] at h2
    have ho : isOpenB s = false := by simpa using h2.2
    exact ⟨lg, ld, hp, fun _ => ho, hi, hb⟩
  · -- stop
    obtain ⟨h1, h2⟩ := seqE_zero ha
    unfold stopE at h2
    simp only [firstE_cons, firstE_nil, and_true] at h2
    rw [unlessE_zero (by omega)] at h2
    have ho := isOpenB_false.1 (hm h2)
    refine ⟨lg, ld, (evE_zero h1).1 rfl, fun h => (by cases h), fun h => ?_, hb⟩
    obtain ⟨i, hi⟩ := hasB_true.1 h
    have hi' : s.gates[i]?.getD false = true := hi
    rw [ho.1 i] at hi'
    cases hi'
  · -- gate
    obtain ⟨h1, h2⟩ := seqE_zero ha
    have hd := (evE_zero h1).2 rfl
    unfold gateE at h2
    simp only [firstE_cons, firstE_nil, and_true] at h2
    rw [unlessE_zero (by omega), unlessE_zero (by omega), unlessE_zero (by omega)] at h2
    obtain ⟨h3, h4, _⟩ := h2
    refine ⟨by simpa using lg, ld, hp, fun h => ?_, fun _ => h4, fun h => bareB_false.2 fun i hi' => ?_⟩
    · have h' : s.mv = true := h
      rw [h'] at h3
      cases h3
    · have := bareB_false.1 (hb h) i hi'
      show (s.gates.set dr.toNat true)[i]?.getD false = true
      rw [getD_set (by rw [lg]; exact hd)]
      split
      · rfl
      · exact this
  · -- bar
    obtain ⟨h1, h2⟩ := seqE_zero ha
    have hd := (evE_zero h1).2 rfl
    unfold barE at h2
    simp only [firstE_cons, firstE_nil, and_true] at h2
    rw [unlessE_zero (by omega), unlessE_zero (by omega)] at h2
    obtain ⟨h3, h4⟩ := h2
    refine ⟨by simpa using lg, ld, hp, fun h => isOpenB_false.2 ⟨fun i => ?_, fun i => ?_⟩, fun h => ?_, fun h => bareB_false.2 fun i hi' => ?_⟩
    · show (s.gates.set dr.toNat false)[i]?.getD false = false
      rw [getD_set (by rw [lg]; exact hd)]
      split
      · rfl
      · exact (isOpenB_false.1 (hm h)).1 i
    · exact (isOpenB_false.1 (hm h)).2 i
    · obtain ⟨i, hi'⟩ := hasB_true.1 h
      have hi2 : (s.gates.set dr.toNat false)[i]?.getD false = true := hi'
      rw [getD_set (by rw [lg]; exact hd)] at hi2
      split at hi2
      · cases hi2
      · exact hi (hasB_true.2 ⟨i, hi2⟩)
    · have h' : s.al = false := h
      have := bareB_false.1 (hb h) i hi'
      show (s.gates.set dr.toNat false)[i]?.getD false = true
      rw [getD_set (by rw [lg]; exact hd)]
      split
      · rename_i he
        have hi2 : s.doors[i]?.getD false = true := hi'
        rw [h', ← he, hi2] at h4
        cases h4
      · exact this
  · -- open
    obtain ⟨h1, h2⟩ := seqE_zero ha
    have hd := (evE_zero h1).2 rfl
    unfold openE at h2
    simp only [firstE_cons, firstE_nil, and_true] at h2
    rw [unlessE_zero (by omega), unlessE_zero (by omega), unlessE_zero (by omega), unlessE_zero (by omega)] at h2
    obtain ⟨h3, _, h5, _⟩ := h2
    refine ⟨lg, by simpa using ld, hp, fun h => ?_, hi, fun h => bareB_false.2 fun i hi' => ?_⟩
    · have h' : s.mv = true := h
      rw [h'] at h3
      cases h3
    · have h' : s.al = false := h
      have hi2 : (s.doors.set dr.toNat true)[i]?.getD false = true := hi'
      rw [getD_set (by rw [ld]; exact hd)] at hi2
      split at hi2
      · rename_i he
        rw [h'] at h5
        rw [he]
        simpa using h5
      · exact bareB_false.1 (hb h) i hi2
  · -- shut
    obtain ⟨h1, h2⟩ := seqE_zero ha
    have hd := (evE_zero h1).2 rfl
    refine ⟨lg, by simpa using ld, hp, fun h => isOpenB_false.2 ⟨(isOpenB_false.1 (hm h)).1, fun i => ?_⟩, hi, fun h => bareB_false.2 fun i hi' => ?_⟩
    · show (s.doors.set dr.toNat false)[i]?.getD false = false
      rw [getD_set (by rw [ld]; exact hd)]
      split
      · rfl
      · exact (isOpenB_false.1 (hm h)).2 i
    · have hi2 : (s.doors.set dr.toNat false)[i]?.getD false = true := hi'
      rw [getD_set (by rw [ld]; exact hd)] at hi2
      split at hi2
      · cases hi2
      · exact bareB_false.1 (hb h) i hi2
  · -- alarm
    exact ⟨lg, ld, hp, hm, hi, fun h => (by cases h)⟩
  · -- calm
    obtain ⟨_, h2⟩ := seqE_zero ha
    unfold calmE at h2
    simp only [firstE_cons, firstE_nil, and_true] at h2
    rw [unlessE_zero (by omega), unlessE_zero (by omega)] at h2
    exact ⟨lg, ld, hp, hm, hi, fun _ => (show bareB s = false by simpa using h2.2)⟩
  · cases ha
theorem begin0_right {D : Nat} {T S place : Int} (hp : placeE place = 0) : Right D T S ⟨false, false, place, List.replicate D false, List.replicate D false⟩ := by
  have h0 : ∀ i : Nat, (List.replicate D false)[i]?.getD false = false := fun i => by
    rcases Nat.lt_or_ge i D with h | h
    · simp [h]
    · rw [List.getElem?_eq_none (by simpa using h)]; rfl
  refine ⟨by simp, by simp, hp, fun h => (by cases h), fun h => ?_, fun _ => bareB_false.2 fun i hi => ?_⟩
  · obtain ⟨i, hi⟩ := hasB_true.1 h
    rw [h0 i] at hi
    cases hi
  · rw [h0 i] at hi
    cases hi
end Go.Proofs.YtlbgocgocanloaaGreatDoor
