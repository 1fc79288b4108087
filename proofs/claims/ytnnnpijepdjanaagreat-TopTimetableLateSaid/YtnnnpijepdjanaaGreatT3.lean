/- The timetable, plainly: activities, their ways, rounds with a flag. -/
import Derived.Test.YtnnnpijepdjanaaGreatT2
namespace Go.Proofs.YtnnnpijepdjanaaGreat

/-- an activity: kind, from, to, least, most, wait -/
structure Act where
  kind : Int
  src : Int
  dst : Int
  least : Int
  most : Int
  wait : Int
def fwdW (a : Act) : Wy := (a.src.toNat, a.dst.toNat, a.least)
def backW (a : Act) : Wy := (a.dst.toNat, a.src.toNat, -a.most)
def waysA (a : Act) : List Wy := if a.most = -1 then [fwdW a] else [fwdW a, backW a]
def waysM (l : List Act) : List Wy := l.flatMap waysA
/-- a right activity of a net with m events -/
def actR (m : Nat) (a : Act) : Prop := (0 ≤ a.kind ∧ a.kind ≤ 4) ∧ (0 ≤ a.src ∧ a.src < m) ∧ (0 ≤ a.dst ∧ a.dst < m) ∧ a.src ≠ a.dst ∧ (1 ≤ a.least ∧ a.least ≤ 100000) ∧ (a.most = -1 ∨ (1 ≤ a.most ∧ a.most ≤ 100000 ∧ a.least ≤ a.most)) ∧ (0 ≤ a.wait ∧ a.wait ≤ 100000) ∧ (a.kind = 2 ∨ a.wait = 0)
instance (m : Nat) (a : Act) : Decidable (actR m a) := by unfold actR; infer_instance
theorem ways_in {m : Nat} {l : List Act} (h : ∀ a ∈ l, actR m a) : WaysIn m (waysM l) := by
  intro w hw
  simp only [waysM, List.mem_flatMap] at hw
  obtain ⟨a, ha, hw⟩ := hw
  obtain ⟨_, h1, h2, _⟩ := h a ha
  unfold waysA at hw
  split at hw <;> simp [fwdW, backW] at hw
  · subst hw
    simp only
    omega
  · rcases hw with rfl | rfl <;> simp only <;> omega
theorem ways_len {m : Nat} {l : List Act} (h : ∀ a ∈ l, actR m a) : ∀ w ∈ waysM l, -100000 ≤ w.2.2 ∧ w.2.2 ≤ 100000 := by
  intro w hw
  simp only [waysM, List.mem_flatMap] at hw
  obtain ⟨a, ha, hw⟩ := hw
  obtain ⟨_, _, _, _, h1, h2, _⟩ := h a ha
  unfold waysA at hw
  split at hw <;> simp [fwdW, backW] at hw
  · subst hw
    simp only
    omega
  · rcases hw with rfl | rfl <;> simp only <;> omega

/-- something became greater -/
def moreGo (l : Far) : Far → List Wy → Bool
  | _, [] => false
  | acc, w :: ws => (match farAt l w.1 with
    | none => false
    | some u => beats (farAt acc w.2.1) (u + w.2.2)) || moreGo l (relax l acc w) ws
theorem relax_more {l acc : Far} {w : Wy} (hw : w.2.1 < acc.length) : (match farAt l w.1 with
    | none => false
    | some u => beats (farAt acc w.2.1) (u + w.2.2)) = true ↔ relax l acc w ≠ acc := by
  unfold relax
  cases h : farAt l w.1 with
  | none => simp
  | some u =>
    simp only
    by_cases hb : beats (farAt acc w.2.1) (u + w.2.2) = true
    · simp only [hb, if_true, true_iff]
      intro e
      have : farAt (acc.set w.2.1 (some (u + w.2.2))) w.2.1 = farAt acc w.2.1 := by rw [e]
      rw [farAt_set hw, if_pos rfl] at this
      rw [← this] at hb
      simp [beats] at hb
    · simp [hb]
theorem leF.antisymm {a b : Far} (hl : a.length = b.length) (h : leF a b) (g : leF b a) : a = b := by
  apply ext_far hl
  intro i
  cases ha : farAt a i with
  | none =>
    cases hb : farAt b i with
    | none => rfl
    | some v =>
      obtain ⟨x, hx, _⟩ := g i v hb
      rw [ha] at hx
      cases hx
  | some u =>
    obtain ⟨v, hv, h1⟩ := h i u ha
    obtain ⟨x, hx, h2⟩ := g i v hv
    rw [ha] at hx
    cases hx
    rw [hv]
    congr 1
    omega
theorem moreGo_iff {l : Far} : ∀ {ws : List Wy} {acc : Far}, WaysIn acc.length ws → (moreGo l acc ws = true ↔ relaxGo l acc ws ≠ acc)
  | [], acc, _ => by simp [moreGo, relaxGo]
  | w :: ws, acc, h => by
    have hw := (h w (by simp)).2
    have hws : WaysIn (relax l acc w).length ws := by
      rw [relax_len]
      exact fun x hx => h x (by simp [hx])
    rw [moreGo, relaxGo, Bool.or_eq_true, relax_more hw, moreGo_iff hws]
    constructor
    · intro h1 e
      have h2 : leF acc (relax l acc w) := relax_ge hw
      have h3 : leF (relax l acc w) (relaxGo l (relax l acc w) ws) := go_ge hws
      rw [e] at h3
      have h4 : relax l acc w = acc := leF.antisymm (relax_len _ _ _) h3 h2
      rcases h1 with h1 | h1
      · exact h1 h4
      · exact h1 (e.trans h4.symm)
    · intro h1
      by_cases h2 : relax l acc w = acc
      · refine .inr fun e => h1 ?_
        rw [e, h2]
      · exact .inl h2
theorem more_iff {l : Far} {ws : List Wy} (h : WaysIn l.length ws) : moreGo l l ws = true ↔ farM ws l ≠ l := moreGo_iff h
theorem more_false {l : Far} {ws : List Wy} (h : WaysIn l.length ws) : moreGo l l ws = false ↔ farM ws l = l := by
  have := more_iff h
  cases hm : moreGo l l ws
  · simp [hm] at this
    simp [this]
  · simp [hm] at this
    simp [this]
end Go.Proofs.YtnnnpijepdjanaaGreat
