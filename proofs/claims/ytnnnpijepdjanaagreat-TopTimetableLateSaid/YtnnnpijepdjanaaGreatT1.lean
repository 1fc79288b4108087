/- Greatest lengths of walks, by rounds: plain. -/
namespace Go.Proofs.YtnnnpijepdjanaaGreat

/-- a step: from, to, length -/
abbrev Wy := Nat × Nat × Int
/-- how far each event is; none: it is not reached -/
abbrev Far := List (Option Int)
def farAt (l : Far) (i : Nat) : Option Int := l[i]?.join
def beats (o : Option Int) (v : Int) : Bool := match o with
  | none => true
  | some u => decide (u < v)
def relax (l acc : Far) (w : Wy) : Far := match farAt l w.1 with
  | none => acc
  | some u => if beats (farAt acc w.2.1) (u + w.2.2) = true then acc.set w.2.1 (some (u + w.2.2)) else acc
def relaxGo (l : Far) : Far → List Wy → Far
  | acc, [] => acc
  | acc, w :: ws => relaxGo l (relax l acc w) ws
def farM (ws : List Wy) (l : Far) : Far := relaxGo l l ws
/-- rounds while something becomes greater; true: it still does behind all of them -/
def longM (ws : List Wy) : Nat → Far → Far × Bool
  | 0, l => (l, farM ws l != l)
  | k + 1, l => if farM ws l = l then (l, false) else longM ws k (farM ws l)

def WaysIn (m : Nat) (ws : List Wy) : Prop := ∀ w ∈ ws, w.1 < m ∧ w.2.1 < m
def leF (a b : Far) : Prop := ∀ i u, farAt a i = some u → ∃ v, farAt b i = some v ∧ u ≤ v
def Closed (ws : List Wy) (l : Far) : Prop := ∀ w ∈ ws, ∀ u, farAt l w.1 = some u → ∃ v, farAt l w.2.1 = some v ∧ u + w.2.2 ≤ v

theorem leF.refl (a : Far) : leF a a := fun _ u h => ⟨u, h, by omega⟩
theorem leF.trans {a b c : Far} (h : leF a b) (g : leF b c) : leF a c := fun i u hu => by
  obtain ⟨v, h1, h2⟩ := h i u hu
  obtain ⟨x, g1, g2⟩ := g i v h1
  exact ⟨x, g1, by omega⟩
theorem farAt_set {l : Far} {i j : Nat} {v : Int} (hi : i < l.length) : farAt (l.set i (some v)) j = if j = i then some v else farAt l j := by
  unfold farAt
  rw [List.getElem?_set]
  by_cases h : i = j
  · subst h
    simp [hi]
  · rw [if_neg h, if_neg (fun e => h e.symm)]
theorem ext_far {a b : Far} (hl : a.length = b.length) (h : ∀ i, farAt a i = farAt b i) : a = b := by
  apply List.ext_getElem hl
  intro i h1 h2
  have := h i
  unfold farAt at this
  rw [List.getElem?_eq_getElem h1, List.getElem?_eq_getElem h2] at this
  simpa using this
theorem relax_len (l acc : Far) (w : Wy) : (relax l acc w).length = acc.length := by
  unfold relax
  split
  · rfl
  · split
    · rw [List.length_set]
    · rfl
theorem relaxGo_len (l : Far) : ∀ (ws : List Wy) (acc : Far), (relaxGo l acc ws).length = acc.length
  | [], _ => rfl
  | w :: ws, acc => by rw [relaxGo, relaxGo_len l ws, relax_len]
theorem farM_len (ws : List Wy) (l : Far) : (farM ws l).length = l.length := relaxGo_len l ws l
theorem relax_ge {l acc : Far} {w : Wy} (hw : w.2.1 < acc.length) : leF acc (relax l acc w) := by
  intro i u hu
  unfold relax
  split
  · exact ⟨u, hu, by omega⟩
  · rename_i x hx
    split
    · rename_i hb
      rw [farAt_set hw]
      by_cases h : i = w.2.1
      · rw [if_pos h]
        subst h
        rw [hu] at hb
        simp only [beats, decide_eq_true_eq] at hb
        exact ⟨_, rfl, by omega⟩
      · rw [if_neg h]
        exact ⟨u, hu, by omega⟩
    · exact ⟨u, hu, by omega⟩
theorem relax_way {l acc : Far} {w : Wy} (hw : w.2.1 < acc.length) {u : Int} (hu : farAt l w.1 = some u) : ∃ v, farAt (relax l acc w) w.2.1 = some v ∧ u + w.2.2 ≤ v := by
  unfold relax
  rw [hu]
  simp only
  split
  · rw [farAt_set hw, if_pos rfl]
    exact ⟨_, rfl, by omega⟩
  · rename_i hb
    cases hf : farAt acc w.2.1 with
    | none => simp [hf, beats] at hb
    | some v =>
      rw [hf] at hb
      simp only [beats, decide_eq_true_eq] at hb
      exact ⟨v, rfl, by omega⟩
theorem relax_from {l acc : Far} {w : Wy} (hw : w.2.1 < acc.length) {i : Nat} {v : Int} (h : farAt (relax l acc w) i = some v) : farAt acc i = some v ∨ i = w.2.1 ∧ ∃ u, farAt l w.1 = some u ∧ v = u + w.2.2 := by
  unfold relax at h
  split at h
  · exact .inl h
  · rename_i x hx
    split at h
    · rw [farAt_set hw] at h
      by_cases hi : i = w.2.1
      · rw [if_pos hi] at h
        cases h
        exact .inr ⟨hi, x, hx, rfl⟩
      · rw [if_neg hi] at h
        exact .inl h
    · exact .inl h
theorem go_ge {l : Far} : ∀ {ws : List Wy} {acc : Far}, WaysIn acc.length ws → leF acc (relaxGo l acc ws)
  | [], acc, _ => leF.refl acc
  | w :: ws, acc, h => by
    rw [relaxGo]
    refine (relax_ge (l := l) (h w (by simp)).2).trans (go_ge ?_)
    intro x hx
    rw [relax_len]
    exact h x (by simp [hx])
theorem go_way {l : Far} : ∀ {ws : List Wy} {acc : Far}, WaysIn acc.length ws → ∀ w ∈ ws, ∀ u, farAt l w.1 = some u → ∃ v, farAt (relaxGo l acc ws) w.2.1 = some v ∧ u + w.2.2 ≤ v
  | [], _, _, w, hw => by simp at hw
  | x :: ws, acc, h, w, hw => by
    intro u hu
    rw [relaxGo]
    have h' : WaysIn (relax l acc x).length ws := fun y hy => by rw [relax_len]; exact h y (by simp [hy])
    rcases List.mem_cons.1 hw with rfl | hw
    · obtain ⟨v, h1, h2⟩ := relax_way (h w (by simp)).2 hu
      obtain ⟨v', g1, g2⟩ := go_ge (l := l) h' _ _ h1
      exact ⟨v', g1, by omega⟩
    · exact go_way h' w hw u hu
theorem go_from {l : Far} : ∀ {ws : List Wy} {acc : Far}, WaysIn acc.length ws → ∀ {i v}, farAt (relaxGo l acc ws) i = some v → farAt acc i = some v ∨ ∃ w ∈ ws, i = w.2.1 ∧ ∃ u, farAt l w.1 = some u ∧ v = u + w.2.2
  | [], _, _, _, _, h => .inl h
  | x :: ws, acc, h, i, v, hv => by
    rw [relaxGo] at hv
    have h' : WaysIn (relax l acc x).length ws := fun y hy => by rw [relax_len]; exact h y (by simp [hy])
    rcases go_from h' hv with g | ⟨w, hw, g⟩
    · rcases relax_from (h x (by simp)).2 g with g | g
      · exact .inl g
      · exact .inr ⟨x, by simp, g⟩
    · exact .inr ⟨w, by simp [hw], g⟩
theorem farM_ge {ws : List Wy} {l : Far} (h : WaysIn l.length ws) : leF l (farM ws l) := go_ge h
theorem farM_way {ws : List Wy} {l : Far} (h : WaysIn l.length ws) : ∀ w ∈ ws, ∀ u, farAt l w.1 = some u → ∃ v, farAt (farM ws l) w.2.1 = some v ∧ u + w.2.2 ≤ v := go_way h
theorem farM_from {ws : List Wy} {l : Far} (h : WaysIn l.length ws) {i : Nat} {v : Int} (hv : farAt (farM ws l) i = some v) : farAt l i = some v ∨ ∃ w ∈ ws, i = w.2.1 ∧ ∃ u, farAt l w.1 = some u ∧ v = u + w.2.2 := go_from h hv
theorem relax_closed {l : Far} {w : Wy} (h : ∀ u, farAt l w.1 = some u → ∃ v, farAt l w.2.1 = some v ∧ u + w.2.2 ≤ v) : relax l l w = l := by
  unfold relax
  cases hu : farAt l w.1 with
  | none => rfl
  | some u =>
    obtain ⟨v, h1, h2⟩ := h u hu
    simp only
    rw [h1]
    simp only [beats, decide_eq_true_eq]
    rw [if_neg (by omega)]
theorem closed_fix {ws : List Wy} {l : Far} (h : Closed ws l) : farM ws l = l := by
  unfold farM
  suffices ∀ vs : List Wy, (∀ w ∈ vs, w ∈ ws) → relaxGo l l vs = l from this ws fun _ h => h
  intro vs
  induction vs with
  | nil => intro _; rfl
  | cons w vs ih =>
    intro hm
    rw [relaxGo, relax_closed (h w (hm w (by simp)))]
    exact ih fun x hx => hm x (by simp [hx])
theorem fix_closed {ws : List Wy} {l : Far} (hw : WaysIn l.length ws) (h : farM ws l = l) : Closed ws l := by
  intro w hm u hu
  have := farM_way hw w hm u hu
  rwa [h] at this
theorem farM_le {ws : List Wy} {l q : Far} (hw : WaysIn l.length ws) (hq : Closed ws q) (h : leF l q) : leF (farM ws l) q := by
  intro i v hv
  rcases farM_from hw hv with g | ⟨w, hm, rfl, u, hu, rfl⟩
  · exact h i v g
  · obtain ⟨x, h1, h2⟩ := h _ _ hu
    obtain ⟨y, g1, g2⟩ := hq w hm x h1
    exact ⟨y, g1, by omega⟩

/-- the rounds -/
def iterF (ws : List Wy) : Nat → Far → Far
  | 0, l => l
  | k + 1, l => farM ws (iterF ws k l)
theorem iterF_len (ws : List Wy) (l : Far) : ∀ k, (iterF ws k l).length = l.length
  | 0 => rfl
  | k + 1 => by rw [iterF, farM_len, iterF_len ws l k]
theorem iterF_succ (ws : List Wy) : ∀ (k : Nat) (l : Far), iterF ws (k + 1) l = iterF ws k (farM ws l)
  | 0, _ => rfl
  | k + 1, l => by rw [iterF, iterF_succ ws k, iterF]
theorem iterF_mono {ws : List Wy} {l : Far} (hw : WaysIn l.length ws) : ∀ (d s : Nat), leF (iterF ws s l) (iterF ws (s + d) l)
  | 0, _ => leF.refl _
  | d + 1, s => (iterF_mono hw d s).trans (by
      rw [show s + (d + 1) = (s + d) + 1 by omega, iterF]
      exact farM_ge (by rw [iterF_len]; exact hw))
theorem iterF_le {ws : List Wy} {l q : Far} (hw : WaysIn l.length ws) (hq : Closed ws q) (h : leF l q) : ∀ k, leF (iterF ws k l) q
  | 0 => h
  | k + 1 => farM_le (by rw [iterF_len]; exact hw) hq (iterF_le hw hq h k)
/-- an event that has become greater in a round has so many different events ahead of it -/
theorem grown_nodes {ws : List Wy} {l p : Far} (hw : WaysIn l.length ws) (hp : Closed ws p) (hfull : ∀ i, i < l.length → ∃ x, farAt p i = some x) :
    ∀ (t i : Nat) (v : Int), farAt (iterF ws t l) i = some v → (t = 0 ∨ beats (farAt (iterF ws (t - 1) l) i) v = true) →
      ∃ ns : List Nat, ns.length = t + 1 ∧ ns.Nodup ∧ (∀ x ∈ ns, x < l.length) ∧ ∀ x ∈ ns, ∃ s u px pi, s ≤ t ∧ farAt (iterF ws s l) x = some u ∧ farAt p x = some px ∧ farAt p i = some pi ∧ v - pi ≤ u - px
  | 0, i, v, hv, _ => by
    have hi : i < l.length := by
      rw [iterF, farAt] at hv
      refine Decidable.byContradiction fun h => ?_
      rw [List.getElem?_eq_none (by omega)] at hv
      cases hv
    obtain ⟨x, hx⟩ := hfull i hi
    refine ⟨[i], rfl, by simp, by simpa using hi, fun y hy => ?_⟩
    obtain rfl : y = i := by simpa using hy
    exact ⟨0, v, x, x, Nat.le_refl _, hv, hx, hx, by omega⟩
  | t + 1, i, v, hv, hg => by
    have hg : beats (farAt (iterF ws t l) i) v = true := by
      rcases hg with h | h
      · cases h
      · simpa using h
    have hwt : WaysIn (iterF ws t l).length ws := by rw [iterF_len]; exact hw
    rw [iterF] at hv
    rcases farM_from hwt hv with h | ⟨w, hm, hi, u, hu, hvu⟩
    · rw [h] at hg
      simp [beats] at hg
    · have hgrow : t = 0 ∨ beats (farAt (iterF ws (t - 1) l) w.1) u = true := by
        by_cases h0 : t = 0
        · exact .inl h0
        · refine .inr ?_
          cases hb : farAt (iterF ws (t - 1) l) w.1 with
          | none => rfl
          | some y =>
            have hy : y ≤ u := by
              obtain ⟨z, z1, z2⟩ := iterF_mono hw 1 (t - 1) w.1 y hb
              rw [show t - 1 + 1 = t by omega, hu] at z1
              cases z1
              exact z2
            simp only [beats, decide_eq_true_eq]
            refine Decidable.byContradiction fun hn => ?_
            obtain rfl : y = u := by omega
            have hwt' : WaysIn (iterF ws (t - 1) l).length ws := by rw [iterF_len]; exact hw
            obtain ⟨z, z1, z2⟩ := farM_way hwt' w hm y hb
            have e : iterF ws t l = farM ws (iterF ws (t - 1) l) := by
              conv => lhs; rw [show t = t - 1 + 1 by omega]
              rfl
            rw [← e, ← hi] at z1
            rw [z1] at hg
            simp only [beats, decide_eq_true_eq] at hg
            omega
      obtain ⟨ns, n1, n2, n3, n4⟩ := grown_nodes hw hp hfull t w.1 u hu hgrow
      have hil : i < l.length := by rw [hi]; exact (hw w hm).2
      obtain ⟨pi, hpi⟩ := hfull i hil
      obtain ⟨pj, hpj⟩ := hfull w.1 (hw w hm).1
      have hred : v - pi ≤ u - pj := by
        obtain ⟨z, z1, z2⟩ := hp w hm pj hpj
        rw [← hi, hpi] at z1
        cases z1
        omega
      have hnot : i ∉ ns := by
        intro hin
        obtain ⟨s, ux, px, pjj, s1, s2, s3, s4, s5⟩ := n4 i hin
        rw [hpi] at s3
        cases s3
        rw [hpj] at s4
        cases s4
        obtain ⟨z, z1, z2⟩ := iterF_mono hw (t - s) s i ux s2
        rw [show s + (t - s) = t by omega] at z1
        rw [z1] at hg
        simp only [beats, decide_eq_true_eq] at hg
        omega
      refine ⟨i :: ns, by simp [n1], List.nodup_cons.2 ⟨hnot, n2⟩, fun x hx => ?_, fun x hx => ?_⟩
      · rcases List.mem_cons.1 hx with rfl | hx
        · exact hil
        · exact n3 x hx
      · rcases List.mem_cons.1 hx with rfl | hx
        · exact ⟨t + 1, v, pi, pi, Nat.le_refl _, hv, hpi, hpi, by omega⟩
        · obtain ⟨s, ux, px, pjj, s1, s2, s3, s4, s5⟩ := n4 x hx
          rw [hpj] at s4
          cases s4
          exact ⟨s, ux, px, pi, by omega, s2, s3, hpi, by omega⟩
theorem nodup_len {ns : List Nat} {m : Nat} (hn : ns.Nodup) (h : ∀ x ∈ ns, x < m) : ns.length ≤ m := by
  have hp : ns.Perm ((List.range m).filter fun x => ns.contains x) := by
    rw [List.perm_ext_iff_of_nodup hn (List.nodup_range.filter _)]
    intro x
    simp only [List.mem_filter, List.mem_range, List.contains_iff_mem]
    exact ⟨fun hx => ⟨h x hx, hx⟩, fun hx => hx.2⟩
  rw [hp.length_eq]
  refine Nat.le_trans (List.length_filter_le _ _) ?_
  simp
/-- with times that keep all steps, the rounds come to an end behind as many as there are events -/
theorem iter_end {ws : List Wy} {l p : Far} {m : Nat} (hm : l.length = m) (hw : WaysIn m ws) (hp : Closed ws p) (hfull : ∀ i, i < m → ∃ x, farAt p i = some x) {t : Nat} (ht : m ≤ t + 1) : farM ws (iterF ws t l) = iterF ws t l := by
  subst hm
  refine ext_far (by rw [farM_len]) fun i => ?_
  have hwt : WaysIn (iterF ws t l).length ws := by rw [iterF_len]; exact hw
  cases hv : farAt (farM ws (iterF ws t l)) i with
  | none =>
    cases hu : farAt (iterF ws t l) i with
    | none => rfl
    | some u =>
      obtain ⟨z, z1, _⟩ := farM_ge hwt i u hu
      rw [hv] at z1
      cases z1
  | some v =>
    by_cases hb : beats (farAt (iterF ws (t + 1 - 1) l) i) v = true
    · exfalso
      obtain ⟨ns, n1, n2, n3, _⟩ := grown_nodes hw hp hfull (t + 1) i v hv (.inr hb)
      have := nodup_len n2 n3
      omega
    · rw [show t + 1 - 1 = t by omega] at hb
      cases hu : farAt (iterF ws t l) i with
      | none => simp [hu, beats] at hb
      | some u =>
        rw [hu] at hb
        simp only [beats, decide_eq_true_eq] at hb
        obtain ⟨z, z1, z2⟩ := farM_ge hwt i u hu
        rw [hv] at z1
        cases z1
        have : u = v := by omega
        rw [this]
end Go.Proofs.YtnnnpijepdjanaaGreat
