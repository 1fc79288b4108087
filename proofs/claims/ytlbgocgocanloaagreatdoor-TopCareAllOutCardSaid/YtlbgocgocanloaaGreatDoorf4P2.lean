/- The flow as it is built holds what may pass; the greatest flow of right rooms: plain. -/
import Derived.Test.YtlbgocgocanloaaGreatDoorf4P1
namespace Go.Proofs.YtlbgocgocanloaaGreatDoor
def capPeople (U : Nat → Bool) (s : Nat) : Nat → List Int → Int
  | _, [] => 0
  | r, n :: l => (if U s && !U r then n else 0) + capPeople U s (r + 1) l
def capStay (U : Nat → Bool) (here next : Nat) (all : Int) : Nat → Nat → Int
  | _, 0 => 0
  | r, k + 1 => (if U (here + r) && !U (next + r) then all else 0) + capStay U here next all (r + 1) k
def capWays (U : Nat → Bool) (o here next : Nat) : List Ev → Int
  | [] => 0
  | x :: l => (if U (here + x.1.toNat) && !U (wayTo o next x.2.1) then x.2.2 else 0) + capWays U o here next l
def capTicks (U : Nat → Bool) (R : Nat) (all : Int) (ws : List Ev) (o : Nat) : Nat → Nat → Int
  | _, 0 => 0
  | t, k + 1 => capStay U (t * R) ((t + 1) * R) all 0 R + capWays U o (t * R) ((t + 1) * R) ws + capTicks U R all ws o (t + 1) k
/-- what may pass out of a set of nodes -/
def capM (pp : List Int) (ws : List Ev) (T : Nat) (U : Nat → Bool) : Int :=
  capPeople U (pp.length * (T + 1)) 0 pp + capTicks U pp.length (sumL pp) ws (pp.length * (T + 1) + 1) 0 T
structure Built (V s o R T n : Nat) (c : (Nat → Bool) → Int) (F : Fl) : Prop where
  sh : FlSh V s o R T n F
  adj : FlAdj F
  arcs : ArcsGood F.arcs
  rest : ∀ U, restU U F.arcs = c U
theorem restU_append (U : Nat → Bool) : ∀ (l m : List Arc), restU U (l ++ m) = restU U l + restU U m
  | [], m => by simp [restU]
  | a :: l, m => by
    have := restU_append U l m
    simp only [List.cons_append, restU, this]
    omega
theorem Built.join {V s o R T n : Nat} {c : (Nat → Bool) → Int} {F : Fl} (h : Built V s o R T n c F) {fr to : Nat} {most : Int} (hf : fr < V) (ht : to < V) (hne : fr ≠ to) (h0 : 0 ≤ most) (h1 : most ≤ 60000) :
    Built V s o R T (n + 1) (fun U => c U + if U fr && !U to then most else 0) (F.join fr to most) := by
  have hL := h.sh.arcsN
  have hV := h.sh.adjN
  refine ⟨h.sh.join hf ht, ⟨?_, ?_⟩, ⟨?_, ?_⟩, fun U => ?_⟩
  · intro k i l hk hi
    show ∃ a, (F.arcs ++ [⟨fr, to, most, F.arcs.length + 1⟩, ⟨to, fr, 0, F.arcs.length⟩])[i]? = some a ∧ a.fr = k
    have old : ∀ (k : Nat) (l : List Nat), F.adj[k]? = some l → i ∈ l → ∃ a, (F.arcs ++ [⟨fr, to, most, F.arcs.length + 1⟩, ⟨to, fr, 0, F.arcs.length⟩])[i]? = some a ∧ a.fr = k := by
      intro k l hk hi
      obtain ⟨a, ha, haf⟩ := h.adj.1 k i l hk hi
      exact ⟨a, by rw [List.getElem?_append_left (List.getElem?_eq_some_iff.1 ha).1]; exact ha, haf⟩
    have hk' : ((F.adj.set fr (F.adj[fr]?.getD [] ++ [F.arcs.length])).set to (F.adj[to]?.getD [] ++ [F.arcs.length + 1]))[k]? = some l := hk
    have getD_old : ∀ k : Nat, k < V → F.adj[k]? = some (F.adj[k]?.getD []) := fun k hk => by
      rw [List.getElem?_eq_getElem (by rw [hV]; exact hk)]
      rfl
    by_cases h2 : to = k
    · subst h2
      rw [List.getElem?_set_self (by simpa [hV] using ht)] at hk'
      rw [← Option.some.inj hk'] at hi
      rcases List.mem_append.1 hi with hi | hi
      · exact old to _ (getD_old to ht) hi
      · obtain rfl : i = F.arcs.length + 1 := by simpa using hi
        exact ⟨⟨to, fr, 0, F.arcs.length⟩, by rw [List.getElem?_append_right (by omega)]; simp, rfl⟩
    · rw [List.getElem?_set_ne h2] at hk'
      by_cases h3 : fr = k
      · subst h3
        rw [List.getElem?_set_self (by rw [hV]; exact hf)] at hk'
        rw [← Option.some.inj hk'] at hi
        rcases List.mem_append.1 hi with hi | hi
        · exact old fr _ (getD_old fr hf) hi
        · obtain rfl : i = F.arcs.length := by simpa using hi
          exact ⟨⟨fr, to, most, F.arcs.length + 1⟩, by rw [List.getElem?_append_right (by omega)]; simp, rfl⟩
      · rw [List.getElem?_set_ne h3] at hk'
        exact old k l hk' hi
  · intro i a ha
    have ha' : (F.arcs ++ [⟨fr, to, most, F.arcs.length + 1⟩, ⟨to, fr, 0, F.arcs.length⟩])[i]? = some a := ha
    show ∃ l, ((F.adj.set fr (F.adj[fr]?.getD [] ++ [F.arcs.length])).set to (F.adj[to]?.getD [] ++ [F.arcs.length + 1]))[a.fr]? = some l ∧ i ∈ l
    have new : ∀ (k : Nat), k < V → (∃ l, F.adj[k]? = some l ∧ i ∈ l) → ∃ l, ((F.adj.set fr (F.adj[fr]?.getD [] ++ [F.arcs.length])).set to (F.adj[to]?.getD [] ++ [F.arcs.length + 1]))[k]? = some l ∧ i ∈ l := by
      rintro k hk ⟨l, hl, hi⟩
      by_cases h2 : to = k
      · subst h2
        exact ⟨_, List.getElem?_set_self (by simpa [hV] using ht), List.mem_append_left _ (by rw [hl]; exact hi)⟩
      · rw [List.getElem?_set_ne h2]
        by_cases h3 : fr = k
        · subst h3
          exact ⟨_, List.getElem?_set_self (by rw [hV]; exact hf), List.mem_append_left _ (by rw [hl]; exact hi)⟩
        · exact ⟨l, by rw [List.getElem?_set_ne h3]; exact hl, hi⟩
    rcases Nat.lt_trichotomy i F.arcs.length with h4 | h4 | h4
    · rw [List.getElem?_append_left h4] at ha'
      exact new a.fr (h.sh.arc i a ha').1 (h.adj.2 i a ha')
    · subst h4
      rw [List.getElem?_append_right (Nat.le_refl _)] at ha'
      simp at ha'
      rw [← ha']
      rw [List.getElem?_set_ne (Ne.symm hne)]
      exact ⟨_, List.getElem?_set_self (by rw [hV]; exact hf), by simp⟩
    · rw [List.getElem?_append_right (by omega)] at ha'
      obtain ⟨m, hm⟩ : ∃ m, i - F.arcs.length = m + 1 := ⟨i - F.arcs.length - 1, by omega⟩
      rw [hm] at ha'
      cases m with
      | zero =>
        simp at ha'
        rw [← ha']
        have hi : i = F.arcs.length + 1 := by omega
        exact ⟨_, List.getElem?_set_self (by simpa [hV] using ht), by simp [hi]⟩
      | succ m => simp at ha'
  · intro i a ha
    have ha' : (F.arcs ++ [⟨fr, to, most, F.arcs.length + 1⟩, ⟨to, fr, 0, F.arcs.length⟩])[i]? = some a := ha
    rcases Nat.lt_or_ge i F.arcs.length with h4 | h4
    · rw [List.getElem?_append_left h4] at ha'
      exact h.arcs.pos i a ha'
    · rw [List.getElem?_append_right h4] at ha'
      rcases hm : i - F.arcs.length with _ | _ | m
      · rw [hm] at ha'
        simp at ha'
        rw [← ha']
        exact h0
      · rw [hm] at ha'
        simp at ha'
        rw [← ha']
        exact Int.le_refl _
      · rw [hm] at ha'
        simp at ha'
  · intro i a ha
    have ha' : (F.arcs ++ [⟨fr, to, most, F.arcs.length + 1⟩, ⟨to, fr, 0, F.arcs.length⟩])[i]? = some a := ha
    show a.bk ≠ i ∧ ∃ b, (F.arcs ++ [⟨fr, to, most, F.arcs.length + 1⟩, ⟨to, fr, 0, F.arcs.length⟩])[a.bk]? = some b ∧ _
    rcases Nat.lt_or_ge i F.arcs.length with h4 | h4
    · rw [List.getElem?_append_left h4] at ha'
      obtain ⟨p1, b, p2, p3⟩ := h.arcs.pair i a ha'
      exact ⟨p1, b, by rw [List.getElem?_append_left (List.getElem?_eq_some_iff.1 p2).1]; exact p2, p3⟩
    · rw [List.getElem?_append_right h4] at ha'
      rcases hm : i - F.arcs.length with _ | _ | m
      · rw [hm] at ha'
        simp at ha'
        have hi : i = F.arcs.length := by omega
        rw [← ha', hi]
        refine ⟨by simp, ⟨to, fr, 0, F.arcs.length⟩, ?_, rfl, rfl, rfl, by simp; omega⟩
        rw [List.getElem?_append_right (by simp)]
        simp
      · rw [hm] at ha'
        simp at ha'
        have hi : i = F.arcs.length + 1 := by omega
        rw [← ha', hi]
        refine ⟨by simp, ⟨fr, to, most, F.arcs.length + 1⟩, ?_, rfl, rfl, rfl, by simp; omega⟩
        rw [List.getElem?_append_right (by simp)]
        simp
      · rw [hm] at ha'
        simp at ha'
  · show restU U (F.arcs ++ [⟨fr, to, most, F.arcs.length + 1⟩, ⟨to, fr, 0, F.arcs.length⟩]) = _
    rw [restU_append, h.rest U]
    simp only [restU, crossing]
    cases U fr <;> cases U to <;> simp
theorem Built.cast {V s o R T n n' : Nat} {c c' : (Nat → Bool) → Int} {F : Fl} (h : Built V s o R T n c F) (hn : n = n') (hc : ∀ U, c U = c' U) : Built V s o R T n' c' F :=
  ⟨hn ▸ h.sh, h.adj, h.arcs, fun U => (h.rest U).trans (hc U)⟩
theorem built_people {V s o R T : Nat} (hs : s < V) : ∀ (l : List Int) (r n : Nat) (F : Fl) (c : (Nat → Bool) → Int), Built V s o R T n c F → r + l.length ≤ s → (∀ x ∈ l, 0 ≤ x ∧ x ≤ 10000) →
    Built V s o R T (n + l.length) (fun U => c U + capPeople U s r l) (joinPeople F r l)
  | [], r, n, F, c, h, _, _ => h.cast rfl fun U => by simp [capPeople]
  | x :: l, r, n, F, c, h, hr, hx => by
    simp only [List.length_cons] at hr
    obtain ⟨x0, x1⟩ := hx x (by simp)
    have h1 := h.join (fr := s) (to := r) (most := x) hs (by omega) (by omega) x0 (by omega)
    have h2 := built_people hs l (r + 1) _ _ _ h1 (by omega) fun y hy => hx y (by simp [hy])
    have e : joinPeople F r (x :: l) = joinPeople (F.join s r x) (r + 1) l := by
      show joinPeople (F.join F.src r x) (r + 1) l = _
      rw [h.sh.src]
    rw [e]
    refine h2.cast (by simp; omega) fun U => ?_
    simp only [capPeople]
    omega
theorem built_stay {V s o R T here next : Nat} {all : Int} (h0 : 0 ≤ all) (h1 : all ≤ 60000) (hne : here ≠ next) : ∀ (k r n : Nat) (F : Fl) (c : (Nat → Bool) → Int), Built V s o R T n c F → here + r + k ≤ V → next + r + k ≤ V →
    Built V s o R T (n + k) (fun U => c U + capStay U here next all r k) (joinStay here next all F r k)
  | 0, r, n, F, c, h, _, _ => h.cast rfl fun U => by simp [capStay]
  | k + 1, r, n, F, c, h, hh, hn => by
    have g1 := h.join (fr := here + r) (to := next + r) (most := all) (by omega) (by omega) (by omega) h0 h1
    have g2 := built_stay h0 h1 hne k (r + 1) _ _ _ g1 (by omega) (by omega)
    refine g2.cast (by omega) fun U => ?_
    simp only [capStay]
    omega
theorem wayTo_lt {o next V R : Nat} {to : Int} (ho : o < V) (hn : next + R ≤ V) (ht : to = -1 ∨ 0 ≤ to ∧ to < R) : wayTo o next to < V := by
  unfold wayTo
  split
  · exact ho
  · omega
theorem built_ways {V s o R T here next : Nat} (hov : o < V) (hh : here + R ≤ V) (hn : next + R ≤ V) (hne : here + R ≤ next) (ho : next + R ≤ o) : ∀ (l : List Ev) (n : Nat) (F : Fl) (c : (Nat → Bool) → Int), Built V s o R T n c F →
    (∀ x ∈ l, 0 ≤ x.1 ∧ x.1 < R ∧ (x.2.1 = -1 ∨ 0 ≤ x.2.1 ∧ x.2.1 < R) ∧ x.1 ≠ x.2.1 ∧ 1 ≤ x.2.2 ∧ x.2.2 ≤ 10000) →
    Built V s o R T (n + l.length) (fun U => c U + capWays U o here next l) (joinWays here next F l)
  | [], n, F, c, h, _ => h.cast rfl fun U => by simp [capWays]
  | x :: l, n, F, c, h, hx => by
    obtain ⟨x1, x2, x3, _, x5, x6⟩ := hx x (by simp)
    have hw : wayTo o next x.2.1 < V := wayTo_lt hov hn x3
    have hw2 : next ≤ wayTo o next x.2.1 := by
      unfold wayTo
      split <;> omega
    have g1 := h.join (fr := here + x.1.toNat) (to := wayTo o next x.2.1) (most := x.2.2) (by omega) hw (by omega) (by omega) (by omega)
    have g2 := built_ways hov hh hn hne ho l _ _ _ g1 fun y hy => hx y (by simp [hy])
    have e : joinWays here next F (x :: l) = joinWays here next (F.join (here + x.1.toNat) (wayTo o next x.2.1) x.2.2) l := by
      show joinWays here next (F.join (here + x.1.toNat) (wayTo F.outn next x.2.1) x.2.2) l = _
      rw [h.sh.outn]
    rw [e]
    refine g2.cast (by simp; omega) fun U => ?_
    simp only [capWays]
    omega
theorem built_ticks {V s o R T : Nat} {all : Int} {ws : List Ev} (hR : 1 ≤ R) (h0 : 0 ≤ all) (h1 : all ≤ 60000) (hs : s = R * (T + 1)) (ho : o = s + 1) (hV : V = s + 2)
    (hw : ∀ x ∈ ws, 0 ≤ x.1 ∧ x.1 < R ∧ (x.2.1 = -1 ∨ 0 ≤ x.2.1 ∧ x.2.1 < R) ∧ x.1 ≠ x.2.1 ∧ 1 ≤ x.2.2 ∧ x.2.2 ≤ 10000) : ∀ (k t n : Nat) (F : Fl) (c : (Nat → Bool) → Int), Built V s o R T n c F → t + k = T →
    Built V s o R T (n + k * (R + ws.length)) (fun U => c U + capTicks U R all ws o t k) (joinTicks R all ws F t k)
  | 0, t, n, F, c, h, _ => h.cast (by simp) fun U => by simp [capTicks]
  | k + 1, t, n, F, c, h, ht => by
    have e1 : (t + 1) * R = t * R + R := by rw [Nat.add_mul, Nat.one_mul]
    have e2 : (t + 1) * R + R ≤ R * (T + 1) := by
      have h3 : (t + 2) * R ≤ (T + 1) * R := Nat.mul_le_mul_right R (by omega)
      have h4 : (t + 2) * R = (t + 1) * R + R := by rw [Nat.add_mul (t + 1) 1 R, Nat.one_mul]
      rw [Nat.mul_comm R (T + 1)]
      omega
    have g1 := built_stay (here := t * R) (next := (t + 1) * R) h0 h1 (by omega) R 0 _ _ _ h (by omega) (by omega)
    have g2 := built_ways (here := t * R) (next := (t + 1) * R) (by omega) (by omega) (by omega) (by omega) (by omega) ws _ _ _ g1 hw
    have g3 := built_ticks hR h0 h1 hs ho hV hw k (t + 1) _ _ _ g2 (by omega)
    refine g3.cast ?_ fun U => ?_
    · rw [Nat.add_mul, Nat.one_mul]
      omega
    · simp only [capTicks]
      omega
theorem built_empty (R T : Nat) : Built (R * (T + 1) + 2) (R * (T + 1)) (R * (T + 1) + 1) R T 0 (fun _ => 0) (emptyFl R T) where
  sh := FlSh.empty R T
  adj := ⟨fun n i l hl hi => by
    have := List.eq_of_mem_replicate (List.mem_of_getElem? (show (List.replicate (R * (T + 1) + 2) ([] : List Nat))[n]? = some l from hl))
    rw [this] at hi
    simp at hi, fun i a ha => by
    have : ([] : List Arc)[i]? = some a := ha
    simp at this⟩
  arcs := ⟨fun i a ha => by
    have : ([] : List Arc)[i]? = some a := ha
    simp at this, fun i a ha => by
    have : ([] : List Arc)[i]? = some a := ha
    simp at this⟩
  rest := fun U => rfl
theorem sumL_bound : ∀ (l : List Int), (∀ x ∈ l, 0 ≤ x ∧ x ≤ 10000) → 0 ≤ sumL l ∧ sumL l ≤ 10000 * l.length
  | [], _ => by simp [sumL]
  | x :: l, h => by
    have h1 := h x (by simp)
    have h2 := sumL_bound l fun y hy => h y (by simp [hy])
    simp only [sumL, List.length_cons]
    omega
theorem built_good {pp : List Int} {ws : List Ev} (ok : RoomsOk pp ws) (T : Nat) (hT : T ≤ 20) : FlGood (capM pp ws T) (builtM pp ws T) ∧ (builtM pp ws T).src = pp.length * (T + 1) ∧ (builtM pp ws T).outn = pp.length * (T + 1) + 1 ∧
    (builtM pp ws T).adj.length = pp.length * (T + 1) + 2 ∧ (builtM pp ws T).o = 0 ∧ (builtM pp ws T).rooms = pp.length ∧ (builtM pp ws T).ticks = T := by
  have hR := ok.some_
  have hR6 := ok.few
  have hW := ok.fewW
  have hS : pp.length * (T + 1) ≤ 126 := Nat.le_trans (Nat.mul_le_mul hR6 (by omega : T + 1 ≤ 21)) (by omega)
  have hS1 : pp.length ≤ pp.length * (T + 1) := Nat.le_mul_of_pos_right _ (by omega)
  obtain ⟨s0, s1⟩ := sumL_bound pp ok.people
  have hall : sumL pp ≤ 60000 := by omega
  have g0 := built_empty pp.length T
  have g1 := built_people (by omega) pp 0 _ _ _ g0 (by omega) ok.people
  have g2 := built_ticks hR s0 hall rfl rfl rfl ok.ways T 0 _ _ _ g1 (by omega)
  have hn : T * (pp.length + ws.length) ≤ 20 * 22 := Nat.mul_le_mul hT (by omega)
  have hok := g2.sh.ok (by omega) (by omega) (by omega) (by omega)
  have g3 : FlGood (capM pp ws T) (builtM pp ws T) := by
    refine ⟨hok, g2.adj, g2.arcs, fun U _ _ => ?_, ?_, ?_⟩
    · have h1 := g2.rest U
      have h2 := g2.sh.o0
      show (builtM pp ws T).o + restU U (builtM pp ws T).arcs = _
      unfold builtM
      rw [h1, h2]
      unfold capM
      omega
    · show (builtM pp ws T).src ≠ (builtM pp ws T).outn
      unfold builtM
      rw [g2.sh.src, g2.sh.outn]
      omega
    · show 0 ≤ (builtM pp ws T).o
      unfold builtM
      rw [g2.sh.o0]
      exact Int.le_refl _
  exact ⟨g3, g2.sh.src, g2.sh.outn, g2.sh.adjN, g2.sh.o0, g2.sh.rooms, g2.sh.ticks⟩
theorem capPeople_src {s : Nat} : ∀ (l : List Int) (r : Nat), r + l.length ≤ s → capPeople (fun v => v == s) s r l = sumL l
  | [], _, _ => rfl
  | x :: l, r, h => by
    simp only [List.length_cons] at h
    have ih := capPeople_src (s := s) l (r + 1) (by omega)
    have hb : (r == s) = false := by simp; omega
    simp only [capPeople, sumL, ih, beq_self_eq_true, hb, Bool.not_false, Bool.and_self, if_true]
theorem capStay_none {U : Nat → Bool} {here next : Nat} {all : Int} : ∀ (k r : Nat), (∀ v, here + r ≤ v → v < here + r + k → U v = false) → capStay U here next all r k = 0
  | 0, _, _ => rfl
  | k + 1, r, h => by
    have ih := capStay_none (U := U) (here := here) (next := next) (all := all) k (r + 1) fun v h1 h2 => h v (by omega) (by omega)
    have h0 := h (here + r) (by omega) (by omega)
    simp [capStay, ih, h0]
theorem capWays_none {U : Nat → Bool} {o here next R : Nat} (h : ∀ v, here ≤ v → v < here + R → U v = false) : ∀ (l : List Ev), (∀ x ∈ l, 0 ≤ x.1 ∧ x.1 < (R : Int)) → capWays U o here next l = 0
  | [], _ => rfl
  | x :: l, hx => by
    have ih := capWays_none (U := U) (o := o) (next := next) h l fun y hy => hx y (by simp [hy])
    have h1 := hx x (by simp)
    have h0 := h (here + x.1.toNat) (by omega) (by omega)
    simp [capWays, ih, h0]
theorem capTicks_none {U : Nat → Bool} {R o : Nat} {all : Int} {ws : List Ev} {S : Nat} (h : ∀ v, v < S → U v = false) (hw : ∀ x ∈ ws, 0 ≤ x.1 ∧ x.1 < (R : Int)) : ∀ (k t : Nat), (t + k) * R + R ≤ S → capTicks U R all ws o t k = 0
  | 0, _, _ => rfl
  | k + 1, t, hS => by
    have e0 : (t + 1 + k) * R = (t + (k + 1)) * R := by rw [show t + 1 + k = t + (k + 1) by omega]
    have ih := capTicks_none (U := U) (R := R) (o := o) (all := all) h hw k (t + 1) (by rw [e0]; exact hS)
    have e1 : t * R ≤ (t + (k + 1)) * R := Nat.mul_le_mul_right R (by omega)
    simp only [capTicks, ih]
    rw [capStay_none R 0 fun v h1 h2 => h v (by omega), capWays_none (R := R) (fun v h1 h2 => h v (by omega)) ws hw]
    rfl
theorem capM_src {pp : List Int} {ws : List Ev} (ok : RoomsOk pp ws) (T : Nat) : capM pp ws T (fun v => v == pp.length * (T + 1)) = sumL pp := by
  have hS1 : pp.length ≤ pp.length * (T + 1) := Nat.le_mul_of_pos_right _ (by omega)
  unfold capM
  rw [capPeople_src pp 0 (by omega), capTicks_none (S := pp.length * (T + 1)) (fun v hv => by simp; omega) (fun x hx => by have := ok.ways x hx; omega) T 0 (by
    rw [Nat.zero_add, Nat.mul_add, Nat.mul_comm T]
    omega)]
  omega
/-- **The greatest flow of right rooms.** -/
theorem flow_total {pp : List Int} {ws : List Ev} (ok : RoomsOk pp ws) (T : Nat) (hT : T ≤ 20) : ∃ F r, runM 60001 129 (builtM pp ws T) = some F ∧ FlGood (capM pp ws T) F ∧ F.src = pp.length * (T + 1) ∧ F.outn = pp.length * (T + 1) + 1 ∧
    F.adj.length = pp.length * (T + 1) + 2 ∧ F.rooms = pp.length ∧ F.ticks = T ∧ bfsM F 129 (List.replicate F.adj.length (-1)) [F.src] = some r ∧ r.length = F.adj.length ∧ r[F.outn]?.getD 0 < 0 ∧ r[F.src]?.getD 0 < 0 ∧ (∀ v, Rch F.src r v → ClosedAt F r v) ∧
    F.o = capM pp ws T (rchB F.src r) := by
  obtain ⟨g, h1, h2, h3, h4, h5, h6⟩ := built_good ok T hT
  have hR6 := ok.few
  have hS : pp.length * (T + 1) ≤ 126 := Nat.le_trans (Nat.mul_le_mul hR6 (by omega : T + 1 ≤ 21)) (by omega)
  have hsum := sumL_bound pp ok.people
  obtain ⟨F, r, a1, a2, a3, a4, a5, a6, a7, a8, a9, a10, a11, a12⟩ := run_spec (s := pp.length * (T + 1)) (o := pp.length * (T + 1) + 1) ⟨fun v => v == pp.length * (T + 1), by simp, by simp, by rw [capM_src ok]; omega⟩ 129 60001 (builtM pp ws T) g h1 h2 (by omega) (by rw [h4]; omega)
  refine ⟨F, r, a1, a2, a3, a4, (congrArg List.length a5).trans h3, a6.trans h5, a7.trans h6, a8, a9, by rw [a4]; exact a10, by rw [a3]; exact a11, by rw [a3]; exact a12, ?_⟩
  exact closed_cap a2 (by rw [a4]; exact a10) (by rw [a3]; exact a12)
end Go.Proofs.YtlbgocgocanloaaGreatDoor
