/- The flow of rooms is as great as possible, and a cut is the proof: plain. -/
import Derived.Test.YtlbgocgocanloaaGreatDoorf5C11
namespace Go.Proofs.YtlbgocgocanloaaGreatDoor
def crossing (U : Nat → Bool) (a : Arc) : Int := if U a.fr && !U a.to then a.lf else 0
/-- what may pass yet from a set of nodes -/
def restU (U : Nat → Bool) : List Arc → Int
  | [] => 0
  | a :: l => crossing U a + restU U l
theorem addLf_zero (a : Arc) (l : List Arc) (d : Int) : addLf (a :: l) 0 d = { a with lf := a.lf + d } :: l := rfl
theorem addLf_succ (a : Arc) (l : List Arc) (i : Nat) (d : Int) : addLf (a :: l) (i + 1) d = a :: addLf l i d := rfl
theorem addLf_at : ∀ (l : List Arc) (i k : Nat) (d : Int), (addLf l i d)[k]? = (l[k]?).map fun a => if i = k then { a with lf := a.lf + d } else a
  | [], i, k, d => by simp [addLf]
  | b :: l, 0, 0, d => by simp [addLf_zero]
  | b :: l, 0, k + 1, d => by
    rw [addLf_zero]
    simp
  | b :: l, i + 1, 0, d => by
    rw [addLf_succ]
    simp
  | b :: l, i + 1, k + 1, d => by
    rw [addLf_succ]
    simp only [List.getElem?_cons_succ]
    rw [addLf_at l i k d]
    simp
theorem restU_nonneg (U : Nat → Bool) : ∀ (l : List Arc), (∀ (i : Nat) (a : Arc), l[i]? = some a → 0 ≤ a.lf) → 0 ≤ restU U l
  | [], _ => by simp [restU]
  | b :: l, h => by
    have ih := restU_nonneg U l (fun i a ha => h (i + 1) a (by simpa using ha))
    have hb := h 0 b rfl
    simp only [restU, crossing]
    split <;> omega
/-- what holds of the arcs all along -/
structure ArcsGood (l : List Arc) : Prop where
  pos : ∀ (i : Nat) (a : Arc), l[i]? = some a → 0 ≤ a.lf
  pair : ∀ (i : Nat) (a : Arc), l[i]? = some a → a.bk ≠ i ∧ ∃ b, l[a.bk]? = some b ∧ b.bk = i ∧ b.fr = a.to ∧ b.to = a.fr ∧ a.lf + b.lf ≤ 60000
theorem ArcsGood.push {l : List Arc} (h : ArcsGood l) {i : Nat} {a : Arc} (ha : l[i]? = some a) {d : Int} (h0 : 0 ≤ d) (hd : d ≤ a.lf) : ArcsGood (addLf (addLf l i (-d)) a.bk d) := by
  obtain ⟨hne, b, hb, hbk, hbf, hbt, hs⟩ := h.pair i a ha
  have get : ∀ (k : Nat) (c : Arc), (addLf (addLf l i (-d)) a.bk d)[k]? = some c → ∃ c0, l[k]? = some c0 ∧ c.fr = c0.fr ∧ c.to = c0.to ∧ c.bk = c0.bk ∧ c.lf = c0.lf + (if i = k then -d else 0) + (if a.bk = k then d else 0) := by
    intro k c hc
    rw [addLf_at, addLf_at] at hc
    cases hk : l[k]? with
    | none => rw [hk] at hc; simp at hc
    | some c0 =>
      rw [hk] at hc
      simp only [Option.map_some, Option.some.injEq] at hc
      refine ⟨c0, rfl, ?_⟩
      rw [← hc]
      by_cases h1 : i = k <;> by_cases h2 : a.bk = k <;> simp [h1, h2]
  have put : ∀ (k : Nat) (c0 : Arc), l[k]? = some c0 → ∃ c, (addLf (addLf l i (-d)) a.bk d)[k]? = some c ∧ c.fr = c0.fr ∧ c.to = c0.to ∧ c.bk = c0.bk ∧ c.lf = c0.lf + (if i = k then -d else 0) + (if a.bk = k then d else 0) := by
    intro k c0 hk
    have : ∃ c, (addLf (addLf l i (-d)) a.bk d)[k]? = some c := by
      rw [addLf_at, addLf_at, hk]
      exact ⟨_, rfl⟩
    obtain ⟨c, hc⟩ := this
    obtain ⟨c1, h1, h2⟩ := get k c hc
    rw [hk] at h1
    obtain rfl := Option.some.inj h1
    exact ⟨c, hc, h2⟩
  refine ⟨fun k c hc => ?_, fun k c hc => ?_⟩
  · obtain ⟨c0, hk, _, _, _, hl⟩ := get k c hc
    have p0 := h.pos k c0 hk
    by_cases h1 : i = k
    · subst h1
      rw [ha] at hk
      obtain rfl := Option.some.inj hk
      rw [if_pos rfl, if_neg hne] at hl
      omega
    · rw [if_neg h1] at hl
      split at hl <;> omega
  · obtain ⟨c0, hk, hf, ht, hb0, hl⟩ := get k c hc
    obtain ⟨hne0, e0, he, hek, hef, het, hes⟩ := h.pair k c0 hk
    rw [hb0]
    refine ⟨hne0, ?_⟩
    obtain ⟨e, he1, he2, he3, he4, he5⟩ := put c0.bk e0 he
    refine ⟨e, he1, by rw [he4, hek], by rw [he2, hef, ht], by rw [he3, het, hf], ?_⟩
    rw [hl, he5]
    -- the sum stays
    have key : (if i = k then -d else 0) + (if a.bk = k then d else 0) + (if i = c0.bk then -d else 0) + (if a.bk = c0.bk then d else 0) = 0 := by
      by_cases h1 : i = k
      · subst h1
        rw [ha] at hk
        obtain rfl := Option.some.inj hk
        rw [if_pos rfl, if_neg hne, if_neg (fun h => hne h.symm), if_pos rfl]
        omega
      · by_cases h2 : a.bk = k
        · subst h2
          rw [hb] at hk
          obtain rfl := Option.some.inj hk
          rw [hbk, if_neg h1, if_pos rfl, if_pos rfl, if_neg hne]
          omega
        · have h3 : i ≠ c0.bk := fun h3 => by
            rw [← h3, ha] at he
            obtain rfl := Option.some.inj he
            exact h2 hek
          have h4 : a.bk ≠ c0.bk := fun h4 => by
            rw [← h4, hb] at he
            obtain rfl := Option.some.inj he
            exact h1 (hbk.symm.trans hek)
          rw [if_neg h1, if_neg h2, if_neg h3, if_neg h4]
          omega
    omega
def Rch (src : Nat) (y : List Int) (v : Nat) : Prop := v = src ∨ ∃ k : Int, y[v]? = some k ∧ 0 ≤ k
theorem Rch.set {src : Nat} {y : List Int} {v t : Nat} {i : Int} (hi : 0 ≤ i) (ht : t < y.length) (h : Rch src y v) : Rch src (y.set t i) v := by
  rcases h with h | ⟨k, hk, hk0⟩
  · exact .inl h
  · by_cases hv : t = v
    · subst hv
      exact .inr ⟨i, by simp [ht], hi⟩
    · exact .inr ⟨k, by rw [List.getElem?_set_ne hv]; exact hk, hk0⟩
/-- each node's arcs are those that leave it -/
def FlAdj (F : Fl) : Prop := (∀ (n i : Nat) (l : List Nat), F.adj[n]? = some l → i ∈ l → ∃ a, F.arcs[i]? = some a ∧ a.fr = n) ∧ ∀ (i : Nat) (a : Arc), F.arcs[i]? = some a → ∃ l, F.adj[a.fr]? = some l ∧ i ∈ l
/-- the flow so far: what is out and what may pass yet is as much as could pass -/
structure FlGood (cap : (Nat → Bool) → Int) (F : Fl) : Prop where
  ok : FlOk F
  adj : FlAdj F
  arcs : ArcsGood F.arcs
  cons : ∀ U : Nat → Bool, U F.src = true → U F.outn = false → F.o + restU U F.arcs = cap U
  ne : F.src ≠ F.outn
  o0 : 0 ≤ F.o
theorem FlGood.le {cap : (Nat → Bool) → Int} {F : Fl} (h : FlGood cap F) (U : Nat → Bool) (h1 : U F.src = true) (h2 : U F.outn = false) : F.o ≤ cap U := by
  have := h.cons U h1 h2
  have := restU_nonneg U F.arcs h.arcs.pos
  omega
end Go.Proofs.YtlbgocgocanloaaGreatDoor

/- The flow as it is built holds what may pass; the greatest flow of right rooms: plain. -/
namespace Go.Proofs.YtlbgocgocanloaaGreatDoor
structure Built (V s o R T n : Nat) (c : (Nat → Bool) → Int) (F : Fl) : Prop where
  sh : FlSh V s o R T n F
  adj : FlAdj F
  arcs : ArcsGood F.arcs
  rest : ∀ U, restU U F.arcs = c U
theorem restU_append (U : Nat → Bool) : ∀ (l m : List Arc), restU U (l ++ m) = restU U l + restU U m
  | [], m => by simp [restU]
  | a :: l, m => by
    have := restU_append U l m
    simp only [List.cons_append, restU, this]
    omega
theorem Built.join {V s o R T n : Nat} {c : (Nat → Bool) → Int} {F : Fl} (h : Built V s o R T n c F) {fr to : Nat} {most : Int} (hf : fr < V) (ht : to < V) (hne : fr ≠ to) (h0 : 0 ≤ most) (h1 : most ≤ 60000) :
    Built V s o R T (n + 1) (fun U => c U + if U fr && !U to then most else 0) (F.join fr to most) := by
  have hL := h.sh.arcsN
  have hV := h.sh.adjN
  refine ⟨h.sh.join hf ht, ⟨?_, ?_⟩, ⟨?_, ?_⟩, fun U => ?_⟩
  · intro k i l hk hi
    show ∃ a, (F.arcs ++ [⟨fr, to, most, F.arcs.length + 1⟩, ⟨to, fr, 0, F.arcs.length⟩])[i]? = some a ∧ a.fr = k
    have old : ∀ (k : Nat) (l : List Nat), F.adj[k]? = some l → i ∈ l → ∃ a, (F.arcs ++ [⟨fr, to, most, F.arcs.length + 1⟩, ⟨to, fr, 0, F.arcs.length⟩])[i]? = some a ∧ a.fr = k := by
      intro k l hk hi
      obtain ⟨a, ha, haf⟩ := h.adj.1 k i l hk hi
      exact ⟨a, by rw [List.getElem?_append_left (List.getElem?_eq_some_iff.1 ha).1]; exact ha, haf⟩
    have hk' : ((F.adj.set fr (F.adj[fr]?.getD [] ++ [F.arcs.length])).set to (F.adj[to]?.getD [] ++ [F.arcs.length + 1]))[k]? = some l := hk
    have getD_old : ∀ k : Nat, k < V → F.adj[k]? = some (F.adj[k]?.getD []) := fun k hk => by
      rw [List.getElem?_eq_getElem (by rw [hV]; exact hk)]
      rfl
    by_cases h2 : to = k
    · subst h2
      rw [List.getElem?_set_self (by simpa [hV] using ht)] at hk'
      rw [← Option.some.inj hk'] at hi
      rcases List.mem_append.1 hi with hi | hi
      · exact old to _ (getD_old to ht) hi
      · obtain rfl : i = F.arcs.length + 1 := by simpa using hi
        exact ⟨⟨to, fr, 0, F.arcs.length⟩, by rw [List.getElem?_append_right (by omega)]; simp, rfl⟩
    · rw [List.getElem?_set_ne h2] at hk'
      by_cases h3 : fr = k
      · subst h3
        rw [List.getElem?_set_self (by rw [hV]; exact hf)] at hk'
        rw [← Option.some.inj hk'] at hi
        rcases List.mem_append.1 hi with hi | hi
        · exact old fr _ (getD_old fr hf) hi
        · obtain rfl : i = F.arcs.length := by simpa using hi
          exact ⟨⟨fr, to, most, F.arcs.length + 1⟩, by rw [List.getElem?_append_right (by omega)]; simp, rfl⟩
      · rw [List.getElem?_set_ne h3] at hk'
        exact old k l hk' hi
  · intro i a ha
    have ha' : (F.arcs ++ [⟨fr, to, most, F.arcs.length + 1⟩, ⟨to, fr, 0, F.arcs.length⟩])[i]? = some a := ha
    show ∃ l, ((F.adj.set fr (F.adj[fr]?.getD [] ++ [F.arcs.length])).set to (F.adj[to]?.getD [] ++ [F.arcs.length + 1]))[a.fr]? = some l ∧ i ∈ l
    have new : ∀ (k : Nat), k < V → (∃ l, F.adj[k]? = some l ∧ i ∈ l) → ∃ l, ((F.adj.set fr (F.adj[fr]?.getD [] ++ [F.arcs.length])).set to (F.adj[to]?.getD [] ++ [F.arcs.length + 1]))[k]? = some l ∧ i ∈ l := by
      rintro k hk ⟨l, hl, hi⟩
      by_cases h2 : to = k
      · subst h2
        exact ⟨_, List.getElem?_set_self (by simpa [hV] using ht), List.mem_append_left _ (by rw [hl]; exact hi)⟩
      · rw [List.getElem?_set_ne h2]
        by_cases h3 : fr = k
        · subst h3
          exact ⟨_, List.getElem?_set_self (by rw [hV]; exact hf), List.mem_append_left _ (by rw [hl]; exact hi)⟩
        · exact ⟨l, by rw [List.getElem?_set_ne h3]; exact hl, hi⟩
    rcases Nat.lt_trichotomy i F.arcs.length with h4 | h4 | h4
    · rw [List.getElem?_append_left h4] at ha'
      exact new a.fr (h.sh.arc i a ha').1 (h.adj.2 i a ha')
    · subst h4
      rw [List.getElem?_append_right (Nat.le_refl _)] at ha'
      simp at ha'
      rw [← ha']
      rw [List.getElem?_set_ne (Ne.symm hne)]
      exact ⟨_, List.getElem?_set_self (by rw [hV]; exact hf), by simp⟩
    · rw [List.getElem?_append_right (by omega)] at ha'
      obtain ⟨m, hm⟩ : ∃ m, i - F.arcs.length = m + 1 := ⟨i - F.arcs.length - 1, by omega⟩
      rw [hm] at ha'
      cases m with
      | zero =>
        simp at ha'
        rw [← ha']
        have hi : i = F.arcs.length + 1 := by omega
        exact ⟨_, List.getElem?_set_self (by simpa [hV] using ht), by simp [hi]⟩
      | succ m => simp at ha'
  · intro i a ha
    have ha' : (F.arcs ++ [⟨fr, to, most, F.arcs.length + 1⟩, ⟨to, fr, 0, F.arcs.length⟩])[i]? = some a := ha
    rcases Nat.lt_or_ge i F.arcs.length with h4 | h4
    · rw [List.getElem?_append_left h4] at ha'
      exact h.arcs.pos i a ha'
    · rw [List.getElem?_append_right h4] at ha'
      rcases hm : i - F.arcs.length with _ | _ | m
      · rw [hm] at ha'
        simp at ha'
        rw [← ha']
        exact h0
      · rw [hm] at ha'
        simp at ha'
        rw [← ha']
        exact Int.le_refl _
      · rw [hm] at ha'
        simp at ha'
  · intro i a ha
    have ha' : (F.arcs ++ [⟨fr, to, most, F.arcs.length + 1⟩, ⟨to, fr, 0, F.arcs.length⟩])[i]? = some a := ha
    show a.bk ≠ i ∧ ∃ b, (F.arcs ++ [⟨fr, to, most, F.arcs.length + 1⟩, ⟨to, fr, 0, F.arcs.length⟩])[a.bk]? = some b ∧ _
    rcases Nat.lt_or_ge i F.arcs.length with h4 | h4
    · rw [List.getElem?_append_left h4] at ha'
      obtain ⟨p1, b, p2, p3⟩ := h.arcs.pair i a ha'
      exact ⟨p1, b, by rw [List.getElem?_append_left (List.getElem?_eq_some_iff.1 p2).1]; exact p2, p3⟩
    · rw [List.getElem?_append_right h4] at ha'
      rcases hm : i - F.arcs.length with _ | _ | m
      · rw [hm] at ha'
        simp at ha'
        have hi : i = F.arcs.length := by omega
        rw [← ha', hi]
        refine ⟨by simp, ⟨to, fr, 0, F.arcs.length⟩, ?_, rfl, rfl, rfl, by simp; omega⟩
        rw [List.getElem?_append_right (by simp)]
        simp
      · rw [hm] at ha'
        simp at ha'
        have hi : i = F.arcs.length + 1 := by omega
        rw [← ha', hi]
        refine ⟨by simp, ⟨fr, to, most, F.arcs.length + 1⟩, ?_, rfl, rfl, rfl, by simp; omega⟩
        rw [List.getElem?_append_right (by simp)]
        simp
      · rw [hm] at ha'
        simp at ha'
  · show restU U (F.arcs ++ [⟨fr, to, most, F.arcs.length + 1⟩, ⟨to, fr, 0, F.arcs.length⟩]) = _
    rw [restU_append, h.rest U]
    simp only [restU, crossing]
    cases U fr <;> cases U to <;> simp
end Go.Proofs.YtlbgocgocanloaaGreatDoor
