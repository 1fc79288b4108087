/- The flow of rooms is as great as possible, and a cut is the proof: plain. -/
import Derived.Test.YtlbgocgocanloaaGreatDoorf4C11
namespace Go.Proofs.YtlbgocgocanloaaGreatDoor
def crossing (U : Nat → Bool) (a : Arc) : Int := if U a.fr && !U a.to then a.lf else 0
/-- what may pass yet from a set of nodes -/
def restU (U : Nat → Bool) : List Arc → Int
  | [] => 0
  | a :: l => crossing U a + restU U l
theorem addLf_zero (a : Arc) (l : List Arc) (d : Int) : addLf (a :: l) 0 d = { a with lf := a.lf + d } :: l := rfl
theorem addLf_succ (a : Arc) (l : List Arc) (i : Nat) (d : Int) : addLf (a :: l) (i + 1) d = a :: addLf l i d := rfl
theorem restU_add (U : Nat → Bool) : ∀ (l : List Arc) (i : Nat) (a : Arc) (d : Int), l[i]? = some a → restU U (addLf l i d) = restU U l + if U a.fr && !U a.to then d else 0
  | [], i, a, d, h => by simp at h
  | b :: l, 0, a, d, h => by
    obtain rfl : b = a := by simpa using h
    rw [addLf_zero]
    simp only [restU, crossing]
    split <;> omega
  | b :: l, i + 1, a, d, h => by
    have ih := restU_add U l i a d (by simpa using h)
    rw [addLf_succ]
    simp only [restU]
    omega
theorem addLf_at : ∀ (l : List Arc) (i k : Nat) (d : Int), (addLf l i d)[k]? = (l[k]?).map fun a => if i = k then { a with lf := a.lf + d } else a
  | [], i, k, d => by simp [addLf]
  | b :: l, 0, 0, d => by simp [addLf_zero]
  | b :: l, 0, k + 1, d => by
    rw [addLf_zero]
    simp
  | b :: l, i + 1, 0, d => by
    rw [addLf_succ]
    simp
  | b :: l, i + 1, k + 1, d => by
    rw [addLf_succ]
    simp only [List.getElem?_cons_succ]
    rw [addLf_at l i k d]
    simp
theorem restU_nonneg (U : Nat → Bool) : ∀ (l : List Arc), (∀ (i : Nat) (a : Arc), l[i]? = some a → 0 ≤ a.lf) → 0 ≤ restU U l
  | [], _ => by simp [restU]
  | b :: l, h => by
    have ih := restU_nonneg U l (fun i a ha => h (i + 1) a (by simpa using ha))
    have hb := h 0 b rfl
    simp only [restU, crossing]
    split <;> omega
theorem restU_zero (U : Nat → Bool) : ∀ (l : List Arc), (∀ (i : Nat) (a : Arc), l[i]? = some a → U a.fr = true → U a.to = false → a.lf = 0) → restU U l = 0
  | [], _ => by simp [restU]
  | b :: l, h => by
    have ih := restU_zero U l (fun i a ha => h (i + 1) a (by simpa using ha))
    have hb := h 0 b rfl
    simp only [restU, crossing]
    split
    · rename_i hc
      simp only [Bool.and_eq_true, Bool.not_eq_true'] at hc
      have := hb hc.1 hc.2
      omega
    · omega
/-- what holds of the arcs all along -/
structure ArcsGood (l : List Arc) : Prop where
  pos : ∀ (i : Nat) (a : Arc), l[i]? = some a → 0 ≤ a.lf
  pair : ∀ (i : Nat) (a : Arc), l[i]? = some a → a.bk ≠ i ∧ ∃ b, l[a.bk]? = some b ∧ b.bk = i ∧ b.fr = a.to ∧ b.to = a.fr ∧ a.lf + b.lf ≤ 60000
theorem ArcsGood.push {l : List Arc} (h : ArcsGood l) {i : Nat} {a : Arc} (ha : l[i]? = some a) {d : Int} (h0 : 0 ≤ d) (hd : d ≤ a.lf) : ArcsGood (addLf (addLf l i (-d)) a.bk d) := by
  obtain ⟨hne, b, hb, hbk, hbf, hbt, hs⟩ := h.pair i a ha
  have get : ∀ (k : Nat) (c : Arc), (addLf (addLf l i (-d)) a.bk d)[k]? = some c → ∃ c0, l[k]? = some c0 ∧ c.fr = c0.fr ∧ c.to = c0.to ∧ c.bk = c0.bk ∧ c.lf = c0.lf + (if i = k then -d else 0) + (if a.bk = k then d else 0) := by
    intro k c hc
    rw [addLf_at, addLf_at] at hc
    cases hk : l[k]? with
    | none => rw [hk] at hc; simp at hc
    | some c0 =>
      rw [hk] at hc
      simp only [Option.map_some, Option.some.injEq] at hc
      refine ⟨c0, rfl, ?_⟩
      rw [← hc]
      by_cases h1 : i = k <;> by_cases h2 : a.bk = k <;> simp [h1, h2]
  have put : ∀ (k : Nat) (c0 : Arc), l[k]? = some c0 → ∃ c, (addLf (addLf l i (-d)) a.bk d)[k]? = some c ∧ c.fr = c0.fr ∧ c.to = c0.to ∧ c.bk = c0.bk ∧ c.lf = c0.lf + (if i = k then -d else 0) + (if a.bk = k then d else 0) := by
    intro k c0 hk
    have : ∃ c, (addLf (addLf l i (-d)) a.bk d)[k]? = some c := by
      rw [addLf_at, addLf_at, hk]
      exact ⟨_, rfl⟩
    obtain ⟨c, hc⟩ := this
    obtain ⟨c1, h1, h2⟩ := get k c hc
    rw [hk] at h1
    obtain rfl := Option.some.inj h1
    exact ⟨c, hc, h2⟩
  refine ⟨fun k c hc => ?_, fun k c hc => ?_⟩
  · obtain ⟨c0, hk, _, _, _, hl⟩ := get k c hc
    have p0 := h.pos k c0 hk
    by_cases h1 : i = k
    · subst h1
      rw [ha] at hk
      obtain rfl := Option.some.inj hk
      rw [if_pos rfl, if_neg hne] at hl
      omega
    · rw [if_neg h1] at hl
      split at hl <;> omega
  · obtain ⟨c0, hk, hf, ht, hb0, hl⟩ := get k c hc
    obtain ⟨hne0, e0, he, hek, hef, het, hes⟩ := h.pair k c0 hk
    rw [hb0]
    refine ⟨hne0, ?_⟩
    obtain ⟨e, he1, he2, he3, he4, he5⟩ := put c0.bk e0 he
    refine ⟨e, he1, by rw [he4, hek], by rw [he2, hef, ht], by rw [he3, het, hf], ?_⟩
    rw [hl, he5]
    -- the sum stays
    have key : (if i = k then -d else 0) + (if a.bk = k then d else 0) + (if i = c0.bk then -d else 0) + (if a.bk = c0.bk then d else 0) = 0 := by
      by_cases h1 : i = k
      · subst h1
        rw [ha] at hk
        obtain rfl := Option.some.inj hk
        rw [if_pos rfl, if_neg hne, if_neg (fun h => hne h.symm), if_pos rfl]
        omega
      · by_cases h2 : a.bk = k
        · subst h2
          rw [hb] at hk
          obtain rfl := Option.some.inj hk
          rw [hbk, if_neg h1, if_pos rfl, if_pos rfl, if_neg hne]
          omega
        · have h3 : i ≠ c0.bk := fun h3 => by
            rw [← h3, ha] at he
            obtain rfl := Option.some.inj he
            exact h2 hek
          have h4 : a.bk ≠ c0.bk := fun h4 => by
            rw [← h4, hb] at he
            obtain rfl := Option.some.inj he
            exact h1 (hbk.symm.trans hek)
          rw [if_neg h1, if_neg h2, if_neg h3, if_neg h4]
          omega
    omega
def Rch (src : Nat) (y : List Int) (v : Nat) : Prop := v = src ∨ ∃ k : Int, y[v]? = some k ∧ 0 ≤ k
structure BfsInv (F : Fl) (y : List Int) (q : List Nat) (rk : Nat → Nat) (N : Nat) : Prop where
  len : y.length = F.adj.length
  src : y[F.src]?.getD 0 < 0
  rsrc : rk F.src < N
  tree : ∀ (v : Nat) (k : Int), y[v]? = some k → 0 ≤ k → rk v < N ∧ ∃ a, F.arcs[k.toNat]? = some a ∧ a.to = v ∧ 0 < a.lf ∧ Rch F.src y a.fr ∧ rk a.fr < rk v
  queue : ∀ v ∈ q, Rch F.src y v
theorem not_rch {src : Nat} {y : List Int} {v : Nat} (h1 : y[v]?.getD 0 < 0) (h2 : v ≠ src) : ¬ Rch src y v := by
  rintro (h | ⟨k, hk, hk0⟩)
  · exact h2 h
  · rw [hk] at h1
    simp at h1
    omega
theorem getD_neg {y : List Int} {v : Nat} (h : y[v]?.getD 0 < 0) : v < y.length := by
  rcases Nat.lt_or_ge v y.length with h' | h'
  · exact h'
  · rw [List.getElem?_eq_none h'] at h
    simp at h
theorem Rch.set {src : Nat} {y : List Int} {v t : Nat} {i : Int} (hi : 0 ≤ i) (ht : t < y.length) (h : Rch src y v) : Rch src (y.set t i) v := by
  rcases h with h | ⟨k, hk, hk0⟩
  · exact .inl h
  · by_cases hv : t = v
    · subst hv
      exact .inr ⟨i, by simp [ht], hi⟩
    · exact .inr ⟨k, by rw [List.getElem?_set_ne hv]; exact hk, hk0⟩
theorem rch_set_self {src : Nat} {y : List Int} {t : Nat} {i : Int} (hi : 0 ≤ i) (ht : t < y.length) : Rch src (y.set t i) t := .inr ⟨i, by simp [ht], hi⟩
theorem rch_of_set {src : Nat} {y : List Int} {v t : Nat} {i : Int} (h : Rch src (y.set t i) v) : Rch src y v ∨ v = t := by
  rcases h with h | ⟨k, hk, hk0⟩
  · exact .inl (.inl h)
  · by_cases hv : t = v
    · exact .inr hv.symm
    · rw [List.getElem?_set_ne hv] at hk
      exact .inl (.inr ⟨k, hk, hk0⟩)
theorem BfsInv.step {F : Fl} {y : List Int} {q : List Nat} {rk : Nat → Nat} {N i : Nat} {a : Arc} (h : BfsInv F y q rk N) (ha : F.arcs[i]? = some a) (h1 : 0 < a.lf) (h2 : y[a.to]?.getD 0 < 0) (h3 : a.to ≠ F.src) (h4 : Rch F.src y a.fr) :
    BfsInv F (y.set a.to (i : Int)) (q ++ [a.to]) (fun v => if v = a.to then N else rk v) (N + 1) := by
  have ht := getD_neg h2
  have hn := not_rch h2 h3
  have hN : ∀ v, Rch F.src y v → rk v < N := by
    rintro v (h' | ⟨k, hk, hk0⟩)
    · rw [h']; exact h.rsrc
    · exact (h.tree v k hk hk0).1
  have hfr : a.fr ≠ a.to := fun he => hn (he ▸ h4)
  refine ⟨by simpa using h.len, ?_, ?_, fun v k hk hk0 => ?_, fun v hv => ?_⟩
  · rw [List.getElem?_set_ne h3]; exact h.src
  · simp only [if_neg (Ne.symm h3)]
    have := h.rsrc
    omega
  · by_cases hv : a.to = v
    · subst hv
      rw [List.getElem?_set_self ht] at hk
      obtain rfl := Option.some.inj hk
      refine ⟨by simp, a, by simpa using ha, rfl, h1, h4.set (by omega) ht, ?_⟩
      simp only [if_neg hfr, if_pos]
      exact hN _ h4
    · rw [List.getElem?_set_ne hv] at hk
      obtain ⟨g1, b, g2, g3, g4, g5, g6⟩ := h.tree v k hk hk0
      have hbf : b.fr ≠ a.to := fun he => hn (he ▸ g5)
      simp only [if_neg (Ne.symm hv)]
      refine ⟨by omega, b, g2, g3, g4, g5.set (by omega) ht, ?_⟩
      simp only [if_neg hbf]
      exact g6
  · rcases List.mem_append.1 hv with hv | hv
    · exact (h.queue v hv).set (by omega) ht
    · obtain rfl : v = a.to := by simpa using hv
      exact rch_set_self (by omega) ht
theorem scan_spec {F : Fl} (ok : FlOk F) (n : Nat) : ∀ (is : List Nat) (y : List Int) (q : List Nat) (rk : Nat → Nat) (N : Nat), (∀ i ∈ is, ∃ a, F.arcs[i]? = some a ∧ a.fr = n) → Rch F.src y n → BfsInv F y q rk N →
    ∃ rk' N', BfsInv F (scanM F is y q).1 (scanM F is y q).2 rk' N' ∧ (∀ v, Rch F.src y v → Rch F.src (scanM F is y q).1 v) ∧ (∀ v, Rch F.src (scanM F is y q).1 v → Rch F.src y v ∨ v ∈ (scanM F is y q).2) ∧
      (∀ i ∈ is, ∀ a, F.arcs[i]? = some a → 0 < a.lf → Rch F.src (scanM F is y q).1 a.to) ∧ (scanM F is y q).2.length + negs (scanM F is y q).1 = q.length + negs y ∧ N' + negs (scanM F is y q).1 = N + negs y
  | [], y, q, rk, N, _, _, h => ⟨rk, N, h, fun _ h => h, fun _ h => .inl h, fun _ hi => by simp at hi, rfl, rfl⟩
  | i :: is, y, q, rk, N, hi, hn, h => by
    obtain ⟨a, ha, haf⟩ := hi i (by simp)
    have hi' : ∀ j ∈ is, ∃ a, F.arcs[j]? = some a ∧ a.fr = n := fun j hj => hi j (by simp [hj])
    by_cases hc : 0 < a.lf ∧ y[a.to]?.getD 0 < 0 ∧ a.to ≠ F.src
    · have e : scanM F (i :: is) y q = scanM F is (y.set a.to (i : Int)) (q ++ [a.to]) := by
        conv => lhs; unfold scanM
        rw [ha]
        simp only [if_pos hc]
      obtain ⟨c1, c2, c3⟩ := hc
      have ht := getD_neg c2
      have hs := h.step ha c1 c2 c3 (by rw [haf]; exact hn)
      obtain ⟨rk', N', g1, g2, g3, g4, g5, g6⟩ := scan_spec ok n is _ _ _ _ hi' (hn.set (by omega) ht) hs
      rw [e]
      obtain ⟨tl, htl⟩ := scanM_pre F is (y.set a.to (i : Int)) (q ++ [a.to])
      refine ⟨rk', N', g1, fun v hv => g2 v (hv.set (by omega) ht), fun v hv => ?_, fun j hj b hb hl => ?_, ?_, ?_⟩
      · rcases g3 v hv with h' | h'
        · rcases rch_of_set h' with h'' | h''
          · exact .inl h''
          · right
            rw [htl, h'']
            simp
        · exact .inr h'
      · rcases List.mem_cons.1 hj with rfl | hj
        · rw [ha] at hb
          obtain rfl := Option.some.inj hb
          exact g2 _ (rch_set_self (by omega) ht)
        · exact g4 j hj b hb hl
      · have := negs_set (i : Int) (by omega) y a.to c2
        rw [g5]
        simp
        omega
      · have := negs_set (i : Int) (by omega) y a.to c2
        omega
    · have e : scanM F (i :: is) y q = scanM F is y q := by
        conv => lhs; unfold scanM
        rw [ha]
        simp only [if_neg hc]
      obtain ⟨rk', N', g1, g2, g3, g4, g5, g6⟩ := scan_spec ok n is y q rk N hi' hn h
      rw [e]
      refine ⟨rk', N', g1, g2, g3, fun j hj b hb hl => ?_, g5, g6⟩
      rcases List.mem_cons.1 hj with rfl | hj
      · rw [ha] at hb
        obtain rfl := Option.some.inj hb
        apply g2
        by_cases h2 : a.to = F.src
        · exact .inl h2
        · right
          rcases Nat.lt_or_ge a.to y.length with h3 | h3
          · refine ⟨y[a.to], by rw [List.getElem?_eq_getElem h3], ?_⟩
            rcases (show y[a.to] < 0 ∨ 0 ≤ y[a.to] by omega) with h4 | h4
            · exact absurd ⟨hl, by rw [List.getElem?_eq_getElem h3]; exact h4, h2⟩ hc
            · exact h4
          · have := (ok.arc _ _ ha).2.1
            rw [h.len] at h3
            omega
      · exact g4 j hj b hb hl
/-- each node's arcs are those that leave it -/
def FlAdj (F : Fl) : Prop := (∀ (n i : Nat) (l : List Nat), F.adj[n]? = some l → i ∈ l → ∃ a, F.arcs[i]? = some a ∧ a.fr = n) ∧ ∀ (i : Nat) (a : Arc), F.arcs[i]? = some a → ∃ l, F.adj[a.fr]? = some l ∧ i ∈ l
/-- what is reached is closed under arcs that let somebody pass -/
def ClosedAt (F : Fl) (y : List Int) (v : Nat) : Prop := ∀ (i : Nat) (a : Arc), F.arcs[i]? = some a → a.fr = v → 0 < a.lf → Rch F.src y a.to
theorem bfs_spec {F : Fl} (ok : FlOk F) (adj : FlAdj F) : ∀ (f : Nat) (y : List Int) (q : List Nat) (rk : Nat → Nat) (N : Nat), BfsInv F y q rk N → (∀ v, Rch F.src y v → v ∉ q → ClosedAt F y v) → q.length + negs y ≤ f →
    ∃ r rk' N', bfsM F f y q = some r ∧ BfsInv F r [] rk' N' ∧ N' ≤ N + negs y ∧ ∀ v, Rch F.src r v → ClosedAt F r v
  | f, y, [], rk, N, h, hc, _ => ⟨y, rk, N, by cases f <;> rfl, h, by omega, fun v hv => hc v hv (by simp)⟩
  | 0, y, n :: q, _, _, _, _, hf => by simp at hf
  | f + 1, y, n :: q, rk, N, h, hc, hf => by
    have hn : Rch F.src y n := h.queue n (by simp)
    have hnV : n < F.adj.length := by
      rcases hn with h1 | ⟨k, hk, _⟩
      · rw [h1]; exact ok.src
      · rw [← h.len]; exact (List.getElem?_eq_some_iff.1 hk).1
    obtain ⟨l, hl⟩ : ∃ l, F.adj[n]? = some l := ⟨_, List.getElem?_eq_getElem hnV⟩
    have hgd : F.adj[n]?.getD [] = l := by rw [hl]; rfl
    obtain ⟨rk', N', g1, g2, g3, g4, g5, g6⟩ := scan_spec ok n l y (n :: q) rk N (fun i hi => adj.1 n i l hl hi) hn h
    obtain ⟨tl, htl⟩ := scanM_pre F l y (n :: q)
    show ∃ r rk' N', bfsM F f (scanM F (F.adj[n]?.getD []) y (n :: q)).1 (scanM F (F.adj[n]?.getD []) y (n :: q)).2.tail = some r ∧ _
    rw [hgd]
    generalize scanM F l y (n :: q) = z at *
    have hz : z.2.tail = q ++ tl := by rw [htl]; rfl
    have hx := bfs_spec ok adj f z.1 z.2.tail rk' N' ⟨g1.len, g1.src, g1.rsrc, g1.tree, fun v hv => g1.queue v (List.mem_of_mem_tail hv)⟩ (fun v hv hq => by
      intro i a ha haf hlf
      by_cases hvn : v = n
      · subst hvn
        obtain ⟨l', hl', hi⟩ := adj.2 i a ha
        rw [haf, hl] at hl'
        obtain rfl := Option.some.inj hl'
        exact g4 i hi a ha hlf
      · rcases g3 v hv with h1 | h1
        · refine g2 _ (hc v h1 (fun hm => ?_) i a ha haf hlf)
          rcases List.mem_cons.1 hm with h2 | h2
          · exact hvn h2
          · exact hq (by rw [hz]; exact List.mem_append_left _ h2)
        · exfalso
          rw [htl] at h1
          rcases (show v = n ∨ v ∈ q ∨ v ∈ tl by simpa using h1) with h2 | h2
          · exact hvn h2
          · exact hq (by rw [hz]; simpa using h2)) (by
      have : z.2.tail.length + 1 = z.2.length := by rw [htl]; simp
      simp only [List.length_cons] at hf g5
      omega)
    obtain ⟨r, rk2, N2, x1, x2, x3, x4⟩ := hx
    exact ⟨r, rk2, N2, x1, x2, by omega, x4⟩
theorem bfs_start {F : Fl} (ok : FlOk F) : BfsInv F (List.replicate F.adj.length (-1)) [F.src] (fun _ => 0) 1 where
  len := by simp
  src := by simp [ok.src]
  rsrc := by omega
  tree := fun v k hk hk0 => by
    have := List.eq_of_mem_replicate (List.mem_of_getElem? hk)
    omega
  queue := fun v hv => .inl (by simpa using hv)
theorem negs_rep (n : Nat) : negs (List.replicate n (-1)) = n := by
  induction n with
  | zero => rfl
  | succ n ih =>
    unfold negs at *
    simp [List.replicate_succ]
theorem reach_spec {F : Fl} (ok : FlOk F) (adj : FlAdj F) (f : Nat) (hf : F.adj.length + 1 ≤ f) :
    ∃ r rk N, bfsM F f (List.replicate F.adj.length (-1)) [F.src] = some r ∧ BfsInv F r [] rk N ∧ N ≤ F.adj.length + 1 ∧ ∀ v, Rch F.src r v → ClosedAt F r v := by
  have hx := bfs_spec ok adj f _ _ _ _ (bfs_start ok) (fun v hv hq => by
    exfalso
    rcases hv with h | ⟨k, hk, hk0⟩
    · exact hq (by simp [h])
    · have := List.eq_of_mem_replicate (List.mem_of_getElem? hk)
      omega) (by
    rw [negs_rep]
    simp
    omega)
  rw [negs_rep] at hx
  obtain ⟨r, rk, N, x1, x2, x3, x4⟩ := hx
  exact ⟨r, rk, N, x1, x2, by omega, x4⟩
/-- the way back takes at most so much -/
def pathLe (F : Fl) (y : List Int) (d : Int) : Nat → Nat → Prop
  | 0, at_ => at_ = F.src
  | f + 1, at_ => at_ = F.src ∨ ∃ a, byArc F.arcs y at_ = some a ∧ d ≤ a.lf ∧ pathLe F y d f a.fr
theorem byArc_of {F : Fl} {y : List Int} {v : Nat} {k : Int} {a : Arc} (hk : y[v]? = some k) (h0 : 0 ≤ k) (ha : F.arcs[k.toNat]? = some a) : byArc F.arcs y v = some a := by
  unfold byArc
  rw [hk]
  simp only [if_neg (show ¬ k < 0 by omega)]
  exact ha
theorem min_spec {F : Fl} {y : List Int} {q : List Nat} {rk : Nat → Nat} {N : Nat} (h : BfsInv F y q rk N) : ∀ (f at_ : Nat) (acc : Int), Rch F.src y at_ → rk at_ < f → 0 < acc →
    ∃ d, minM F y f at_ acc = some d ∧ 0 < d ∧ d ≤ acc ∧ pathLe F y d f at_
  | 0, _, _, _, hf, _ => by omega
  | f + 1, at_, acc, hr, hf, ha => by
    by_cases hs : at_ = F.src
    · refine ⟨acc, ?_, ha, by omega, .inl hs⟩
      unfold minM
      rw [if_pos hs]
    · rcases hr with h1 | ⟨k, hk, hk0⟩
      · exact absurd h1 hs
      · obtain ⟨g1, a, g2, g3, g4, g5, g6⟩ := h.tree at_ k hk hk0
        have hb := byArc_of hk hk0 g2
        obtain ⟨d, e1, e2, e3, e4⟩ := min_spec h f a.fr (min acc a.lf) g5 (by omega) (by omega)
        refine ⟨d, ?_, e2, by omega, .inr ⟨a, hb, by omega, e4⟩⟩
        unfold minM
        rw [if_neg hs]
        simp only [hb]
        exact e1
theorem push_spec {F : Fl} {y : List Int} {q : List Nat} {rk : Nat → Nat} {N : Nat} (h : BfsInv F y q rk N) {d : Int} (hd : 0 < d) : ∀ (f at_ : Nat) (l : List Arc), Rch F.src y at_ → pathLe F y d f at_ → ArcsGood l →
    (∀ (i : Nat) (a : Arc), F.arcs[i]? = some a → ∃ b, l[i]? = some b ∧ b.fr = a.fr ∧ b.to = a.to) →
    (∀ (v : Nat) (k : Int), y[v]? = some k → 0 ≤ k → rk v ≤ rk at_ → ∀ a b, F.arcs[k.toNat]? = some a → l[k.toNat]? = some b → a.lf ≤ b.lf) →
    ∃ l', pushM F.src y d f at_ l = some l' ∧ ArcsGood l' ∧ (∀ (i : Nat), (l'[i]?).map (fun a => (a.fr, a.to, a.bk)) = (l[i]?).map (fun a => (a.fr, a.to, a.bk))) ∧
      ∀ U : Nat → Bool, U F.src = true → restU U l' = restU U l - if U at_ then 0 else d
  | f, at_, l, hr, hp, hg, hsh, hlf => by
    by_cases hs : at_ = F.src
    · refine ⟨l, ?_, hg, fun _ => rfl, fun U hU => ?_⟩
      · unfold pushM
        rw [if_pos hs]
      · rw [hs, if_pos hU]
        omega
    · cases f with
      | zero => exact absurd hp hs
      | succ f =>
        rcases hp with h1 | ⟨a, hb, hda, hp⟩
        · exact absurd h1 hs
        · rcases hr with h1 | ⟨k, hk, hk0⟩
          · exact absurd h1 hs
          · obtain ⟨g1, a', g2, g3, g4, g5, g6⟩ := h.tree at_ k hk hk0
            obtain rfl : a = a' := Option.some.inj (hb.symm.trans (byArc_of hk hk0 g2))
            obtain ⟨b, hb1, hbf, hbt⟩ := hsh k.toNat a g2
            have hle := hlf at_ k hk hk0 (Nat.le_refl _) a b g2 hb1
            obtain ⟨hne, c, hc1, hc2, hc3, hc4, hc5⟩ := hg.pair k.toNat b hb1
            have pb := hg.pos _ _ hb1
            have pc := hg.pos _ _ hc1
            have hby : byArc l y at_ = some b := byArc_of (F := { F with arcs := l }) hk hk0 hb1
            have hc' : (addLf l k.toNat (-d))[b.bk]? = some c := by
              rw [addLf_at, hc1]
              simp [Ne.symm hne]
            have hok1 : okI (b.lf + -d) = true := by
              simp only [okI, Bool.and_eq_true, decide_eq_true_eq]
              omega
            have hok2 : okI (c.lf + d) = true := by
              simp only [okI, Bool.and_eq_true, decide_eq_true_eq]
              omega
            have hg' := hg.push hb1 (d := d) (by omega) (by omega)
            obtain ⟨l', e1, e2, e3, e4⟩ := push_spec h hd f a.fr (addLf (addLf l k.toNat (-d)) b.bk d) g5 hp hg' (fun i x hx => by
                obtain ⟨z, hz, hz1, hz2⟩ := hsh i x hx
                rw [addLf_at, addLf_at, hz]
                refine ⟨_, rfl, ?_, ?_⟩
                · by_cases h1 : k.toNat = i <;> by_cases h2 : b.bk = i <;> simp [h1, h2, hz1]
                · by_cases h1 : k.toNat = i <;> by_cases h2 : b.bk = i <;> simp [h1, h2, hz2])
              (fun v j hj hj0 hrk x z hx hz => by
                obtain ⟨m1, x', m2, m3, m4, m5, m6⟩ := h.tree v j hj hj0
                rw [hx] at m2
                obtain rfl := Option.some.inj m2
                have hvk : j.toNat ≠ k.toNat := fun he => by
                  rw [he, g2] at hx
                  have : v = at_ := by rw [← m3, ← Option.some.inj hx, g3]
                  rw [this] at hrk
                  omega
                rw [addLf_at, addLf_at] at hz
                cases hlj : l[j.toNat]? with
                | none => rw [hlj] at hz; simp at hz
                | some z0 =>
                  rw [hlj] at hz
                  have h0 := hlf v j hj hj0 (by omega) x z0 hx hlj
                  simp only [Option.map_some, Option.some.injEq] at hz
                  rw [← hz]
                  by_cases h2 : b.bk = j.toNat
                  · simp [h2, Ne.symm hvk]
                    omega
                  · simp [h2, Ne.symm hvk]
                    omega)
            refine ⟨l', ?_, e2, fun i => ?_, fun U hU => ?_⟩
            · unfold pushM
              rw [if_neg hs]
              simp only [hk, hby, hc', hok1, hok2, Bool.and_self, if_true]
              rw [hbf]
              exact e1
            · rw [e3, addLf_at, addLf_at]
              cases l[i]? with
              | none => rfl
              | some z =>
                simp only [Option.map_some]
                by_cases h1 : k.toNat = i <;> by_cases h2 : b.bk = i <;> simp [h1, h2]
            · rw [e4 U hU, restU_add U _ _ c d hc', restU_add U _ _ b (-d) hb1, hc3, hc4, hbf, hbt, g3]
              cases U a.fr <;> cases U at_ <;> simp <;> omega
/-- the flow so far: what is out and what may pass yet is as much as could pass -/
structure FlGood (cap : (Nat → Bool) → Int) (F : Fl) : Prop where
  ok : FlOk F
  adj : FlAdj F
  arcs : ArcsGood F.arcs
  cons : ∀ U : Nat → Bool, U F.src = true → U F.outn = false → F.o + restU U F.arcs = cap U
  ne : F.src ≠ F.outn
  o0 : 0 ≤ F.o
theorem FlGood.le {cap : (Nat → Bool) → Int} {F : Fl} (h : FlGood cap F) (U : Nat → Bool) (h1 : U F.src = true) (h2 : U F.outn = false) : F.o ≤ cap U := by
  have := h.cons U h1 h2
  have := restU_nonneg U F.arcs h.arcs.pos
  omega
/-- **One step: somebody more gets out, or a cut is the proof that nobody can.** -/
theorem more_spec {cap : (Nat → Bool) → Int} {F : Fl} (h : FlGood cap F) (hcap : ∃ U : Nat → Bool, U F.src = true ∧ U F.outn = false ∧ cap U ≤ 60000) (f : Nat) (hf : F.adj.length + 1 ≤ f) :
    (moreM F f = some none ∧ ∃ r rk N, bfsM F f (List.replicate F.adj.length (-1)) [F.src] = some r ∧ BfsInv F r [] rk N ∧ r[F.outn]?.getD 0 < 0 ∧ (∀ v, Rch F.src r v → ClosedAt F r v)) ∨
      ∃ F', moreM F f = some (some F') ∧ FlGood cap F' ∧ F.o < F'.o ∧ F'.src = F.src ∧ F'.outn = F.outn ∧ F'.adj = F.adj ∧ F'.rooms = F.rooms ∧ F'.ticks = F.ticks := by
  obtain ⟨r, rk, N, hr, hi, hN, hc⟩ := reach_spec h.ok h.adj f hf
  by_cases hy : r[F.outn]?.getD 0 < 0
  · left
    refine ⟨?_, r, rk, N, hr, hi, hy, hc⟩
    unfold moreM
    rw [hr]
    simp only [if_pos hy]
  · right
    have hov : F.outn < r.length := by rw [hi.len]; exact h.ok.outn
    have hro : Rch F.src r F.outn := .inr ⟨r[F.outn], by rw [List.getElem?_eq_getElem hov], by
      rw [List.getElem?_eq_getElem hov] at hy
      simpa using hy⟩
    have hrk : rk F.outn < f := by
      rcases hro with h1 | ⟨k, hk, hk0⟩
      · exact absurd h1.symm h.ne
      · have := (hi.tree _ k hk hk0).1
        omega
    obtain ⟨d, d1, d2, d3, d4⟩ := min_spec hi f F.outn 60000 hro hrk (by omega)
    obtain ⟨l', e1, e2, e3, e4⟩ := push_spec hi d2 f F.outn F.arcs hro d4 h.arcs (fun i a ha => ⟨a, ha, rfl, rfl⟩) (fun v k _ _ _ a b ha hb => by
      rw [ha] at hb
      rw [Option.some.inj hb]
      exact Int.le_refl _)
    have hcons : ∀ U : Nat → Bool, U F.src = true → U F.outn = false → (F.o + d) + restU U l' = cap U := fun U h1 h2 => by
      have := h.cons U h1 h2
      have h4 := e4 U h1
      rw [h2] at h4
      simp only [Bool.false_eq_true, if_false] at h4
      omega
    have hg : FlGood cap { F with arcs := l', o := F.o + d } := by
      have get : ∀ (i : Nat) (a : Arc), l'[i]? = some a → ∃ b, F.arcs[i]? = some b ∧ b.fr = a.fr ∧ b.to = a.to ∧ b.bk = a.bk := fun i a ha => by
        have := e3 i
        rw [ha] at this
        cases hb : F.arcs[i]? with
        | none => rw [hb] at this; simp at this
        | some b =>
          rw [hb] at this
          simp only [Option.map_some, Option.some.injEq, Prod.mk.injEq] at this
          exact ⟨b, rfl, this.1.symm, this.2.1.symm, this.2.2.symm⟩
      have put : ∀ (i : Nat) (b : Arc), F.arcs[i]? = some b → ∃ a, l'[i]? = some a ∧ a.fr = b.fr := fun i b hb => by
        have := e3 i
        rw [hb] at this
        cases ha : l'[i]? with
        | none => rw [ha] at this; simp at this
        | some a =>
          rw [ha] at this
          simp only [Option.map_some, Option.some.injEq, Prod.mk.injEq] at this
          exact ⟨a, rfl, this.1⟩
      have hlen : l'.length = F.arcs.length := by
        rcases Nat.lt_trichotomy l'.length F.arcs.length with h1 | h1 | h1
        · obtain ⟨a, ha, _⟩ := put l'.length _ (List.getElem?_eq_getElem h1)
          rw [List.getElem?_eq_none (Nat.le_refl _)] at ha
          cases ha
        · exact h1
        · obtain ⟨a, ha, _⟩ := get F.arcs.length _ (List.getElem?_eq_getElem h1)
          rw [List.getElem?_eq_none (Nat.le_refl _)] at ha
          cases ha
      refine ⟨⟨fun i a ha => ?_, fun n i l hl hi => ?_, h.ok.src, h.ok.outn, h.ok.few, ?_⟩, ⟨fun n i l hl hi => ?_, fun i a ha => ?_⟩, e2, hcons, h.ne, ?_⟩
      · obtain ⟨b, hb, b1, b2, b3⟩ := get i a ha
        rw [← b1, ← b2, ← b3]
        show _ ∧ _ ∧ b.bk < l'.length
        rw [hlen]
        exact h.ok.arc i b hb
      · show i < l'.length
        rw [hlen]
        exact h.ok.adj n i l hl hi
      · show l'.length ≤ _
        rw [hlen]
        exact h.ok.few'
      · obtain ⟨b, hb, hbf⟩ := h.adj.1 n i l hl hi
        obtain ⟨a, ha, haf⟩ := put i b hb
        exact ⟨a, ha, by rw [haf, hbf]⟩
      · obtain ⟨b, hb, b1, _, _⟩ := get i a ha
        rw [← b1]
        exact h.adj.2 i b hb
      · show 0 ≤ F.o + d
        have := h.o0
        omega
    have hle : F.o + d ≤ 60000 := by
      obtain ⟨U, u1, u2, u3⟩ := hcap
      have := hg.le U u1 u2
      have : ({ F with arcs := l', o := F.o + d } : Fl).o = F.o + d := rfl
      omega
    have hok : okI (F.o + d) = true := by
      have := h.o0
      simp only [okI, Bool.and_eq_true, decide_eq_true_eq]
      omega
    refine ⟨{ F with arcs := l', o := F.o + d }, ?_, hg, ?_, rfl, rfl, rfl, rfl, rfl⟩
    · unfold moreM
      rw [hr]
      simp only [if_neg hy, d1, e1, hok, if_true]
    · show F.o < F.o + d
      omega
/-- **The run: it ends, and the nodes that are reached then are a cut whose bound is how many are out.** -/
theorem run_spec {cap : (Nat → Bool) → Int} {s o : Nat} (hcap : ∃ U : Nat → Bool, U s = true ∧ U o = false ∧ cap U ≤ 60000) (f : Nat) : ∀ (k : Nat) (F : Fl), FlGood cap F → F.src = s → F.outn = o → F.adj.length + 1 ≤ f → 60000 - F.o < (k : Int) →
    ∃ F' r, runM k f F = some F' ∧ FlGood cap F' ∧ F'.src = s ∧ F'.outn = o ∧ F'.adj = F.adj ∧ F'.rooms = F.rooms ∧ F'.ticks = F.ticks ∧ bfsM F' f (List.replicate F'.adj.length (-1)) [F'.src] = some r ∧
      r.length = F'.adj.length ∧ r[o]?.getD 0 < 0 ∧ r[s]?.getD 0 < 0 ∧ ∀ v, Rch s r v → ClosedAt F' r v
  | 0, F, h, hs, ho, _, hk => by
    exfalso
    obtain ⟨U, u1, u2, u3⟩ := hcap
    have := h.le U (by rw [hs]; exact u1) (by rw [ho]; exact u2)
    omega
  | k + 1, F, h, hs, ho, hf, hk => by
    rcases more_spec h (by rw [hs, ho]; exact hcap) f hf with ⟨h1, r, rk, N, r1, r2, r3, r4⟩ | ⟨F1, h1, h2, h3, h4, h5, h6, h7, h8⟩
    · refine ⟨F, r, ?_, h, hs, ho, rfl, rfl, rfl, r1, r2.len, by rw [← ho]; exact r3, by rw [← hs]; exact r2.src, by rw [← hs]; exact r4⟩
      unfold runM
      rw [h1]
    · obtain ⟨F', r, g1, g2, g3, g4, g5, g6, g7, g8⟩ := run_spec hcap f k F1 h2 (h4.trans hs) (h5.trans ho) (by rw [h6]; exact hf) (by omega)
      refine ⟨F', r, ?_, g2, g3, g4, g5.trans h6, g6.trans h7, g7.trans h8, g8⟩
      unfold runM
      rw [h1]
      exact g1
def rchB (s : Nat) (r : List Int) (v : Nat) : Bool := v == s || decide (0 ≤ r[v]?.getD (-1))
theorem rchB_iff {s : Nat} {r : List Int} {v : Nat} : rchB s r v = true ↔ Rch s r v := by
  unfold rchB Rch
  simp only [Bool.or_eq_true, beq_iff_eq, decide_eq_true_eq]
  constructor
  · rintro (h | h)
    · exact .inl h
    · cases hv : r[v]? with
      | none => rw [hv] at h; simp at h
      | some k => rw [hv] at h; exact .inr ⟨k, rfl, h⟩
  · rintro (h | ⟨k, hk, h0⟩)
    · exact .inl h
    · rw [hk]
      exact .inr h0
theorem closed_cap {cap : (Nat → Bool) → Int} {F : Fl} {r : List Int} (h : FlGood cap F) (ho : r[F.outn]?.getD 0 < 0) (hc : ∀ v, Rch F.src r v → ClosedAt F r v) : F.o = cap (rchB F.src r) := by
  have hno : rchB F.src r F.outn = false := by
    cases hb : rchB F.src r F.outn with
    | false => rfl
    | true => exact absurd (rchB_iff.1 hb) (not_rch ho (Ne.symm h.ne))
  have := h.cons (rchB F.src r) (rchB_iff.2 (.inl rfl)) hno
  rw [restU_zero] at this
  · omega
  · intro i a ha h1 h2
    have p := h.arcs.pos i a ha
    rcases (show 0 < a.lf ∨ a.lf ≤ 0 by omega) with h3 | h3
    · have := rchB_iff.2 (hc _ (rchB_iff.1 h1) i a ha rfl h3)
      rw [h2] at this
      cases this
    · omega
end Go.Proofs.YtlbgocgocanloaaGreatDoor
