/- The flow of rooms is as great as possible, and a cut is the proof: plain. The flow as it is built holds what may pass; the greatest flow of right rooms: plain. The reference's flow over a square of numbers: plain. The reference's flow: pushes, and the run: plain. The reference's square as it is built, and that both flows are as great: plain. Both flows are as great: plain. A cut and its bound: the best cut has just the bound that people are out; more ticks, or a way that lets more pass: plain. -/
import Derived.Test.YtmcjnfghlpnghaaDoorC8
namespace Go.Proofs.YtmcjnfghlpnghaaDoor

def crossing (U : Nat → Bool) (a : Arc) : Int := if U a.fr && !U a.to then a.lf else 0
/-- what may pass yet from a set of nodes -/
def restU (U : Nat → Bool) : List Arc → Int
  | [] => 0
  | a :: l => crossing U a + restU U l

theorem addLf_zero (a : Arc) (l : List Arc) (d : Int) : addLf (a :: l) 0 d = { a with lf := a.lf + d } :: l := rfl
theorem addLf_succ (a : Arc) (l : List Arc) (i : Nat) (d : Int) : addLf (a :: l) (i + 1) d = a :: addLf l i d := rfl

theorem restU_add (U : Nat → Bool) : ∀ (l : List Arc) (i : Nat) (a : Arc) (d : Int), l[i]? = some a → restU U (addLf l i d) = restU U l + if U a.fr && !U a.to then d else 0
  | [], i, a, d, h => by simp at h
  | b :: l, 0, a, d, h => by
    obtain rfl : b = a := by simpa using h
    rw [addLf_zero]
    simp only [restU, crossing]
    split <;> omega
  | b :: l, i + 1, a, d, h => by
    have ih := restU_add U l i a d (by simpa using h)
    rw [addLf_succ]
    simp only [restU]
    omega

theorem addLf_at : ∀ (l : List Arc) (i k : Nat) (d : Int), (addLf l i d)[k]? = (l[k]?).map fun a => if i = k then { a with lf := a.lf + d } else a
  | [], i, k, d => by simp [addLf]
  | b :: l, 0, 0, d => by simp [addLf_zero]
  | b :: l, 0, k + 1, d => by
    rw [addLf_zero]
    simp
  | b :: l, i + 1, 0, d => by
    rw [addLf_succ]
    simp
  | b :: l, i + 1, k + 1, d => by
    rw [addLf_succ]
    simp only [List.getElem?_cons_succ]
    rw [addLf_at l i k d]
    simp

theorem restU_nonneg (U : Nat → Bool) : ∀ (l : List Arc), (∀ (i : Nat) (a : Arc), l[i]? = some a → 0 ≤ a.lf) → 0 ≤ restU U l
  | [], _ => by simp [restU]
  | b :: l, h => by
    have ih := restU_nonneg U l (fun i a ha => h (i + 1) a (by simpa using ha))
    have hb := h 0 b rfl
    simp only [restU, crossing]
    split <;> omega

theorem restU_zero (U : Nat → Bool) : ∀ (l : List Arc), (∀ (i : Nat) (a : Arc), l[i]? = some a → U a.fr = true → U a.to = false → a.lf = 0) → restU U l = 0
  | [], _ => by simp [restU]
  | b :: l, h => by
    have ih := restU_zero U l (fun i a ha => h (i + 1) a (by simpa using ha))
    have hb := h 0 b rfl
    simp only [restU, crossing]
    split
    · rename_i hc
      simp only [Bool.and_eq_true, Bool.not_eq_true'] at hc
      have := hb hc.1 hc.2
      omega
    · omega

/-- what holds of the arcs all along -/
structure ArcsGood (l : List Arc) : Prop where
  pos : ∀ (i : Nat) (a : Arc), l[i]? = some a → 0 ≤ a.lf
  pair : ∀ (i : Nat) (a : Arc), l[i]? = some a → a.bk ≠ i ∧ ∃ b, l[a.bk]? = some b ∧ b.bk = i ∧ b.fr = a.to ∧ b.to = a.fr ∧ a.lf + b.lf ≤ 60000

theorem ArcsGood.push {l : List Arc} (h : ArcsGood l) {i : Nat} {a : Arc} (ha : l[i]? = some a) {d : Int} (h0 : 0 ≤ d) (hd : d ≤ a.lf) : ArcsGood (addLf (addLf l i (-d)) a.bk d) := by
  obtain ⟨hne, b, hb, hbk, hbf, hbt, hs⟩ := h.pair i a ha
  have get : ∀ (k : Nat) (c : Arc), (addLf (addLf l i (-d)) a.bk d)[k]? = some c → ∃ c0, l[k]? = some c0 ∧ c.fr = c0.fr ∧ c.to = c0.to ∧ c.bk = c0.bk ∧ c.lf = c0.lf + (if i = k then -d else 0) + (if a.bk = k then d else 0) := by
    intro k c hc
    rw [addLf_at, addLf_at] at hc
    cases hk : l[k]? with
    | none => rw [hk] at hc; simp at hc
    | some c0 =>
      rw [hk] at hc
      simp only [Option.map_some, Option.some.injEq] at hc
      refine ⟨c0, rfl, ?_⟩
      rw [← hc]
      by_cases h1 : i = k <;> by_cases h2 : a.bk = k <;> simp [h1, h2]
  have put : ∀ (k : Nat) (c0 : Arc), l[k]? = some c0 → ∃ c, (addLf (addLf l i (-d)) a.bk d)[k]? = some c ∧ c.fr = c0.fr ∧ c.to = c0.to ∧ c.bk = c0.bk ∧ c.lf = c0.lf + (if i = k then -d else 0) + (if a.bk = k then d else 0) := by
    intro k c0 hk
    have : ∃ c, (addLf (addLf l i (-d)) a.bk d)[k]? = some c := by
      rw [addLf_at, addLf_at, hk]
      exact ⟨_, rfl⟩
    obtain ⟨c, hc⟩ := this
    obtain ⟨c1, h1, h2⟩ := get k c hc
    rw [hk] at h1
    obtain rfl := Option.some.inj h1
    exact ⟨c, hc, h2⟩
  refine ⟨fun k c hc => ?_, fun k c hc => ?_⟩
  · obtain ⟨c0, hk, _, _, _, hl⟩ := get k c hc
    have p0 := h.pos k c0 hk
    by_cases h1 : i = k
    · subst h1
      rw [ha] at hk
      obtain rfl := Option.some.inj hk
      rw [if_pos rfl, if_neg hne] at hl
      omega
    · rw [if_neg h1] at hl
      split at hl <;> omega
  · obtain ⟨c0, hk, hf, ht, hb0, hl⟩ := get k c hc
    obtain ⟨hne0, e0, he, hek, hef, het, hes⟩ := h.pair k c0 hk
    rw [hb0]
    refine ⟨hne0, ?_⟩
    obtain ⟨e, he1, he2, he3, he4, he5⟩ := put c0.bk e0 he
    refine ⟨e, he1, by rw [he4, hek], by rw [he2, hef, ht], by rw [he3, het, hf], ?_⟩
    rw [hl, he5]
    -- the sum stays
    have key : (if i = k then -d else 0) + (if a.bk = k then d else 0) + (if i = c0.bk then -d else 0) + (if a.bk = c0.bk then d else 0) = 0 := by
      by_cases h1 : i = k
      · subst h1
        rw [ha] at hk
        obtain rfl := Option.some.inj hk
        rw [if_pos rfl, if_neg hne, if_neg (fun h => hne h.symm), if_pos rfl]
        omega
      · by_cases h2 : a.bk = k
        · subst h2
          rw [hb] at hk
          obtain rfl := Option.some.inj hk
          rw [hbk, if_neg h1, if_pos rfl, if_pos rfl, if_neg hne]
          omega
        · have h3 : i ≠ c0.bk := fun h3 => by
            rw [← h3, ha] at he
            obtain rfl := Option.some.inj he
            exact h2 hek
          have h4 : a.bk ≠ c0.bk := fun h4 => by
            rw [← h4, hb] at he
            obtain rfl := Option.some.inj he
            exact h1 (hbk.symm.trans hek)
          rw [if_neg h1, if_neg h2, if_neg h3, if_neg h4]
          omega
    omega

/-! ### reach -/
def Rch (src : Nat) (y : List Int) (v : Nat) : Prop := v = src ∨ ∃ k : Int, y[v]? = some k ∧ 0 ≤ k

structure BfsInv (F : Fl) (y : List Int) (q : List Nat) (rk : Nat → Nat) (N : Nat) : Prop where
  len : y.length = F.adj.length
  src : y[F.src]?.getD 0 < 0
  rsrc : rk F.src < N
  tree : ∀ (v : Nat) (k : Int), y[v]? = some k → 0 ≤ k → rk v < N ∧ ∃ a, F.arcs[k.toNat]? = some a ∧ a.to = v ∧ 0 < a.lf ∧ Rch F.src y a.fr ∧ rk a.fr < rk v
  queue : ∀ v ∈ q, Rch F.src y v

theorem not_rch {src : Nat} {y : List Int} {v : Nat} (h1 : y[v]?.getD 0 < 0) (h2 : v ≠ src) : ¬ Rch src y v := by
  rintro (h | ⟨k, hk, hk0⟩)
  · exact h2 h
  · rw [hk] at h1
    simp at h1
    omega

theorem getD_neg {y : List Int} {v : Nat} (h : y[v]?.getD 0 < 0) : v < y.length := by
  rcases Nat.lt_or_ge v y.length with h' | h'
  · exact h'
  · rw [List.getElem?_eq_none h'] at h
    simp at h

theorem Rch.set {src : Nat} {y : List Int} {v t : Nat} {i : Int} (hi : 0 ≤ i) (ht : t < y.length) (h : Rch src y v) : Rch src (y.set t i) v := by
  rcases h with h | ⟨k, hk, hk0⟩
  · exact .inl h
  · by_cases hv : t = v
    · subst hv
      exact .inr ⟨i, by simp [ht], hi⟩
    · exact .inr ⟨k, by rw [List.getElem?_set_ne hv]; exact hk, hk0⟩

theorem rch_set_self {src : Nat} {y : List Int} {t : Nat} {i : Int} (hi : 0 ≤ i) (ht : t < y.length) : Rch src (y.set t i) t := .inr ⟨i, by simp [ht], hi⟩

theorem rch_of_set {src : Nat} {y : List Int} {v t : Nat} {i : Int} (h : Rch src (y.set t i) v) : Rch src y v ∨ v = t := by
  rcases h with h | ⟨k, hk, hk0⟩
  · exact .inl (.inl h)
  · by_cases hv : t = v
    · exact .inr hv.symm
    · rw [List.getElem?_set_ne hv] at hk
      exact .inl (.inr ⟨k, hk, hk0⟩)

theorem BfsInv.step {F : Fl} {y : List Int} {q : List Nat} {rk : Nat → Nat} {N i : Nat} {a : Arc} (h : BfsInv F y q rk N) (ha : F.arcs[i]? = some a) (h1 : 0 < a.lf) (h2 : y[a.to]?.getD 0 < 0) (h3 : a.to ≠ F.src) (h4 : Rch F.src y a.fr) :
    BfsInv F (y.set a.to (i : Int)) (q ++ [a.to]) (fun v => if v = a.to then N else rk v) (N + 1) := by
  have ht := getD_neg h2
  have hn := not_rch h2 h3
  have hN : ∀ v, Rch F.src y v → rk v < N := by
    rintro v (h' | ⟨k, hk, hk0⟩)
    · rw [h']; exact h.rsrc
    · exact (h.tree v k hk hk0).1
  have hfr : a.fr ≠ a.to := fun he => hn (he ▸ h4)
  refine ⟨by simpa using h.len, ?_, ?_, fun v k hk hk0 => ?_, fun v hv => ?_⟩
  · rw [List.getElem?_set_ne h3]; exact h.src
  · simp only [if_neg (Ne.symm h3)]
    have := h.rsrc
    omega
  · by_cases hv : a.to = v
    · subst hv
      rw [List.getElem?_set_self ht] at hk
      obtain rfl := Option.some.inj hk
      refine ⟨by simp, a, by simpa using ha, rfl, h1, h4.set (by omega) ht, ?_⟩
      simp only [if_neg hfr, if_pos]
      exact hN _ h4
    · rw [List.getElem?_set_ne hv] at hk
      obtain ⟨g1, b, g2, g3, g4, g5, g6⟩ := h.tree v k hk hk0
      have hbf : b.fr ≠ a.to := fun he => hn (he ▸ g5)
      simp only [if_neg (Ne.symm hv)]
      refine ⟨by omega, b, g2, g3, g4, g5.set (by omega) ht, ?_⟩
      simp only [if_neg hbf]
      exact g6
  · rcases List.mem_append.1 hv with hv | hv
    · exact (h.queue v hv).set (by omega) ht
    · obtain rfl : v = a.to := by simpa using hv
      exact rch_set_self (by omega) ht

theorem scan_spec {F : Fl} (ok : FlOk F) (n : Nat) : ∀ (is : List Nat) (y : List Int) (q : List Nat) (rk : Nat → Nat) (N : Nat), (∀ i ∈ is, ∃ a, F.arcs[i]? = some a ∧ a.fr = n) → Rch F.src y n → BfsInv F y q rk N →
    ∃ rk' N', BfsInv F (scanM F is y q).1 (scanM F is y q).2 rk' N' ∧ (∀ v, Rch F.src y v → Rch F.src (scanM F is y q).1 v) ∧ (∀ v, Rch F.src (scanM F is y q).1 v → Rch F.src y v ∨ v ∈ (scanM F is y q).2) ∧
      (∀ i ∈ is, ∀ a, F.arcs[i]? = some a → 0 < a.lf → Rch F.src (scanM F is y q).1 a.to) ∧ (scanM F is y q).2.length + negs (scanM F is y q).1 = q.length + negs y ∧ N' + negs (scanM F is y q).1 = N + negs y
  | [], y, q, rk, N, _, _, h => ⟨rk, N, h, fun _ h => h, fun _ h => .inl h, fun _ hi => by simp at hi, rfl, rfl⟩
  | i :: is, y, q, rk, N, hi, hn, h => by
    obtain ⟨a, ha, haf⟩ := hi i (by simp)
    have hi' : ∀ j ∈ is, ∃ a, F.arcs[j]? = some a ∧ a.fr = n := fun j hj => hi j (by simp [hj])
    by_cases hc : 0 < a.lf ∧ y[a.to]?.getD 0 < 0 ∧ a.to ≠ F.src
    · have e : scanM F (i :: is) y q = scanM F is (y.set a.to (i : Int)) (q ++ [a.to]) := by
        conv => lhs; unfold scanM
        rw [ha]
        simp only [if_pos hc]
      obtain ⟨c1, c2, c3⟩ := hc
      have ht := getD_neg c2
      have hs := h.step ha c1 c2 c3 (by rw [haf]; exact hn)
      obtain ⟨rk', N', g1, g2, g3, g4, g5, g6⟩ := scan_spec ok n is _ _ _ _ hi' (hn.set (by omega) ht) hs
      rw [e]
      obtain ⟨tl, htl⟩ := scanM_pre F is (y.set a.to (i : Int)) (q ++ [a.to])
      refine ⟨rk', N', g1, fun v hv => g2 v (hv.set (by omega) ht), fun v hv => ?_, fun j hj b hb hl => ?_, ?_, ?_⟩
      · rcases g3 v hv with h' | h'
        · rcases rch_of_set h' with h'' | h''
          · exact .inl h''
          · right
            rw [htl, h'']
            simp
        · exact .inr h'
      · rcases List.mem_cons.1 hj with rfl | hj
        · rw [ha] at hb
          obtain rfl := Option.some.inj hb
          exact g2 _ (rch_set_self (by omega) ht)
        · exact g4 j hj b hb hl
      · have := negs_set (i : Int) (by omega) y a.to c2
        rw [g5]
        simp
        omega
      · have := negs_set (i : Int) (by omega) y a.to c2
        omega
    · have e : scanM F (i :: is) y q = scanM F is y q := by
        conv => lhs; unfold scanM
        rw [ha]
        simp only [if_neg hc]
      obtain ⟨rk', N', g1, g2, g3, g4, g5, g6⟩ := scan_spec ok n is y q rk N hi' hn h
      rw [e]
      refine ⟨rk', N', g1, g2, g3, fun j hj b hb hl => ?_, g5, g6⟩
      rcases List.mem_cons.1 hj with rfl | hj
      · rw [ha] at hb
        obtain rfl := Option.some.inj hb
        apply g2
        by_cases h2 : a.to = F.src
        · exact .inl h2
        · right
          rcases Nat.lt_or_ge a.to y.length with h3 | h3
          · refine ⟨y[a.to], by rw [List.getElem?_eq_getElem h3], ?_⟩
            rcases (show y[a.to] < 0 ∨ 0 ≤ y[a.to] by omega) with h4 | h4
            · exact absurd ⟨hl, by rw [List.getElem?_eq_getElem h3]; exact h4, h2⟩ hc
            · exact h4
          · have := (ok.arc _ _ ha).2.1
            rw [h.len] at h3
            omega
      · exact g4 j hj b hb hl


/-- each node's arcs are those that leave it -/
def FlAdj (F : Fl) : Prop := (∀ (n i : Nat) (l : List Nat), F.adj[n]? = some l → i ∈ l → ∃ a, F.arcs[i]? = some a ∧ a.fr = n) ∧ ∀ (i : Nat) (a : Arc), F.arcs[i]? = some a → ∃ l, F.adj[a.fr]? = some l ∧ i ∈ l

/-- what is reached is closed under arcs that let somebody pass -/
def ClosedAt (F : Fl) (y : List Int) (v : Nat) : Prop := ∀ (i : Nat) (a : Arc), F.arcs[i]? = some a → a.fr = v → 0 < a.lf → Rch F.src y a.to

theorem bfs_spec {F : Fl} (ok : FlOk F) (adj : FlAdj F) : ∀ (f : Nat) (y : List Int) (q : List Nat) (rk : Nat → Nat) (N : Nat), BfsInv F y q rk N → (∀ v, Rch F.src y v → v ∉ q → ClosedAt F y v) → q.length + negs y ≤ f →
    ∃ r rk' N', bfsM F f y q = some r ∧ BfsInv F r [] rk' N' ∧ N' ≤ N + negs y ∧ ∀ v, Rch F.src r v → ClosedAt F r v
  | f, y, [], rk, N, h, hc, _ => ⟨y, rk, N, by cases f <;> rfl, h, by omega, fun v hv => hc v hv (by simp)⟩
  | 0, y, n :: q, _, _, _, _, hf => by simp at hf
  | f + 1, y, n :: q, rk, N, h, hc, hf => by
    have hn : Rch F.src y n := h.queue n (by simp)
    have hnV : n < F.adj.length := by
      rcases hn with h1 | ⟨k, hk, _⟩
      · rw [h1]; exact ok.src
      · rw [← h.len]; exact (List.getElem?_eq_some_iff.1 hk).1
    obtain ⟨l, hl⟩ : ∃ l, F.adj[n]? = some l := ⟨_, List.getElem?_eq_getElem hnV⟩
    have hgd : F.adj[n]?.getD [] = l := by rw [hl]; rfl
    obtain ⟨rk', N', g1, g2, g3, g4, g5, g6⟩ := scan_spec ok n l y (n :: q) rk N (fun i hi => adj.1 n i l hl hi) hn h
    obtain ⟨tl, htl⟩ := scanM_pre F l y (n :: q)
    show ∃ r rk' N', bfsM F f (scanM F (F.adj[n]?.getD []) y (n :: q)).1 (scanM F (F.adj[n]?.getD []) y (n :: q)).2.tail = some r ∧ _
    rw [hgd]
    generalize scanM F l y (n :: q) = z at *
    have hz : z.2.tail = q ++ tl := by rw [htl]; rfl
    have hx := bfs_spec ok adj f z.1 z.2.tail rk' N' ⟨g1.len, g1.src, g1.rsrc, g1.tree, fun v hv => g1.queue v (List.mem_of_mem_tail hv)⟩ (fun v hv hq => by
      intro i a ha haf hlf
      by_cases hvn : v = n
      · subst hvn
        obtain ⟨l', hl', hi⟩ := adj.2 i a ha
        rw [haf, hl] at hl'
        obtain rfl := Option.some.inj hl'
        exact g4 i hi a ha hlf
      · rcases g3 v hv with h1 | h1
        · refine g2 _ (hc v h1 (fun hm => ?_) i a ha haf hlf)
          rcases List.mem_cons.1 hm with h2 | h2
          · exact hvn h2
          · exact hq (by rw [hz]; exact List.mem_append_left _ h2)
        · exfalso
          rw [htl] at h1
          rcases (show v = n ∨ v ∈ q ∨ v ∈ tl by simpa using h1) with h2 | h2
          · exact hvn h2
          · exact hq (by rw [hz]; simpa using h2)) (by
      have : z.2.tail.length + 1 = z.2.length := by rw [htl]; simp
      simp only [List.length_cons] at hf g5
      omega)
    obtain ⟨r, rk2, N2, x1, x2, x3, x4⟩ := hx
    exact ⟨r, rk2, N2, x1, x2, by omega, x4⟩

theorem bfs_start {F : Fl} (ok : FlOk F) : BfsInv F (List.replicate F.adj.length (-1)) [F.src] (fun _ => 0) 1 where
  len := by simp
  src := by simp [ok.src]
  rsrc := by omega
  tree := fun v k hk hk0 => by
    have := List.eq_of_mem_replicate (List.mem_of_getElem? hk)
    omega
  queue := fun v hv => .inl (by simpa using hv)

theorem negs_rep (n : Nat) : negs (List.replicate n (-1)) = n := by
  induction n with
  | zero => rfl
  | succ n ih =>
    unfold negs at *
    simp [List.replicate_succ]

theorem reach_spec {F : Fl} (ok : FlOk F) (adj : FlAdj F) (f : Nat) (hf : F.adj.length + 1 ≤ f) :
    ∃ r rk N, bfsM F f (List.replicate F.adj.length (-1)) [F.src] = some r ∧ BfsInv F r [] rk N ∧ N ≤ F.adj.length + 1 ∧ ∀ v, Rch F.src r v → ClosedAt F r v := by
  have hx := bfs_spec ok adj f _ _ _ _ (bfs_start ok) (fun v hv hq => by
    exfalso
    rcases hv with h | ⟨k, hk, hk0⟩
    · exact hq (by simp [h])
    · have := List.eq_of_mem_replicate (List.mem_of_getElem? hk)
      omega) (by
    rw [negs_rep]
    simp
    omega)
  rw [negs_rep] at hx
  obtain ⟨r, rk, N, x1, x2, x3, x4⟩ := hx
  exact ⟨r, rk, N, x1, x2, by omega, x4⟩

/-! ### ranks are few -/
/-- the way back takes at most so much -/
def pathLe (F : Fl) (y : List Int) (d : Int) : Nat → Nat → Prop
  | 0, at_ => at_ = F.src
  | f + 1, at_ => at_ = F.src ∨ ∃ a, byArc F.arcs y at_ = some a ∧ d ≤ a.lf ∧ pathLe F y d f a.fr

theorem pathLe_mono {F : Fl} {y : List Int} {d d' : Int} (hd : d' ≤ d) : ∀ (f at_ : Nat), pathLe F y d f at_ → pathLe F y d' f at_
  | 0, _, h => h
  | f + 1, _, h => h.imp id fun ⟨a, h1, h2, h3⟩ => ⟨a, h1, by omega, pathLe_mono hd f _ h3⟩

theorem byArc_of {F : Fl} {y : List Int} {v : Nat} {k : Int} {a : Arc} (hk : y[v]? = some k) (h0 : 0 ≤ k) (ha : F.arcs[k.toNat]? = some a) : byArc F.arcs y v = some a := by
  unfold byArc
  rw [hk]
  simp only [if_neg (show ¬ k < 0 by omega)]
  exact ha

theorem min_spec {F : Fl} {y : List Int} {q : List Nat} {rk : Nat → Nat} {N : Nat} (h : BfsInv F y q rk N) : ∀ (f at_ : Nat) (acc : Int), Rch F.src y at_ → rk at_ < f → 0 < acc →
    ∃ d, minM F y f at_ acc = some d ∧ 0 < d ∧ d ≤ acc ∧ pathLe F y d f at_
  | 0, _, _, _, hf, _ => by omega
  | f + 1, at_, acc, hr, hf, ha => by
    by_cases hs : at_ = F.src
    · refine ⟨acc, ?_, ha, by omega, .inl hs⟩
      unfold minM
      rw [if_pos hs]
    · rcases hr with h1 | ⟨k, hk, hk0⟩
      · exact absurd h1 hs
      · obtain ⟨g1, a, g2, g3, g4, g5, g6⟩ := h.tree at_ k hk hk0
        have hb := byArc_of hk hk0 g2
        obtain ⟨d, e1, e2, e3, e4⟩ := min_spec h f a.fr (min acc a.lf) g5 (by omega) (by omega)
        refine ⟨d, ?_, e2, by omega, .inr ⟨a, hb, by omega, e4⟩⟩
        unfold minM
        rw [if_neg hs]
        simp only [hb]
        exact e1

theorem push_spec {F : Fl} {y : List Int} {q : List Nat} {rk : Nat → Nat} {N : Nat} (h : BfsInv F y q rk N) {d : Int} (hd : 0 < d) : ∀ (f at_ : Nat) (l : List Arc), Rch F.src y at_ → pathLe F y d f at_ → ArcsGood l →
    (∀ (i : Nat) (a : Arc), F.arcs[i]? = some a → ∃ b, l[i]? = some b ∧ b.fr = a.fr ∧ b.to = a.to) →
    (∀ (v : Nat) (k : Int), y[v]? = some k → 0 ≤ k → rk v ≤ rk at_ → ∀ a b, F.arcs[k.toNat]? = some a → l[k.toNat]? = some b → a.lf ≤ b.lf) →
    ∃ l', pushM F.src y d f at_ l = some l' ∧ ArcsGood l' ∧ (∀ (i : Nat), (l'[i]?).map (fun a => (a.fr, a.to, a.bk)) = (l[i]?).map (fun a => (a.fr, a.to, a.bk))) ∧
      ∀ U : Nat → Bool, U F.src = true → restU U l' = restU U l - if U at_ then 0 else d
  | f, at_, l, hr, hp, hg, hsh, hlf => by
    by_cases hs : at_ = F.src
    · refine ⟨l, ?_, hg, fun _ => rfl, fun U hU => ?_⟩
      · unfold pushM
        rw [if_pos hs]
      · rw [hs, if_pos hU]
        omega
    · cases f with
      | zero => exact absurd hp hs
      | succ f =>
        rcases hp with h1 | ⟨a, hb, hda, hp⟩
        · exact absurd h1 hs
        · rcases hr with h1 | ⟨k, hk, hk0⟩
          · exact absurd h1 hs
          · obtain ⟨g1, a', g2, g3, g4, g5, g6⟩ := h.tree at_ k hk hk0
            obtain rfl : a = a' := Option.some.inj (hb.symm.trans (byArc_of hk hk0 g2))
            obtain ⟨b, hb1, hbf, hbt⟩ := hsh k.toNat a g2
            have hle := hlf at_ k hk hk0 (Nat.le_refl _) a b g2 hb1
            obtain ⟨hne, c, hc1, hc2, hc3, hc4, hc5⟩ := hg.pair k.toNat b hb1
            have pb := hg.pos _ _ hb1
            have pc := hg.pos _ _ hc1
            have hby : byArc l y at_ = some b := byArc_of (F := { F with arcs := l }) hk hk0 hb1
            have hc' : (addLf l k.toNat (-d))[b.bk]? = some c := by
              rw [addLf_at, hc1]
              simp [Ne.symm hne]
            have hok1 : okI (b.lf + -d) = true := by
              simp only [okI, Bool.and_eq_true, decide_eq_true_eq]
              omega
            have hok2 : okI (c.lf + d) = true := by
              simp only [okI, Bool.and_eq_true, decide_eq_true_eq]
              omega
            have hg' := hg.push hb1 (d := d) (by omega) (by omega)
            obtain ⟨l', e1, e2, e3, e4⟩ := push_spec h hd f a.fr (addLf (addLf l k.toNat (-d)) b.bk d) g5 hp hg' (fun i x hx => by
                obtain ⟨z, hz, hz1, hz2⟩ := hsh i x hx
                rw [addLf_at, addLf_at, hz]
                refine ⟨_, rfl, ?_, ?_⟩
                · by_cases h1 : k.toNat = i <;> by_cases h2 : b.bk = i <;> simp [h1, h2, hz1]
                · by_cases h1 : k.toNat = i <;> by_cases h2 : b.bk = i <;> simp [h1, h2, hz2])
              (fun v j hj hj0 hrk x z hx hz => by
                obtain ⟨m1, x', m2, m3, m4, m5, m6⟩ := h.tree v j hj hj0
                rw [hx] at m2
                obtain rfl := Option.some.inj m2
                have hvk : j.toNat ≠ k.toNat := fun he => by
                  rw [he, g2] at hx
                  have : v = at_ := by rw [← m3, ← Option.some.inj hx, g3]
                  rw [this] at hrk
                  omega
                rw [addLf_at, addLf_at] at hz
                cases hlj : l[j.toNat]? with
                | none => rw [hlj] at hz; simp at hz
                | some z0 =>
                  rw [hlj] at hz
                  have h0 := hlf v j hj hj0 (by omega) x z0 hx hlj
                  simp only [Option.map_some, Option.some.injEq] at hz
                  rw [← hz]
                  by_cases h2 : b.bk = j.toNat
                  · simp [h2, Ne.symm hvk]
                    omega
                  · simp [h2, Ne.symm hvk]
                    omega)
            refine ⟨l', ?_, e2, fun i => ?_, fun U hU => ?_⟩
            · unfold pushM
              rw [if_neg hs]
              simp only [hk, hby, hc', hok1, hok2, Bool.and_self, if_true]
              rw [hbf]
              exact e1
            · rw [e3, addLf_at, addLf_at]
              cases l[i]? with
              | none => rfl
              | some z =>
                simp only [Option.map_some]
                by_cases h1 : k.toNat = i <;> by_cases h2 : b.bk = i <;> simp [h1, h2]
            · rw [e4 U hU, restU_add U _ _ c d hc', restU_add U _ _ b (-d) hb1, hc3, hc4, hbf, hbt, g3]
              cases U a.fr <;> cases U at_ <;> simp <;> omega

/-- the flow so far: what is out and what may pass yet is as much as could pass -/
structure FlGood (cap : (Nat → Bool) → Int) (F : Fl) : Prop where
  ok : FlOk F
  adj : FlAdj F
  arcs : ArcsGood F.arcs
  cons : ∀ U : Nat → Bool, U F.src = true → U F.outn = false → F.o + restU U F.arcs = cap U
  ne : F.src ≠ F.outn
  o0 : 0 ≤ F.o

theorem FlGood.le {cap : (Nat → Bool) → Int} {F : Fl} (h : FlGood cap F) (U : Nat → Bool) (h1 : U F.src = true) (h2 : U F.outn = false) : F.o ≤ cap U := by
  have := h.cons U h1 h2
  have := restU_nonneg U F.arcs h.arcs.pos
  omega


/-- **One step: somebody more gets out, or a cut is the proof that nobody can.** -/
theorem more_spec {cap : (Nat → Bool) → Int} {F : Fl} (h : FlGood cap F) (hcap : ∃ U : Nat → Bool, U F.src = true ∧ U F.outn = false ∧ cap U ≤ 60000) (f : Nat) (hf : F.adj.length + 1 ≤ f) :
    (moreM F f = some none ∧ ∃ r rk N, bfsM F f (List.replicate F.adj.length (-1)) [F.src] = some r ∧ BfsInv F r [] rk N ∧ r[F.outn]?.getD 0 < 0 ∧ (∀ v, Rch F.src r v → ClosedAt F r v)) ∨
      ∃ F', moreM F f = some (some F') ∧ FlGood cap F' ∧ F.o < F'.o ∧ F'.src = F.src ∧ F'.outn = F.outn ∧ F'.adj = F.adj ∧ F'.rooms = F.rooms ∧ F'.ticks = F.ticks := by
  obtain ⟨r, rk, N, hr, hi, hN, hc⟩ := reach_spec h.ok h.adj f hf
  by_cases hy : r[F.outn]?.getD 0 < 0
  · left
    refine ⟨?_, r, rk, N, hr, hi, hy, hc⟩
    unfold moreM
    rw [hr]
    simp only [if_pos hy]
  · right
    have hov : F.outn < r.length := by rw [hi.len]; exact h.ok.outn
    have hro : Rch F.src r F.outn := .inr ⟨r[F.outn], by rw [List.getElem?_eq_getElem hov], by
      rw [List.getElem?_eq_getElem hov] at hy
      simpa using hy⟩
    have hrk : rk F.outn < f := by
      rcases hro with h1 | ⟨k, hk, hk0⟩
      · exact absurd h1.symm h.ne
      · have := (hi.tree _ k hk hk0).1
        omega
    obtain ⟨d, d1, d2, d3, d4⟩ := min_spec hi f F.outn 60000 hro hrk (by omega)
    obtain ⟨l', e1, e2, e3, e4⟩ := push_spec hi d2 f F.outn F.arcs hro d4 h.arcs (fun i a ha => ⟨a, ha, rfl, rfl⟩) (fun v k _ _ _ a b ha hb => by
      rw [ha] at hb
      rw [Option.some.inj hb]
      exact Int.le_refl _)
    have hcons : ∀ U : Nat → Bool, U F.src = true → U F.outn = false → (F.o + d) + restU U l' = cap U := fun U h1 h2 => by
      have := h.cons U h1 h2
      have h4 := e4 U h1
      rw [h2] at h4
      simp only [Bool.false_eq_true, if_false] at h4
      omega
    have hg : FlGood cap { F with arcs := l', o := F.o + d } := by
      have get : ∀ (i : Nat) (a : Arc), l'[i]? = some a → ∃ b, F.arcs[i]? = some b ∧ b.fr = a.fr ∧ b.to = a.to ∧ b.bk = a.bk := fun i a ha => by
        have := e3 i
        rw [ha] at this
        cases hb : F.arcs[i]? with
        | none => rw [hb] at this; simp at this
        | some b =>
          rw [hb] at this
          simp only [Option.map_some, Option.some.injEq, Prod.mk.injEq] at this
          exact ⟨b, rfl, this.1.symm, this.2.1.symm, this.2.2.symm⟩
      have put : ∀ (i : Nat) (b : Arc), F.arcs[i]? = some b → ∃ a, l'[i]? = some a ∧ a.fr = b.fr := fun i b hb => by
        have := e3 i
        rw [hb] at this
        cases ha : l'[i]? with
        | none => rw [ha] at this; simp at this
        | some a =>
          rw [ha] at this
          simp only [Option.map_some, Option.some.injEq, Prod.mk.injEq] at this
          exact ⟨a, rfl, this.1⟩
      have hlen : l'.length = F.arcs.length := by
        rcases Nat.lt_trichotomy l'.length F.arcs.length with h1 | h1 | h1
        · obtain ⟨a, ha, _⟩ := put l'.length _ (List.getElem?_eq_getElem h1)
          rw [List.getElem?_eq_none (Nat.le_refl _)] at ha
          cases ha
        · exact h1
        · obtain ⟨a, ha, _⟩ := get F.arcs.length _ (List.getElem?_eq_getElem h1)
          rw [List.getElem?_eq_none (Nat.le_refl _)] at ha
          cases ha
      refine ⟨⟨fun i a ha => ?_, fun n i l hl hi => ?_, h.ok.src, h.ok.outn, h.ok.few, ?_⟩, ⟨fun n i l hl hi => ?_, fun i a ha => ?_⟩, e2, hcons, h.ne, ?_⟩
      · obtain ⟨b, hb, b1, b2, b3⟩ := get i a ha
        rw [← b1, ← b2, ← b3]
        show _ ∧ _ ∧ b.bk < l'.length
        rw [hlen]
        exact h.ok.arc i b hb
      · show i < l'.length
        rw [hlen]
        exact h.ok.adj n i l hl hi
      · show l'.length ≤ _
        rw [hlen]
        exact h.ok.few'
      · obtain ⟨b, hb, hbf⟩ := h.adj.1 n i l hl hi
        obtain ⟨a, ha, haf⟩ := put i b hb
        exact ⟨a, ha, by rw [haf, hbf]⟩
      · obtain ⟨b, hb, b1, _, _⟩ := get i a ha
        rw [← b1]
        exact h.adj.2 i b hb
      · show 0 ≤ F.o + d
        have := h.o0
        omega
    have hle : F.o + d ≤ 60000 := by
      obtain ⟨U, u1, u2, u3⟩ := hcap
      have := hg.le U u1 u2
      have : ({ F with arcs := l', o := F.o + d } : Fl).o = F.o + d := rfl
      omega
    have hok : okI (F.o + d) = true := by
      have := h.o0
      simp only [okI, Bool.and_eq_true, decide_eq_true_eq]
      omega
    refine ⟨{ F with arcs := l', o := F.o + d }, ?_, hg, ?_, rfl, rfl, rfl, rfl, rfl⟩
    · unfold moreM
      rw [hr]
      simp only [if_neg hy, d1, e1, hok, if_true]
    · show F.o < F.o + d
      omega

/-- **The run: it ends, and the nodes that are reached then are a cut whose bound is how many are out.** -/
theorem run_spec {cap : (Nat → Bool) → Int} {s o : Nat} (hcap : ∃ U : Nat → Bool, U s = true ∧ U o = false ∧ cap U ≤ 60000) (f : Nat) : ∀ (k : Nat) (F : Fl), FlGood cap F → F.src = s → F.outn = o → F.adj.length + 1 ≤ f → 60000 - F.o < (k : Int) →
    ∃ F' r, runM k f F = some F' ∧ FlGood cap F' ∧ F'.src = s ∧ F'.outn = o ∧ F'.adj = F.adj ∧ F'.rooms = F.rooms ∧ F'.ticks = F.ticks ∧ bfsM F' f (List.replicate F'.adj.length (-1)) [F'.src] = some r ∧
      r.length = F'.adj.length ∧ r[o]?.getD 0 < 0 ∧ r[s]?.getD 0 < 0 ∧ ∀ v, Rch s r v → ClosedAt F' r v
  | 0, F, h, hs, ho, _, hk => by
    exfalso
    obtain ⟨U, u1, u2, u3⟩ := hcap
    have := h.le U (by rw [hs]; exact u1) (by rw [ho]; exact u2)
    omega
  | k + 1, F, h, hs, ho, hf, hk => by
    rcases more_spec h (by rw [hs, ho]; exact hcap) f hf with ⟨h1, r, rk, N, r1, r2, r3, r4⟩ | ⟨F1, h1, h2, h3, h4, h5, h6, h7, h8⟩
    · refine ⟨F, r, ?_, h, hs, ho, rfl, rfl, rfl, r1, r2.len, by rw [← ho]; exact r3, by rw [← hs]; exact r2.src, by rw [← hs]; exact r4⟩
      unfold runM
      rw [h1]
    · obtain ⟨F', r, g1, g2, g3, g4, g5, g6, g7, g8⟩ := run_spec hcap f k F1 h2 (h4.trans hs) (h5.trans ho) (by rw [h6]; exact hf) (by omega)
      refine ⟨F', r, ?_, g2, g3, g4, g5.trans h6, g6.trans h7, g7.trans h8, g8⟩
      unfold runM
      rw [h1]
      exact g1

def rchB (s : Nat) (r : List Int) (v : Nat) : Bool := v == s || decide (0 ≤ r[v]?.getD (-1))
theorem rchB_iff {s : Nat} {r : List Int} {v : Nat} : rchB s r v = true ↔ Rch s r v := by
  unfold rchB Rch
  simp only [Bool.or_eq_true, beq_iff_eq, decide_eq_true_eq]
  constructor
  · rintro (h | h)
    · exact .inl h
    · cases hv : r[v]? with
      | none => rw [hv] at h; simp at h
      | some k => rw [hv] at h; exact .inr ⟨k, rfl, h⟩
  · rintro (h | ⟨k, hk, h0⟩)
    · exact .inl h
    · rw [hk]
      exact .inr h0

theorem closed_cap {cap : (Nat → Bool) → Int} {F : Fl} {r : List Int} (h : FlGood cap F) (ho : r[F.outn]?.getD 0 < 0) (hc : ∀ v, Rch F.src r v → ClosedAt F r v) : F.o = cap (rchB F.src r) := by
  have hno : rchB F.src r F.outn = false := by
    cases hb : rchB F.src r F.outn with
    | false => rfl
    | true => exact absurd (rchB_iff.1 hb) (not_rch ho (Ne.symm h.ne))
  have := h.cons (rchB F.src r) (rchB_iff.2 (.inl rfl)) hno
  rw [restU_zero] at this
  · omega
  · intro i a ha h1 h2
    have p := h.arcs.pos i a ha
    rcases (show 0 < a.lf ∨ a.lf ≤ 0 by omega) with h3 | h3
    · have := rchB_iff.2 (hc _ (rchB_iff.1 h1) i a ha rfl h3)
      rw [h2] at this
      cases this
    · omega
end Go.Proofs.YtmcjnfghlpnghaaDoor

namespace Go.Proofs.YtmcjnfghlpnghaaDoor

def capPeople (U : Nat → Bool) (s : Nat) : Nat → List Int → Int
  | _, [] => 0
  | r, n :: l => (if U s && !U r then n else 0) + capPeople U s (r + 1) l
def capStay (U : Nat → Bool) (here next : Nat) (all : Int) : Nat → Nat → Int
  | _, 0 => 0
  | r, k + 1 => (if U (here + r) && !U (next + r) then all else 0) + capStay U here next all (r + 1) k
def capWays (U : Nat → Bool) (o here next : Nat) : List Ev → Int
  | [] => 0
  | x :: l => (if U (here + x.1.toNat) && !U (wayTo o next x.2.1) then x.2.2 else 0) + capWays U o here next l
def capTicks (U : Nat → Bool) (R : Nat) (all : Int) (ws : List Ev) (o : Nat) : Nat → Nat → Int
  | _, 0 => 0
  | t, k + 1 => capStay U (t * R) ((t + 1) * R) all 0 R + capWays U o (t * R) ((t + 1) * R) ws + capTicks U R all ws o (t + 1) k
/-- what may pass out of a set of nodes -/
def capM (pp : List Int) (ws : List Ev) (T : Nat) (U : Nat → Bool) : Int :=
  capPeople U (pp.length * (T + 1)) 0 pp + capTicks U pp.length (sumL pp) ws (pp.length * (T + 1) + 1) 0 T

structure Built (V s o R T n : Nat) (c : (Nat → Bool) → Int) (F : Fl) : Prop where
  sh : FlSh V s o R T n F
  adj : FlAdj F
  arcs : ArcsGood F.arcs
  rest : ∀ U, restU U F.arcs = c U

theorem restU_append (U : Nat → Bool) : ∀ (l m : List Arc), restU U (l ++ m) = restU U l + restU U m
  | [], m => by simp [restU]
  | a :: l, m => by
    have := restU_append U l m
    simp only [List.cons_append, restU, this]
    omega

theorem Built.join {V s o R T n : Nat} {c : (Nat → Bool) → Int} {F : Fl} (h : Built V s o R T n c F) {fr to : Nat} {most : Int} (hf : fr < V) (ht : to < V) (hne : fr ≠ to) (h0 : 0 ≤ most) (h1 : most ≤ 60000) :
    Built V s o R T (n + 1) (fun U => c U + if U fr && !U to then most else 0) (F.join fr to most) := by
  have hL := h.sh.arcsN
  have hV := h.sh.adjN
  refine ⟨h.sh.join hf ht, ⟨?_, ?_⟩, ⟨?_, ?_⟩, fun U => ?_⟩
  · intro k i l hk hi
    show ∃ a, (F.arcs ++ [⟨fr, to, most, F.arcs.length + 1⟩, ⟨to, fr, 0, F.arcs.length⟩])[i]? = some a ∧ a.fr = k
    have old : ∀ (k : Nat) (l : List Nat), F.adj[k]? = some l → i ∈ l → ∃ a, (F.arcs ++ [⟨fr, to, most, F.arcs.length + 1⟩, ⟨to, fr, 0, F.arcs.length⟩])[i]? = some a ∧ a.fr = k := by
      intro k l hk hi
      obtain ⟨a, ha, haf⟩ := h.adj.1 k i l hk hi
      exact ⟨a, by rw [List.getElem?_append_left (List.getElem?_eq_some_iff.1 ha).1]; exact ha, haf⟩
    have hk' : ((F.adj.set fr (F.adj[fr]?.getD [] ++ [F.arcs.length])).set to (F.adj[to]?.getD [] ++ [F.arcs.length + 1]))[k]? = some l := hk
    have getD_old : ∀ k : Nat, k < V → F.adj[k]? = some (F.adj[k]?.getD []) := fun k hk => by
      rw [List.getElem?_eq_getElem (by rw [hV]; exact hk)]
      rfl
    by_cases h2 : to = k
    · subst h2
      rw [List.getElem?_set_self (by simpa [hV] using ht)] at hk'
      rw [← Option.some.inj hk'] at hi
      rcases List.mem_append.1 hi with hi | hi
      · exact old to _ (getD_old to ht) hi
      · obtain rfl : i = F.arcs.length + 1 := by simpa using hi
        exact ⟨⟨to, fr, 0, F.arcs.length⟩, by rw [List.getElem?_append_right (by omega)]; simp, rfl⟩
    · rw [List.getElem?_set_ne h2] at hk'
      by_cases h3 : fr = k
      · subst h3
        rw [List.getElem?_set_self (by rw [hV]; exact hf)] at hk'
        rw [← Option.some.inj hk'] at hi
        rcases List.mem_append.1 hi with hi | hi
        · exact old fr _ (getD_old fr hf) hi
        · obtain rfl : i = F.arcs.length := by simpa using hi
          exact ⟨⟨fr, to, most, F.arcs.length + 1⟩, by rw [List.getElem?_append_right (by omega)]; simp, rfl⟩
      · rw [List.getElem?_set_ne h3] at hk'
        exact old k l hk' hi
  · intro i a ha
    have ha' : (F.arcs ++ [⟨fr, to, most, F.arcs.length + 1⟩, ⟨to, fr, 0, F.arcs.length⟩])[i]? = some a := ha
    show ∃ l, ((F.adj.set fr (F.adj[fr]?.getD [] ++ [F.arcs.length])).set to (F.adj[to]?.getD [] ++ [F.arcs.length + 1]))[a.fr]? = some l ∧ i ∈ l
    have new : ∀ (k : Nat), k < V → (∃ l, F.adj[k]? = some l ∧ i ∈ l) → ∃ l, ((F.adj.set fr (F.adj[fr]?.getD [] ++ [F.arcs.length])).set to (F.adj[to]?.getD [] ++ [F.arcs.length + 1]))[k]? = some l ∧ i ∈ l := by
      rintro k hk ⟨l, hl, hi⟩
      by_cases h2 : to = k
      · subst h2
        exact ⟨_, List.getElem?_set_self (by simpa [hV] using ht), List.mem_append_left _ (by rw [hl]; exact hi)⟩
      · rw [List.getElem?_set_ne h2]
        by_cases h3 : fr = k
        · subst h3
          exact ⟨_, List.getElem?_set_self (by rw [hV]; exact hf), List.mem_append_left _ (by rw [hl]; exact hi)⟩
        · exact ⟨l, by rw [List.getElem?_set_ne h3]; exact hl, hi⟩
    rcases Nat.lt_trichotomy i F.arcs.length with h4 | h4 | h4
    · rw [List.getElem?_append_left h4] at ha'
      exact new a.fr (h.sh.arc i a ha').1 (h.adj.2 i a ha')
    · subst h4
      rw [List.getElem?_append_right (Nat.le_refl _)] at ha'
      simp at ha'
      rw [← ha']
      rw [List.getElem?_set_ne (Ne.symm hne)]
      exact ⟨_, List.getElem?_set_self (by rw [hV]; exact hf), by simp⟩
    · rw [List.getElem?_append_right (by omega)] at ha'
      obtain ⟨m, hm⟩ : ∃ m, i - F.arcs.length = m + 1 := ⟨i - F.arcs.length - 1, by omega⟩
      rw [hm] at ha'
      cases m with
      | zero =>
        simp at ha'
        rw [← ha']
        have hi : i = F.arcs.length + 1 := by omega
        exact ⟨_, List.getElem?_set_self (by simpa [hV] using ht), by simp [hi]⟩
      | succ m => simp at ha'
  · intro i a ha
    have ha' : (F.arcs ++ [⟨fr, to, most, F.arcs.length + 1⟩, ⟨to, fr, 0, F.arcs.length⟩])[i]? = some a := ha
    rcases Nat.lt_or_ge i F.arcs.length with h4 | h4
    · rw [List.getElem?_append_left h4] at ha'
      exact h.arcs.pos i a ha'
    · rw [List.getElem?_append_right h4] at ha'
      rcases hm : i - F.arcs.length with _ | _ | m
      · rw [hm] at ha'
        simp at ha'
        rw [← ha']
        exact h0
      · rw [hm] at ha'
        simp at ha'
        rw [← ha']
        exact Int.le_refl _
      · rw [hm] at ha'
        simp at ha'
  · intro i a ha
    have ha' : (F.arcs ++ [⟨fr, to, most, F.arcs.length + 1⟩, ⟨to, fr, 0, F.arcs.length⟩])[i]? = some a := ha
    show a.bk ≠ i ∧ ∃ b, (F.arcs ++ [⟨fr, to, most, F.arcs.length + 1⟩, ⟨to, fr, 0, F.arcs.length⟩])[a.bk]? = some b ∧ _
    rcases Nat.lt_or_ge i F.arcs.length with h4 | h4
    · rw [List.getElem?_append_left h4] at ha'
      obtain ⟨p1, b, p2, p3⟩ := h.arcs.pair i a ha'
      exact ⟨p1, b, by rw [List.getElem?_append_left (List.getElem?_eq_some_iff.1 p2).1]; exact p2, p3⟩
    · rw [List.getElem?_append_right h4] at ha'
      rcases hm : i - F.arcs.length with _ | _ | m
      · rw [hm] at ha'
        simp at ha'
        have hi : i = F.arcs.length := by omega
        rw [← ha', hi]
        refine ⟨by simp, ⟨to, fr, 0, F.arcs.length⟩, ?_, rfl, rfl, rfl, by simp; omega⟩
        rw [List.getElem?_append_right (by simp)]
        simp
      · rw [hm] at ha'
        simp at ha'
        have hi : i = F.arcs.length + 1 := by omega
        rw [← ha', hi]
        refine ⟨by simp, ⟨fr, to, most, F.arcs.length + 1⟩, ?_, rfl, rfl, rfl, by simp; omega⟩
        rw [List.getElem?_append_right (by simp)]
        simp
      · rw [hm] at ha'
        simp at ha'
  · show restU U (F.arcs ++ [⟨fr, to, most, F.arcs.length + 1⟩, ⟨to, fr, 0, F.arcs.length⟩]) = _
    rw [restU_append, h.rest U]
    simp only [restU, crossing]
    cases U fr <;> cases U to <;> simp

theorem Built.cast {V s o R T n n' : Nat} {c c' : (Nat → Bool) → Int} {F : Fl} (h : Built V s o R T n c F) (hn : n = n') (hc : ∀ U, c U = c' U) : Built V s o R T n' c' F :=
  ⟨hn ▸ h.sh, h.adj, h.arcs, fun U => (h.rest U).trans (hc U)⟩

theorem built_people {V s o R T : Nat} (hs : s < V) : ∀ (l : List Int) (r n : Nat) (F : Fl) (c : (Nat → Bool) → Int), Built V s o R T n c F → r + l.length ≤ s → (∀ x ∈ l, 0 ≤ x ∧ x ≤ 10000) →
    Built V s o R T (n + l.length) (fun U => c U + capPeople U s r l) (joinPeople F r l)
  | [], r, n, F, c, h, _, _ => h.cast rfl fun U => by simp [capPeople]
  | x :: l, r, n, F, c, h, hr, hx => by
    simp only [List.length_cons] at hr
    obtain ⟨x0, x1⟩ := hx x (by simp)
    have h1 := h.join (fr := s) (to := r) (most := x) hs (by omega) (by omega) x0 (by omega)
    have h2 := built_people hs l (r + 1) _ _ _ h1 (by omega) fun y hy => hx y (by simp [hy])
    have e : joinPeople F r (x :: l) = joinPeople (F.join s r x) (r + 1) l := by
      show joinPeople (F.join F.src r x) (r + 1) l = _
      rw [h.sh.src]
    rw [e]
    refine h2.cast (by simp; omega) fun U => ?_
    simp only [capPeople]
    omega

theorem built_stay {V s o R T here next : Nat} {all : Int} (h0 : 0 ≤ all) (h1 : all ≤ 60000) (hne : here ≠ next) : ∀ (k r n : Nat) (F : Fl) (c : (Nat → Bool) → Int), Built V s o R T n c F → here + r + k ≤ V → next + r + k ≤ V →
    Built V s o R T (n + k) (fun U => c U + capStay U here next all r k) (joinStay here next all F r k)
  | 0, r, n, F, c, h, _, _ => h.cast rfl fun U => by simp [capStay]
  | k + 1, r, n, F, c, h, hh, hn => by
    have g1 := h.join (fr := here + r) (to := next + r) (most := all) (by omega) (by omega) (by omega) h0 h1
    have g2 := built_stay h0 h1 hne k (r + 1) _ _ _ g1 (by omega) (by omega)
    refine g2.cast (by omega) fun U => ?_
    simp only [capStay]
    omega

theorem wayTo_lt {o next V R : Nat} {to : Int} (ho : o < V) (hn : next + R ≤ V) (ht : to = -1 ∨ 0 ≤ to ∧ to < R) : wayTo o next to < V := by
  unfold wayTo
  split
  · exact ho
  · omega

theorem built_ways {V s o R T here next : Nat} (hov : o < V) (hh : here + R ≤ V) (hn : next + R ≤ V) (hne : here + R ≤ next) (ho : next + R ≤ o) : ∀ (l : List Ev) (n : Nat) (F : Fl) (c : (Nat → Bool) → Int), Built V s o R T n c F →
    (∀ x ∈ l, 0 ≤ x.1 ∧ x.1 < R ∧ (x.2.1 = -1 ∨ 0 ≤ x.2.1 ∧ x.2.1 < R) ∧ x.1 ≠ x.2.1 ∧ 1 ≤ x.2.2 ∧ x.2.2 ≤ 10000) →
    Built V s o R T (n + l.length) (fun U => c U + capWays U o here next l) (joinWays here next F l)
  | [], n, F, c, h, _ => h.cast rfl fun U => by simp [capWays]
  | x :: l, n, F, c, h, hx => by
    obtain ⟨x1, x2, x3, _, x5, x6⟩ := hx x (by simp)
    have hw : wayTo o next x.2.1 < V := wayTo_lt hov hn x3
    have hw2 : next ≤ wayTo o next x.2.1 := by
      unfold wayTo
      split <;> omega
    have g1 := h.join (fr := here + x.1.toNat) (to := wayTo o next x.2.1) (most := x.2.2) (by omega) hw (by omega) (by omega) (by omega)
    have g2 := built_ways hov hh hn hne ho l _ _ _ g1 fun y hy => hx y (by simp [hy])
    have e : joinWays here next F (x :: l) = joinWays here next (F.join (here + x.1.toNat) (wayTo o next x.2.1) x.2.2) l := by
      show joinWays here next (F.join (here + x.1.toNat) (wayTo F.outn next x.2.1) x.2.2) l = _
      rw [h.sh.outn]
    rw [e]
    refine g2.cast (by simp; omega) fun U => ?_
    simp only [capWays]
    omega

theorem built_ticks {V s o R T : Nat} {all : Int} {ws : List Ev} (hR : 1 ≤ R) (h0 : 0 ≤ all) (h1 : all ≤ 60000) (hs : s = R * (T + 1)) (ho : o = s + 1) (hV : V = s + 2)
    (hw : ∀ x ∈ ws, 0 ≤ x.1 ∧ x.1 < R ∧ (x.2.1 = -1 ∨ 0 ≤ x.2.1 ∧ x.2.1 < R) ∧ x.1 ≠ x.2.1 ∧ 1 ≤ x.2.2 ∧ x.2.2 ≤ 10000) : ∀ (k t n : Nat) (F : Fl) (c : (Nat → Bool) → Int), Built V s o R T n c F → t + k = T →
    Built V s o R T (n + k * (R + ws.length)) (fun U => c U + capTicks U R all ws o t k) (joinTicks R all ws F t k)
  | 0, t, n, F, c, h, _ => h.cast (by simp) fun U => by simp [capTicks]
  | k + 1, t, n, F, c, h, ht => by
    have e1 : (t + 1) * R = t * R + R := by rw [Nat.add_mul, Nat.one_mul]
    have e2 : (t + 1) * R + R ≤ R * (T + 1) := by
      have h3 : (t + 2) * R ≤ (T + 1) * R := Nat.mul_le_mul_right R (by omega)
      have h4 : (t + 2) * R = (t + 1) * R + R := by rw [Nat.add_mul (t + 1) 1 R, Nat.one_mul]
      rw [Nat.mul_comm R (T + 1)]
      omega
    have g1 := built_stay (here := t * R) (next := (t + 1) * R) h0 h1 (by omega) R 0 _ _ _ h (by omega) (by omega)
    have g2 := built_ways (here := t * R) (next := (t + 1) * R) (by omega) (by omega) (by omega) (by omega) (by omega) ws _ _ _ g1 hw
    have g3 := built_ticks hR h0 h1 hs ho hV hw k (t + 1) _ _ _ g2 (by omega)
    refine g3.cast ?_ fun U => ?_
    · rw [Nat.add_mul, Nat.one_mul]
      omega
    · simp only [capTicks]
      omega

theorem built_empty (R T : Nat) : Built (R * (T + 1) + 2) (R * (T + 1)) (R * (T + 1) + 1) R T 0 (fun _ => 0) (emptyFl R T) where
  sh := FlSh.empty R T
  adj := ⟨fun n i l hl hi => by
    have := List.eq_of_mem_replicate (List.mem_of_getElem? (show (List.replicate (R * (T + 1) + 2) ([] : List Nat))[n]? = some l from hl))
    rw [this] at hi
    simp at hi, fun i a ha => by
    have : ([] : List Arc)[i]? = some a := ha
    simp at this⟩
  arcs := ⟨fun i a ha => by
    have : ([] : List Arc)[i]? = some a := ha
    simp at this, fun i a ha => by
    have : ([] : List Arc)[i]? = some a := ha
    simp at this⟩
  rest := fun U => rfl

theorem sumL_bound : ∀ (l : List Int), (∀ x ∈ l, 0 ≤ x ∧ x ≤ 10000) → 0 ≤ sumL l ∧ sumL l ≤ 10000 * l.length
  | [], _ => by simp [sumL]
  | x :: l, h => by
    have h1 := h x (by simp)
    have h2 := sumL_bound l fun y hy => h y (by simp [hy])
    simp only [sumL, List.length_cons]
    omega

theorem built_good {pp : List Int} {ws : List Ev} (ok : RoomsOk pp ws) (T : Nat) (hT : T ≤ 20) : FlGood (capM pp ws T) (builtM pp ws T) ∧ (builtM pp ws T).src = pp.length * (T + 1) ∧ (builtM pp ws T).outn = pp.length * (T + 1) + 1 ∧
    (builtM pp ws T).adj.length = pp.length * (T + 1) + 2 ∧ (builtM pp ws T).o = 0 ∧ (builtM pp ws T).rooms = pp.length ∧ (builtM pp ws T).ticks = T := by
  have hR := ok.some_
  have hR6 := ok.few
  have hW := ok.fewW
  have hS : pp.length * (T + 1) ≤ 126 := Nat.le_trans (Nat.mul_le_mul hR6 (by omega : T + 1 ≤ 21)) (by omega)
  have hS1 : pp.length ≤ pp.length * (T + 1) := Nat.le_mul_of_pos_right _ (by omega)
  obtain ⟨s0, s1⟩ := sumL_bound pp ok.people
  have hall : sumL pp ≤ 60000 := by omega
  have g0 := built_empty pp.length T
  have g1 := built_people (by omega) pp 0 _ _ _ g0 (by omega) ok.people
  have g2 := built_ticks hR s0 hall rfl rfl rfl ok.ways T 0 _ _ _ g1 (by omega)
  have hn : T * (pp.length + ws.length) ≤ 20 * 22 := Nat.mul_le_mul hT (by omega)
  have hok := g2.sh.ok (by omega) (by omega) (by omega) (by omega)
  have g3 : FlGood (capM pp ws T) (builtM pp ws T) := by
    refine ⟨hok, g2.adj, g2.arcs, fun U _ _ => ?_, ?_, ?_⟩
    · have h1 := g2.rest U
      have h2 := g2.sh.o0
      show (builtM pp ws T).o + restU U (builtM pp ws T).arcs = _
      unfold builtM
      rw [h1, h2]
      unfold capM
      omega
    · show (builtM pp ws T).src ≠ (builtM pp ws T).outn
      unfold builtM
      rw [g2.sh.src, g2.sh.outn]
      omega
    · show 0 ≤ (builtM pp ws T).o
      unfold builtM
      rw [g2.sh.o0]
      exact Int.le_refl _
  exact ⟨g3, g2.sh.src, g2.sh.outn, g2.sh.adjN, g2.sh.o0, g2.sh.rooms, g2.sh.ticks⟩

/-! ### the cut round the source -/
theorem capPeople_src {s : Nat} : ∀ (l : List Int) (r : Nat), r + l.length ≤ s → capPeople (fun v => v == s) s r l = sumL l
  | [], _, _ => rfl
  | x :: l, r, h => by
    simp only [List.length_cons] at h
    have ih := capPeople_src (s := s) l (r + 1) (by omega)
    have hb : (r == s) = false := by simp; omega
    simp only [capPeople, sumL, ih, beq_self_eq_true, hb, Bool.not_false, Bool.and_self, if_true]
theorem capStay_none {U : Nat → Bool} {here next : Nat} {all : Int} : ∀ (k r : Nat), (∀ v, here + r ≤ v → v < here + r + k → U v = false) → capStay U here next all r k = 0
  | 0, _, _ => rfl
  | k + 1, r, h => by
    have ih := capStay_none (U := U) (here := here) (next := next) (all := all) k (r + 1) fun v h1 h2 => h v (by omega) (by omega)
    have h0 := h (here + r) (by omega) (by omega)
    simp [capStay, ih, h0]
theorem capWays_none {U : Nat → Bool} {o here next R : Nat} (h : ∀ v, here ≤ v → v < here + R → U v = false) : ∀ (l : List Ev), (∀ x ∈ l, 0 ≤ x.1 ∧ x.1 < (R : Int)) → capWays U o here next l = 0
  | [], _ => rfl
  | x :: l, hx => by
    have ih := capWays_none (U := U) (o := o) (next := next) h l fun y hy => hx y (by simp [hy])
    have h1 := hx x (by simp)
    have h0 := h (here + x.1.toNat) (by omega) (by omega)
    simp [capWays, ih, h0]
theorem capTicks_none {U : Nat → Bool} {R o : Nat} {all : Int} {ws : List Ev} {S : Nat} (h : ∀ v, v < S → U v = false) (hw : ∀ x ∈ ws, 0 ≤ x.1 ∧ x.1 < (R : Int)) : ∀ (k t : Nat), (t + k) * R + R ≤ S → capTicks U R all ws o t k = 0
  | 0, _, _ => rfl
  | k + 1, t, hS => by
    have e0 : (t + 1 + k) * R = (t + (k + 1)) * R := by rw [show t + 1 + k = t + (k + 1) by omega]
    have ih := capTicks_none (U := U) (R := R) (o := o) (all := all) h hw k (t + 1) (by rw [e0]; exact hS)
    have e1 : t * R ≤ (t + (k + 1)) * R := Nat.mul_le_mul_right R (by omega)
    simp only [capTicks, ih]
    rw [capStay_none R 0 fun v h1 h2 => h v (by omega), capWays_none (R := R) (fun v h1 h2 => h v (by omega)) ws hw]
    rfl
theorem capM_src {pp : List Int} {ws : List Ev} (ok : RoomsOk pp ws) (T : Nat) : capM pp ws T (fun v => v == pp.length * (T + 1)) = sumL pp := by
  have hS1 : pp.length ≤ pp.length * (T + 1) := Nat.le_mul_of_pos_right _ (by omega)
  unfold capM
  rw [capPeople_src pp 0 (by omega), capTicks_none (S := pp.length * (T + 1)) (fun v hv => by simp; omega) (fun x hx => by have := ok.ways x hx; omega) T 0 (by
    rw [Nat.zero_add, Nat.mul_add, Nat.mul_comm T]
    omega)]
  omega

/-- **The greatest flow of right rooms.** -/
theorem flow_total {pp : List Int} {ws : List Ev} (ok : RoomsOk pp ws) (T : Nat) (hT : T ≤ 20) : ∃ F r, runM 60001 129 (builtM pp ws T) = some F ∧ FlGood (capM pp ws T) F ∧ F.src = pp.length * (T + 1) ∧ F.outn = pp.length * (T + 1) + 1 ∧
    F.adj.length = pp.length * (T + 1) + 2 ∧ F.rooms = pp.length ∧ F.ticks = T ∧ bfsM F 129 (List.replicate F.adj.length (-1)) [F.src] = some r ∧ r.length = F.adj.length ∧ r[F.outn]?.getD 0 < 0 ∧ r[F.src]?.getD 0 < 0 ∧ (∀ v, Rch F.src r v → ClosedAt F r v) ∧
    F.o = capM pp ws T (rchB F.src r) := by
  obtain ⟨g, h1, h2, h3, h4, h5, h6⟩ := built_good ok T hT
  have hR6 := ok.few
  have hS : pp.length * (T + 1) ≤ 126 := Nat.le_trans (Nat.mul_le_mul hR6 (by omega : T + 1 ≤ 21)) (by omega)
  have hsum := sumL_bound pp ok.people
  obtain ⟨F, r, a1, a2, a3, a4, a5, a6, a7, a8, a9, a10, a11, a12⟩ := run_spec (s := pp.length * (T + 1)) (o := pp.length * (T + 1) + 1) ⟨fun v => v == pp.length * (T + 1), by simp, by simp, by rw [capM_src ok]; omega⟩ 129 60001 (builtM pp ws T) g h1 h2 (by omega) (by rw [h4]; omega)
  refine ⟨F, r, a1, a2, a3, a4, (congrArg List.length a5).trans h3, a6.trans h5, a7.trans h6, a8, a9, by rw [a4]; exact a10, by rw [a3]; exact a11, by rw [a3]; exact a12, ?_⟩
  exact closed_cap a2 (by rw [a4]; exact a10) (by rw [a3]; exact a12)
end Go.Proofs.YtmcjnfghlpnghaaDoor

namespace Go.Proofs.YtmcjnfghlpnghaaDoor

def cellR (M : List (List Int)) (u v : Nat) : Int := (M[u]?.getD [])[v]?.getD 0
def setR (M : List (List Int)) (u v : Nat) (x : Int) : List (List Int) := M.set u ((M[u]?.getD []).set v x)
structure Sq (n : Nat) (M : List (List Int)) : Prop where
  len : M.length = n
  row : ∀ (i : Nat) (r : List Int), M[i]? = some r → r.length = n

theorem Sq.at_ {n u : Nat} {M : List (List Int)} (h : Sq n M) (hu : u < n) : M[u]? = some (M[u]?.getD []) := by
  rw [List.getElem?_eq_getElem (by rw [h.len]; exact hu)]
  rfl

theorem Sq.set {n u v : Nat} {M : List (List Int)} (h : Sq n M) (hu : u < n) (x : Int) : Sq n (setR M u v x) := by
  refine ⟨by simp [setR, h.len], fun i r hr => ?_⟩
  unfold setR at hr
  by_cases hi : u = i
  · subst hi
    rw [List.getElem?_set_self (by rw [h.len]; exact hu)] at hr
    rw [← Option.some.inj hr, List.length_set]
    exact h.row u _ (h.at_ hu)
  · rw [List.getElem?_set_ne hi] at hr
    exact h.row i r hr

theorem cell_set {n u v : Nat} {M : List (List Int)} (h : Sq n M) (hu : u < n) (hv : v < n) (x : Int) (a b : Nat) : cellR (setR M u v x) a b = if a = u ∧ b = v then x else cellR M a b := by
  unfold cellR setR
  by_cases ha : u = a
  · subst ha
    rw [List.getElem?_set_self (by rw [h.len]; exact hu)]
    simp only [Option.getD_some]
    by_cases hb : v = b
    · subst hb
      rw [List.getElem?_set_self (by rw [h.row u _ (h.at_ hu)]; exact hv)]
      simp
    · rw [List.getElem?_set_ne hb, if_neg (fun h => hb h.2.symm)]
  · rw [List.getElem?_set_ne ha, if_neg (fun h => ha h.1.symm)]

/-! ### sums -/
def sumN : Nat → (Nat → Int) → Int
  | 0, _ => 0
  | k + 1, f => sumN k f + f k
theorem sumN_congr {f g : Nat → Int} : ∀ (n : Nat), (∀ i, i < n → f i = g i) → sumN n f = sumN n g
  | 0, _ => rfl
  | n + 1, h => by
    have ih := sumN_congr n fun i hi => h i (by omega)
    simp only [sumN, ih, h n (by omega)]
theorem sumN_point {f g : Nat → Int} {k : Nat} : ∀ (n : Nat), k < n → (∀ i, i < n → i ≠ k → f i = g i) → sumN n f = sumN n g + (f k - g k)
  | 0, h, _ => by omega
  | n + 1, hk, h => by
    by_cases hkn : k = n
    · subst hkn
      have := sumN_congr (f := f) (g := g) k fun i hi => h i (by omega) (by omega)
      simp only [sumN, this]
      omega
    · have ih := sumN_point n (by omega) fun i hi hne => h i (by omega) hne
      simp only [sumN, ih, h n (by omega) (Ne.symm hkn)]
      omega
theorem sumN_nonneg {f : Nat → Int} : ∀ (n : Nat), (∀ i, i < n → 0 ≤ f i) → 0 ≤ sumN n f
  | 0, _ => by simp [sumN]
  | n + 1, h => by
    have ih := sumN_nonneg n fun i hi => h i (by omega)
    have := h n (by omega)
    simp only [sumN]
    omega
theorem sumN_zero {f : Nat → Int} : ∀ (n : Nat), (∀ i, i < n → f i = 0) → sumN n f = 0
  | 0, _ => rfl
  | n + 1, h => by
    have ih := sumN_zero n fun i hi => h i (by omega)
    simp only [sumN, ih, h n (by omega)]
    rfl

def restR (n : Nat) (U : Nat → Bool) (M : List (List Int)) : Int := sumN n fun u => sumN n fun v => if U u && !U v then cellR M u v else 0

theorem restR_set {n u v : Nat} {M : List (List Int)} (h : Sq n M) (hu : u < n) (hv : v < n) (x : Int) (U : Nat → Bool) : restR n U (setR M u v x) = restR n U M + if U u && !U v then x - cellR M u v else 0 := by
  have e1 : ∀ i, i ≠ u → ∀ j, cellR (setR M u v x) i j = cellR M i j := fun i hi j => by
    have e := cell_set h hu hv x i j
    rwa [if_neg (fun h => hi h.1)] at e
  have e2 : ∀ j, j ≠ v → cellR (setR M u v x) u j = cellR M u j := fun j hj => by
    have e := cell_set h hu hv x u j
    rwa [if_neg (fun h => hj h.2)] at e
  have e3 : cellR (setR M u v x) u v = x := by
    have e := cell_set h hu hv x u v
    rwa [if_pos ⟨rfl, rfl⟩] at e
  unfold restR
  rw [sumN_point (k := u) (f := fun u' => sumN n fun v' => if U u' && !U v' then cellR (setR M u v x) u' v' else 0) (g := fun u' => sumN n fun v' => if U u' && !U v' then cellR M u' v' else 0) n hu (fun i _ hne => sumN_congr n fun j _ => by rw [e1 i hne j])]
  have e4 := sumN_point (k := v) (f := fun j => if U u && !U j then cellR (setR M u v x) u j else 0) (g := fun j => if U u && !U j then cellR M u j else 0) n hv (fun j _ hne => by
    show (if U u && !U j then cellR (setR M u v x) u j else 0) = if U u && !U j then cellR M u j else 0
    rw [e2 j hne])
  show _ + ((sumN n fun j => if U u && !U j then cellR (setR M u v x) u j else 0) - (sumN n fun j => if U u && !U j then cellR M u j else 0)) = _
  rw [e4, e3]
  split <;> omega

theorem restR_nonneg {n : Nat} {M : List (List Int)} (U : Nat → Bool) (h : ∀ u v, u < n → v < n → 0 ≤ cellR M u v) : 0 ≤ restR n U M :=
  sumN_nonneg n fun u hu => sumN_nonneg n fun v hv => by
    have := h u v hu hv
    split <;> omega
theorem restR_zero {n : Nat} {M : List (List Int)} (U : Nat → Bool) (h : ∀ u v, u < n → v < n → U u = true → U v = false → cellR M u v = 0) : restR n U M = 0 :=
  sumN_zero n fun u hu => sumN_zero n fun v hv => by
    split
    · rename_i hc
      simp only [Bool.and_eq_true, Bool.not_eq_true'] at hc
      exact h u v hu hv hc.1 hc.2
    · rfl

/-! ### the models -/
/-- the nodes from k on, c of them, that are reached from u -/
def scanR (M : List (List Int)) (u : Nat) : Nat → Nat → List Int → List Nat → List Int × List Nat
  | 0, _, y, q => (y, q)
  | c + 1, k, y, q => if y[k]?.getD 0 < 0 ∧ 0 < cellR M u k then scanR M u c (k + 1) (y.set k (u : Int)) (q ++ [k]) else scanR M u c (k + 1) y q
def bfsR (M : List (List Int)) (last : Nat) : Nat → Nat → List Int → List Nat → Option (List Int)
  | f, i, y, q =>
    match q[i]? with
    | none => some y
    | some u =>
      match f with
      | 0 => none
      | f + 1 => bfsR M last f (i + 1) (scanR M u last 1 y q).1 (scanR M u last 1 y q).2
def minR (M : List (List Int)) (y : List Int) : Nat → Nat → Int → Option Int
  | f, k, acc => if k = 0 then some acc else
    match f with
    | 0 => none
    | f + 1 =>
      match y[k]? with
      | none => none
      | some j => if j < 0 then none else minR M y f j.toNat (min acc (cellR M j.toNat k))
def pushRm (y : List Int) (d : Int) : Nat → Nat → List (List Int) → Option (List (List Int))
  | f, k, M => if k = 0 then some M else
    match f with
    | 0 => none
    | f + 1 =>
      match y[k]? with
      | none => none
      | some j => if j < 0 then none else
        if okI (cellR M j.toNat k - d) && okI (cellR (setR M j.toNat k (cellR M j.toNat k - d)) k j.toNat + d) then
          pushRm y d f j.toNat (setR (setR M j.toNat k (cellR M j.toNat k - d)) k j.toNat (cellR (setR M j.toNat k (cellR M j.toNat k - d)) k j.toNat + d))
        else none
def startR (last : Nat) : List Int := 0 :: List.replicate last (-1)
/-- one push: none: nothing gets through -/
def pushTot (M : List (List Int)) (last f : Nat) : Option (Option (List (List Int) × Int)) :=
  match bfsR M last f 0 (startR last) [0] with
  | none => none
  | some y =>
    match y[last]? with
    | none => none
    | some j =>
      if j < 0 then some none else
      match minR M y f last (cellR M j.toNat last) with
      | none => none
      | some d =>
        match pushRm y d f last M with
        | none => none
        | some M' => some (some (M', d))
def runR (last : Nat) : Nat → Nat → List (List Int) → Int → Option Int
  | 0, _, _, _ => none
  | k + 1, f, M, o =>
    match pushTot M last f with
    | none => none
    | some none => some o
    | some (some (M', d)) => if okI (o + d) && decide (0 < d) then runR last k f M' (o + d) else none

/-! ### reach -/
def RchR (y : List Int) (v : Nat) : Prop := ∃ k : Int, y[v]? = some k ∧ 0 ≤ k

structure BfsR (M : List (List Int)) (n : Nat) (y : List Int) (q : List Nat) (rk : Nat → Nat) (N : Nat) : Prop where
  len : y.length = n
  zero : y[0]? = some 0
  rk0 : rk 0 < N
  tree : ∀ (v : Nat) (k : Int), v ≠ 0 → y[v]? = some k → 0 ≤ k → rk v < N ∧ k.toNat < n ∧ 0 < cellR M k.toNat v ∧ RchR y k.toNat ∧ rk k.toNat < rk v
  queue : ∀ v ∈ q, RchR y v ∧ v < n
  all : ∀ v, RchR y v → v ∈ q

theorem RchR.set {y : List Int} {v t : Nat} {i : Int} (hi : 0 ≤ i) (ht : t < y.length) (h : RchR y v) : RchR (y.set t i) v := by
  obtain ⟨k, hk, hk0⟩ := h
  by_cases hv : t = v
  · subst hv
    exact ⟨i, by simp [ht], hi⟩
  · exact ⟨k, by rw [List.getElem?_set_ne hv]; exact hk, hk0⟩
theorem rchR_of_set {y : List Int} {v t : Nat} {i : Int} (h : RchR (y.set t i) v) : RchR y v ∨ v = t := by
  obtain ⟨k, hk, hk0⟩ := h
  by_cases hv : t = v
  · exact .inr hv.symm
  · rw [List.getElem?_set_ne hv] at hk
    exact .inl ⟨k, hk, hk0⟩
theorem not_rchR {y : List Int} {v : Nat} (h : y[v]?.getD 0 < 0) : ¬ RchR y v := by
  rintro ⟨k, hk, hk0⟩
  rw [hk] at h
  simp at h
  omega

theorem BfsR.step {M : List (List Int)} {n : Nat} {y : List Int} {q : List Nat} {rk : Nat → Nat} {N u k : Nat} (h : BfsR M n y q rk N) (hu : RchR y u) (hun : u < n) (h1 : y[k]?.getD 0 < 0) (h2 : 0 < cellR M u k) :
    BfsR M n (y.set k (u : Int)) (q ++ [k]) (fun v => if v = k then N else rk v) (N + 1) := by
  have hk := getD_neg h1
  have hn := not_rchR h1
  have hk0 : k ≠ 0 := fun he => by
    rw [he, h.zero] at h1
    simp at h1
  have hN : ∀ v, RchR y v → rk v < N := by
    intro v hv
    by_cases hv0 : v = 0
    · rw [hv0]; exact h.rk0
    · obtain ⟨j, hj, hj0⟩ := hv
      exact (h.tree v j hv0 hj hj0).1
  have huk : u ≠ k := fun he => hn (he ▸ hu)
  refine ⟨by simpa using h.len, ?_, ?_, fun v j hv hj hj0 => ?_, fun v hv => ?_, fun v hv => ?_⟩
  · rw [List.getElem?_set_ne hk0]; exact h.zero
  · simp only [if_neg (Ne.symm hk0)]
    have := h.rk0
    omega
  · by_cases hvk : k = v
    · subst hvk
      rw [List.getElem?_set_self hk] at hj
      obtain rfl := Option.some.inj hj
      refine ⟨by simp, by simpa using hun, by simpa using h2, ?_, ?_⟩
      · simpa using hu.set (by omega) hk
      · simp only [Int.toNat_natCast, if_neg huk, if_pos]
        exact hN u hu
    · rw [List.getElem?_set_ne hvk] at hj
      obtain ⟨g1, g2, g3, g4, g5⟩ := h.tree v j hv hj hj0
      have hjk : j.toNat ≠ k := fun he => hn (he ▸ g4)
      simp only [if_neg (Ne.symm hvk), if_neg hjk]
      exact ⟨by omega, g2, g3, g4.set (by omega) hk, g5⟩
  · rcases List.mem_append.1 hv with hv | hv
    · exact ⟨(h.queue v hv).1.set (by omega) hk, (h.queue v hv).2⟩
    · obtain rfl : v = k := by simpa using hv
      exact ⟨⟨(u : Int), by simp [hk], by omega⟩, by rw [← h.len]; exact hk⟩
  · rcases rchR_of_set hv with hv | hv
    · exact List.mem_append_left _ (h.all v hv)
    · exact List.mem_append_right _ (by simp [hv])

theorem scanR_spec {M : List (List Int)} {n u : Nat} : ∀ (c k : Nat) (y : List Int) (q : List Nat) (rk : Nat → Nat) (N : Nat), RchR y u → u < n → BfsR M n y q rk N → k + c ≤ n → 
    ∃ rk' N' t, BfsR M n (scanR M u c k y q).1 (scanR M u c k y q).2 rk' N' ∧ (scanR M u c k y q).2 = q ++ t ∧ (∀ v, RchR y v → RchR (scanR M u c k y q).1 v) ∧
      (∀ v, k ≤ v → v < k + c → 0 < cellR M u v → RchR (scanR M u c k y q).1 v) ∧ (scanR M u c k y q).2.length + negs (scanR M u c k y q).1 = q.length + negs y ∧ N' + negs (scanR M u c k y q).1 = N + negs y
  | 0, k, y, q, rk, N, _, _, h, _ => ⟨rk, N, [], h, by simp [scanR], fun _ h => h, fun v h1 h2 => by omega, rfl, rfl⟩
  | c + 1, k, y, q, rk, N, hu, hun, h, hkc => by
    by_cases hc : y[k]?.getD 0 < 0 ∧ 0 < cellR M u k
    · have e : scanR M u (c + 1) k y q = scanR M u c (k + 1) (y.set k (u : Int)) (q ++ [k]) := by
        conv => lhs; unfold scanR
        rw [if_pos hc]
      have hk := getD_neg hc.1
      obtain ⟨rk', N', t, g1, g2, g3, g4, g5, g6⟩ := scanR_spec c (k + 1) _ _ _ _ (hu.set (by omega) hk) hun (h.step hu hun hc.1 hc.2) (by omega)
      have hng := negs_set (u : Int) (by omega) y k hc.1
      rw [e]
      refine ⟨rk', N', k :: t, g1, by rw [g2]; simp, fun v hv => g3 v (hv.set (by omega) hk), fun v h1 h2 h3 => ?_, by rw [g5]; simp; omega, by omega⟩
      by_cases hv : v = k
      · subst hv
        exact g3 _ ⟨(u : Int), by simp [hk], by omega⟩
      · exact g4 v (by omega) (by omega) h3
    · have e : scanR M u (c + 1) k y q = scanR M u c (k + 1) y q := by
        conv => lhs; unfold scanR
        rw [if_neg hc]
      obtain ⟨rk', N', t, g1, g2, g3, g4, g5, g6⟩ := scanR_spec c (k + 1) y q rk N hu hun h (by omega)
      rw [e]
      refine ⟨rk', N', t, g1, g2, g3, fun v h1 h2 h3 => ?_, g5, g6⟩
      by_cases hv : v = k
      · subst hv
        apply g3
        have hvl : v < y.length := by rw [h.len]; omega
        refine ⟨y[v], List.getElem?_eq_getElem hvl, ?_⟩
        rcases (show y[v] < 0 ∨ 0 ≤ y[v] by omega) with h4 | h4
        · exact absurd ⟨by rw [List.getElem?_eq_getElem hvl]; exact h4, h3⟩ hc
        · exact h4
      · exact g4 v (by omega) (by omega) h3

def ClosedR (M : List (List Int)) (n : Nat) (y : List Int) (v : Nat) : Prop := ∀ k, 1 ≤ k → k < n → 0 < cellR M v k → RchR y k

theorem bfsR_spec {M : List (List Int)} {last : Nat} : ∀ (f i : Nat) (y : List Int) (q : List Nat) (rk : Nat → Nat) (N : Nat), BfsR M (last + 1) y q rk N → (∀ j v, j < i → q[j]? = some v → ClosedR M (last + 1) y v) → q.length + negs y ≤ f + i →
    ∃ r q' rk' N', bfsR M last f i y q = some r ∧ BfsR M (last + 1) r q' rk' N' ∧ N' ≤ N + negs y ∧ ∀ v, RchR r v → ClosedR M (last + 1) r v
  | f, i, y, q, rk, N, h, hc, hf => by
    cases hq : q[i]? with
    | none =>
      refine ⟨y, q, rk, N, ?_, h, by omega, fun v hv => ?_⟩
      · unfold bfsR
        rw [hq]
      · obtain ⟨j, hj⟩ := List.getElem?_of_mem (h.all v hv)
        refine hc j v ?_ hj
        have h1 := (List.getElem?_eq_some_iff.1 hj).1
        have h2 := List.getElem?_eq_none_iff.1 hq
        omega
    | some u =>
      have hil := (List.getElem?_eq_some_iff.1 hq).1
      cases f with
      | zero => exfalso; omega
      | succ f =>
        obtain ⟨hu, hun⟩ := h.queue u (List.mem_of_getElem? hq)
        obtain ⟨rk', N', t, g1, g2, g3, g4, g5, g6⟩ := scanR_spec last 1 y q rk N hu hun h (by omega)
        obtain ⟨r, q', rk2, N2, e1, e2, e3, e4⟩ := bfsR_spec f (i + 1) _ _ rk' N' g1 (fun j v hj hv => by
          rw [g2] at hv
          by_cases hji : j = i
          · subst hji
            rw [List.getElem?_append_left hil, hq] at hv
            obtain rfl := Option.some.inj hv
            intro k k1 k2 k3
            exact g4 k k1 (by omega) k3
          · rw [List.getElem?_append_left (by omega)] at hv
            intro k k1 k2 k3
            exact g3 k (hc j v (by omega) hv k k1 k2 k3)) (by omega)
        refine ⟨r, q', rk2, N2, ?_, e2, by omega, e4⟩
        unfold bfsR
        rw [hq]
        exact e1
end Go.Proofs.YtmcjnfghlpnghaaDoor

namespace Go.Proofs.YtmcjnfghlpnghaaDoor

/-- what holds of the square all along -/
structure SqGood (n : Nat) (M : List (List Int)) : Prop where
  sq : Sq n M
  pos : ∀ u v, u < n → v < n → 0 ≤ cellR M u v
  pair : ∀ u v, u < n → v < n → u ≠ v → cellR M u v + cellR M v u ≤ 900000000

theorem SqGood.le {n u v : Nat} {M : List (List Int)} (h : SqGood n M) (hu : u < n) (hv : v < n) (hne : u ≠ v) : cellR M u v ≤ 900000000 := by
  have := h.pair u v hu hv hne
  have := h.pos v u hv hu
  omega

theorem SqGood.push {n u k : Nat} {M : List (List Int)} {d : Int} (h : SqGood n M) (hu : u < n) (hk : k < n) (hne : u ≠ k) (h0 : 0 ≤ d) (hd : d ≤ cellR M u k) :
    SqGood n (setR (setR M u k (cellR M u k - d)) k u (cellR (setR M u k (cellR M u k - d)) k u + d)) := by
  have s1 := h.sq.set hu (v := k) (cellR M u k - d)
  have cell : ∀ a b, cellR (setR (setR M u k (cellR M u k - d)) k u (cellR (setR M u k (cellR M u k - d)) k u + d)) a b = cellR M a b + (if a = u ∧ b = k then -d else 0) + (if a = k ∧ b = u then d else 0) := by
    intro a b
    rw [cell_set s1 hk hu]
    by_cases h1 : a = k ∧ b = u
    · obtain ⟨rfl, rfl⟩ := h1
      rw [if_pos ⟨rfl, rfl⟩, cell_set h.sq hu hk, if_neg (fun h => hne h.1.symm), if_neg (fun h => hne h.1.symm), if_pos ⟨rfl, rfl⟩]
      omega
    · rw [if_neg h1, cell_set h.sq hu hk, if_neg h1]
      by_cases h2 : a = u ∧ b = k
      · obtain ⟨rfl, rfl⟩ := h2
        rw [if_pos ⟨rfl, rfl⟩, if_pos ⟨rfl, rfl⟩]
        omega
      · rw [if_neg h2, if_neg h2]
        omega
  refine ⟨s1.set hk _, fun a b ha hb => ?_, fun a b ha hb hab => ?_⟩
  · rw [cell]
    have := h.pos a b ha hb
    by_cases h1 : a = u ∧ b = k
    · obtain ⟨rfl, rfl⟩ := h1
      rw [if_pos ⟨rfl, rfl⟩, if_neg (fun h => hne h.1)]
      omega
    · rw [if_neg h1]
      split <;> omega
  · rw [cell, cell]
    have := h.pair a b ha hb hab
    have key : (if a = u ∧ b = k then -d else 0) + (if a = k ∧ b = u then d else 0) + (if b = u ∧ a = k then -d else 0) + (if b = k ∧ a = u then d else 0) = 0 := by
      by_cases h1 : a = u ∧ b = k
      · obtain ⟨rfl, rfl⟩ := h1
        rw [if_pos ⟨rfl, rfl⟩, if_neg (fun h => hne h.1), if_neg (fun h => hne h.2), if_pos ⟨rfl, rfl⟩]
        omega
      · rw [if_neg h1, if_neg (show ¬ (b = k ∧ a = u) from fun h => h1 ⟨h.2, h.1⟩)]
        by_cases h2 : a = k ∧ b = u
        · rw [if_pos h2, if_pos (show b = u ∧ a = k from ⟨h2.2, h2.1⟩)]
          omega
        · rw [if_neg h2, if_neg (show ¬ (b = u ∧ a = k) from fun h => h2 ⟨h.2, h.1⟩)]
          rfl
    omega

/-- the way back takes at most so much -/
def pathR (M : List (List Int)) (y : List Int) (d : Int) : Nat → Nat → Prop
  | 0, k => k = 0
  | f + 1, k => k = 0 ∨ ∃ j : Int, y[k]? = some j ∧ 0 ≤ j ∧ d ≤ cellR M j.toNat k ∧ pathR M y d f j.toNat

theorem minR_spec {M : List (List Int)} {n : Nat} {y : List Int} {q : List Nat} {rk : Nat → Nat} {N : Nat} (h : BfsR M n y q rk N) : ∀ (f k : Nat) (acc : Int), RchR y k → rk k < f → 0 < acc →
    ∃ d, minR M y f k acc = some d ∧ 0 < d ∧ d ≤ acc ∧ pathR M y d f k
  | 0, _, _, _, hf, _ => by omega
  | f + 1, k, acc, hr, hf, ha => by
    by_cases hs : k = 0
    · refine ⟨acc, ?_, ha, by omega, .inl hs⟩
      unfold minR
      rw [if_pos hs]
    · obtain ⟨j, hj, hj0⟩ := hr
      obtain ⟨g1, g2, g3, g4, g5⟩ := h.tree k j hs hj hj0
      obtain ⟨d, e1, e2, e3, e4⟩ := minR_spec h f j.toNat (min acc (cellR M j.toNat k)) g4 (by omega) (by omega)
      refine ⟨d, ?_, e2, by omega, .inr ⟨j, hj, hj0, by omega, e4⟩⟩
      unfold minR
      rw [if_neg hs]
      simp only [hj, if_neg (show ¬ j < 0 by omega)]
      exact e1

theorem pushR_spec {M0 : List (List Int)} {n : Nat} {y : List Int} {q : List Nat} {rk : Nat → Nat} {N : Nat} (h : BfsR M0 n y q rk N) {d : Int} (hd : 0 < d) (hd2 : d ≤ 900000000) : ∀ (f k : Nat) (M : List (List Int)), RchR y k → k < n → pathR M0 y d f k → SqGood n M →
    (∀ (v : Nat) (j : Int), v ≠ 0 → y[v]? = some j → 0 ≤ j → rk v ≤ rk k → cellR M0 j.toNat v ≤ cellR M j.toNat v) →
    ∃ M', pushRm y d f k M = some M' ∧ SqGood n M' ∧ ∀ U : Nat → Bool, U 0 = true → restR n U M' = restR n U M - if U k then 0 else d
  | f, k, M, hr, hkn, hp, hg, hle => by
    by_cases hs : k = 0
    · refine ⟨M, ?_, hg, fun U hU => ?_⟩
      · unfold pushRm
        rw [if_pos hs]
      · rw [hs, if_pos hU]
        omega
    · cases f with
      | zero => exact absurd hp hs
      | succ f =>
        rcases hp with h1 | ⟨j, hj, hj0, hdj, hp⟩
        · exact absurd h1 hs
        · obtain ⟨g1, g2, g3, g4, g5⟩ := h.tree k j hs hj hj0
          have hjk : j.toNat ≠ k := fun he => by rw [he] at g5; omega
          have hc := hle k j hs hj hj0 (Nat.le_refl _)
          have hdc : d ≤ cellR M j.toNat k := by omega
          have hg2 := hg.push g2 hkn hjk (by omega) hdc
          have s1 := hg.sq.set g2 (v := k) (cellR M j.toNat k - d)
          have c1 : cellR (setR M j.toNat k (cellR M j.toNat k - d)) k j.toNat = cellR M k j.toNat := by
            rw [cell_set hg.sq g2 hkn, if_neg (fun h => hjk h.1.symm)]
          have p1 := hg.pos j.toNat k g2 hkn
          have p2 := hg.pos k j.toNat hkn g2
          have p3 := hg.pair j.toNat k g2 hkn hjk
          have o1 : okI (cellR M j.toNat k - d) = true := by
            simp only [okI, Bool.and_eq_true, decide_eq_true_eq]
            omega
          have o2 : okI (cellR (setR M j.toNat k (cellR M j.toNat k - d)) k j.toNat + d) = true := by
            rw [c1]
            simp only [okI, Bool.and_eq_true, decide_eq_true_eq]
            omega
          obtain ⟨M', e1, e2, e3⟩ := pushR_spec h hd hd2 f j.toNat _ g4 g2 hp hg2 (fun v i hv hi hi0 hrk => by
            have h6 := hle v i hv hi hi0 (by omega)
            have hvk : v ≠ k := fun he => by rw [he] at hrk; omega
            rw [cell_set s1 hkn g2]
            by_cases h7 : i.toNat = k ∧ v = j.toNat
            · rw [if_pos h7, c1]
              rw [h7.1, h7.2] at h6 ⊢
              omega
            · rw [if_neg h7, cell_set hg.sq g2 hkn, if_neg (fun h => hvk h.2)]
              exact h6)
          refine ⟨M', ?_, e2, fun U hU => ?_⟩
          · unfold pushRm
            rw [if_neg hs]
            simp only [hj, if_neg (show ¬ j < 0 by omega), o1, o2, Bool.and_self, if_true]
            exact e1
          · rw [e3 U hU, restR_set s1 hkn g2, restR_set hg.sq g2 hkn]
            cases U j.toNat <;> cases U k <;> simp <;> omega

structure RGood (last : Nat) (cap : (Nat → Bool) → Int) (M : List (List Int)) (o : Int) : Prop where
  good : SqGood (last + 1) M
  cons : ∀ U : Nat → Bool, U 0 = true → U last = false → o + restR (last + 1) U M = cap U
  o0 : 0 ≤ o

theorem startR_bfs {M : List (List Int)} (last : Nat) : BfsR M (last + 1) (startR last) [0] (fun _ => 0) 1 where
  len := by simp [startR]
  zero := rfl
  rk0 := by omega
  tree := fun v k hv hk hk0 => by
    exfalso
    cases v with
    | zero => exact hv rfl
    | succ v =>
      have : (List.replicate last (-1 : Int))[v]? = some k := hk
      have := List.eq_of_mem_replicate (List.mem_of_getElem? this)
      omega
  queue := fun v hv => by
    obtain rfl : v = 0 := by simpa using hv
    exact ⟨⟨0, rfl, by omega⟩, by omega⟩
  all := fun v hv => by
    obtain ⟨k, hk, hk0⟩ := hv
    cases v with
    | zero => simp
    | succ v =>
      exfalso
      have : (List.replicate last (-1 : Int))[v]? = some k := hk
      have := List.eq_of_mem_replicate (List.mem_of_getElem? this)
      omega

theorem negs_start (last : Nat) : negs (startR last) = last := by
  unfold negs startR
  simp

theorem pushTot_spec {last : Nat} {cap : (Nat → Bool) → Int} {M : List (List Int)} {o : Int} (h : RGood last cap M o) (hl : 0 < last) (f : Nat) (hf : last + 2 ≤ f) :
    (pushTot M last f = some none ∧ ∃ U : Nat → Bool, U 0 = true ∧ U last = false ∧ o = cap U) ∨
      ∃ M' d, pushTot M last f = some (some (M', d)) ∧ 0 < d ∧ d ≤ 900000000 ∧ RGood last cap M' (o + d) := by
  obtain ⟨y, q', rk, N, hy, hi, hN, hc⟩ := bfsR_spec (M := M) (last := last) f 0 (startR last) [0] _ _ (startR_bfs last) (fun j v hj => by omega) (by rw [negs_start]; simp; omega)
  rw [negs_start] at hN
  have hll : last < y.length := by rw [hi.len]; omega
  have hyl : y[last]? = some y[last] := List.getElem?_eq_getElem hll
  by_cases hneg : y[last] < 0
  · left
    refine ⟨?_, fun v => decide (∃ k : Int, y[v]? = some k ∧ 0 ≤ k), ?_, ?_, ?_⟩
    · unfold pushTot
      rw [hy]
      simp only [hyl, if_pos hneg]
    · simp only [decide_eq_true_eq]
      exact ⟨0, hi.zero, by omega⟩
    · simp only [decide_eq_false_iff_not]
      rintro ⟨k, hk, hk0⟩
      rw [hyl] at hk
      have := Option.some.inj hk
      omega
    · have h1 := h.cons (fun v => decide (∃ k : Int, y[v]? = some k ∧ 0 ≤ k)) (by simp only [decide_eq_true_eq]; exact ⟨0, hi.zero, by omega⟩) (by
        simp only [decide_eq_false_iff_not]
        rintro ⟨k, hk, hk0⟩
        rw [hyl] at hk
        have := Option.some.inj hk
        omega)
      rw [restR_zero] at h1
      · omega
      · intro u v hu hv h2 h3
        simp only [decide_eq_true_eq, decide_eq_false_iff_not] at h2 h3
        have p := h.good.pos u v hu hv
        rcases (show 0 < cellR M u v ∨ cellR M u v ≤ 0 by omega) with h4 | h4
        · by_cases hv0 : v = 0
          · exact absurd ⟨0, by rw [hv0]; exact hi.zero, by omega⟩ h3
          · exact absurd (hc u h2 v (by omega) hv h4) h3
        · omega
  · right
    have hr : RchR y last := ⟨y[last], hyl, by omega⟩
    have hl0 : last ≠ 0 := by omega
    obtain ⟨g1, g2, g3, g4, g5⟩ := hi.tree last y[last] hl0 hyl (by omega)
    have hjl : (y[last]).toNat ≠ last := fun he => by rw [he] at g5; omega
    obtain ⟨d, d1, d2, d3, d4⟩ := minR_spec hi f last (cellR M (y[last]).toNat last) hr (by omega) g3
    have hle := h.good.le g2 (by omega : last < last + 1) hjl
    obtain ⟨M', e1, e2, e3⟩ := pushR_spec hi d2 (by omega) f last M hr (by omega) d4 h.good (fun v j _ _ _ _ => Int.le_refl _)
    refine ⟨M', d, ?_, d2, by omega, e2, fun U h1 h2 => ?_, by have := h.o0; omega⟩
    · unfold pushTot
      rw [hy]
      simp only [hyl, if_neg hneg, d1, e1]
    · have h3 := h.cons U h1 h2
      have h4 := e3 U h1
      rw [h2] at h4
      simp only [Bool.false_eq_true, if_false] at h4
      omega

theorem RGood.le {last : Nat} {cap : (Nat → Bool) → Int} {M : List (List Int)} {o : Int} (h : RGood last cap M o) (U : Nat → Bool) (h1 : U 0 = true) (h2 : U last = false) : o ≤ cap U := by
  have := h.cons U h1 h2
  have := restR_nonneg (n := last + 1) U h.good.pos
  omega

theorem runR_spec {last : Nat} {cap : (Nat → Bool) → Int} (hl : 0 < last) (hcap : ∃ U : Nat → Bool, U 0 = true ∧ U last = false ∧ cap U ≤ 60000) (f : Nat) (hf : last + 2 ≤ f) : ∀ (k : Nat) (M : List (List Int)) (o : Int), RGood last cap M o → 60000 - o < (k : Int) →
    ∃ r, runR last k f M o = some r ∧ (∀ U : Nat → Bool, U 0 = true → U last = false → r ≤ cap U) ∧ ∃ U : Nat → Bool, U 0 = true ∧ U last = false ∧ r = cap U
  | 0, M, o, h, hk => by
    exfalso
    obtain ⟨U, u1, u2, u3⟩ := hcap
    have := h.le U u1 u2
    omega
  | k + 1, M, o, h, hk => by
    rcases pushTot_spec h hl f hf with ⟨h1, h2⟩ | ⟨M', d, h1, h2, h3, h4⟩
    · refine ⟨o, ?_, fun U => h.le U, h2⟩
      unfold runR
      rw [h1]
    · obtain ⟨r, e1, e2, e3⟩ := runR_spec hl hcap f hf k M' (o + d) h4 (by omega)
      refine ⟨r, ?_, e2, e3⟩
      unfold runR
      rw [h1]
      have ho : o + d ≤ 60000 := by
        obtain ⟨U, u1, u2, u3⟩ := hcap
        have := h4.le U u1 u2
        omega
      have ok : okI (o + d) = true := by
        have := h.o0
        simp only [okI, Bool.and_eq_true, decide_eq_true_eq]
        omega
      have hd : decide (0 < d) = true := by simpa using h2
      simp only [ok, hd, Bool.and_self, if_true]
      exact e1
end Go.Proofs.YtmcjnfghlpnghaaDoor

namespace Go.Proofs.YtmcjnfghlpnghaaDoor

def stayRm (R r : Nat) (all : Int) : Nat → Nat → List (List Int) → List (List Int)
  | _, 0, M => M
  | t, k + 1, M => stayRm R r all (t + 1) k (setR M (1 + R * t + r) (1 + R * (t + 1) + r) all)
def peopleRm (R T : Nat) (all : Int) : Nat → List Int → List (List Int) → List (List Int)
  | _, [], M => M
  | r, p :: l, M => peopleRm R T all (r + 1) l (stayRm R r all 0 T (setR M 0 (1 + r) p))
def wayToR (last R t : Nat) (to : Int) : Nat := if to = -1 then last else 1 + R * (t + 1) + to.toNat
def waysRm (R last t : Nat) : List Ev → List (List Int) → List (List Int)
  | [], M => M
  | x :: l, M => waysRm R last t l (setR M (1 + R * t + x.1.toNat) (wayToR last R t x.2.1) (cellR M (1 + R * t + x.1.toNat) (wayToR last R t x.2.1) + x.2.2))
def ticksRm (R last : Nat) (ws : List Ev) : Nat → Nat → List (List Int) → List (List Int)
  | _, 0, M => M
  | t, k + 1, M => ticksRm R last ws (t + 1) k (waysRm R last t ws M)
def zeroR (n : Nat) : List (List Int) := List.replicate n (List.replicate n 0)
def builtR (pp : List Int) (ws : List Ev) (T : Nat) : List (List Int) :=
  ticksRm pp.length (1 + pp.length * (T + 1)) ws 0 T (peopleRm pp.length T (sumL pp + 1) 0 pp (zeroR (1 + pp.length * (T + 1) + 1)))

theorem pos_eq {R t t' r r' : Nat} (h : R * t + r = R * t' + r') (hr : r < R) (hr' : r' < R) : t = t' ∧ r = r' := by
  have h1 : (R * t + r) / R = t := by rw [Nat.mul_add_div (by omega), Nat.div_eq_of_lt hr, Nat.add_zero]
  have h2 : (R * t' + r') / R = t' := by rw [Nat.mul_add_div (by omega), Nat.div_eq_of_lt hr', Nat.add_zero]
  have h3 : t = t' := by rw [← h1, ← h2, h]
  subst h3
  exact ⟨rfl, by omega⟩

structure BuiltSq (n : Nat) (b : Int) (c : (Nat → Bool) → Int) (M : List (List Int)) : Prop where
  sq : Sq n M
  pos : ∀ u v, 0 ≤ cellR M u v
  le : ∀ u v, cellR M u v ≤ b
  diag : ∀ u, cellR M u u = 0
  rest : ∀ U, restR n U M = c U

theorem BuiltSq.set {n u v : Nat} {b b' : Int} {c : (Nat → Bool) → Int} {M : List (List Int)} (h : BuiltSq n b c M) (hu : u < n) (hv : v < n) (hne : u ≠ v) (x : Int) (hx : 0 ≤ x) (hxb : x ≤ b') (hb : b ≤ b') :
    BuiltSq n b' (fun U => c U + if U u && !U v then x - cellR M u v else 0) (setR M u v x) := by
  refine ⟨h.sq.set hu x, fun a d => ?_, fun a d => ?_, fun a => ?_, fun U => ?_⟩
  · rw [cell_set h.sq hu hv]
    split
    · exact hx
    · exact h.pos a d
  · rw [cell_set h.sq hu hv]
    split
    · exact hxb
    · exact Int.le_trans (h.le a d) hb
  · rw [cell_set h.sq hu hv, if_neg (fun h => hne (h.1.symm.trans h.2))]
    exact h.diag a
  · rw [restR_set h.sq hu hv, h.rest U]

theorem BuiltSq.cast {n : Nat} {b : Int} {c c' : (Nat → Bool) → Int} {M : List (List Int)} (h : BuiltSq n b c M) (hc : ∀ U, c U = c' U) : BuiltSq n b c' M :=
  ⟨h.sq, h.pos, h.le, h.diag, fun U => (h.rest U).trans (hc U)⟩

/-- what stays: somebody in room r in tick t -/
def stayA (U : Nat → Bool) (R : Nat) (all : Int) (r t : Nat) : Int := if U (1 + R * t + r) && !U (1 + R * (t + 1) + r) then all else 0

/-- what is not yet put down -/
def Fresh (R T r t : Nat) (M : List (List Int)) : Prop :=
  (∀ t', t ≤ t' → t' < T → cellR M (1 + R * t' + r) (1 + R * (t' + 1) + r) = 0) ∧
    ∀ r', r < r' → r' < R → cellR M 0 (1 + r') = 0 ∧ ∀ t', t' < T → cellR M (1 + R * t' + r') (1 + R * (t' + 1) + r') = 0

theorem stay_built {R T r last : Nat} {all : Int} (hr : r < R) (h0 : 0 ≤ all) (h1 : all ≤ 60001) (hl : last = 1 + R * (T + 1)) : ∀ (k t : Nat) (M : List (List Int)) (c : (Nat → Bool) → Int), BuiltSq (last + 1) 60001 c M → t + k = T → Fresh R T r t M →
    BuiltSq (last + 1) 60001 (fun U => c U + sumN k fun i => stayA U R all r (t + i)) (stayRm R r all t k M) ∧ Fresh R T r T (stayRm R r all t k M)
  | 0, t, M, c, h, ht, hf => ⟨h.cast fun U => by simp [sumN], by
    obtain rfl : t = T := by omega
    exact hf⟩
  | k + 1, t, M, c, h, ht, hf => by
    have e1 : R * (t + 1) = R * t + R := by rw [Nat.mul_add, Nat.mul_one]
    have e2 : R * (t + 1) ≤ R * T := Nat.mul_le_mul_left R (by omega)
    have e3 : R * (T + 1) = R * T + R := by rw [Nat.mul_add, Nat.mul_one]
    have hz := hf.1 t (Nat.le_refl _) (by omega)
    have hs := h.set (u := 1 + R * t + r) (v := 1 + R * (t + 1) + r) (b' := 60001) (by omega) (by omega) (by omega) all h0 h1 (Int.le_refl _)
    have hf2 : Fresh R T r (t + 1) (setR M (1 + R * t + r) (1 + R * (t + 1) + r) all) := by
      refine ⟨fun t' h2 h3 => ?_, fun r' h2 h3 => ⟨?_, fun t' h4 => ?_⟩⟩
      · rw [cell_set h.sq (by omega) (by omega), if_neg]
        · exact hf.1 t' (by omega) h3
        · rintro ⟨h4, _⟩
          have := (pos_eq (R := R) (t := t') (t' := t) (r := r) (r' := r) (by omega) hr hr).1
          omega
      · rw [cell_set h.sq (by omega) (by omega), if_neg (by omega)]
        exact (hf.2 r' h2 h3).1
      · rw [cell_set h.sq (by omega) (by omega), if_neg]
        · exact (hf.2 r' h2 h3).2 t' h4
        · rintro ⟨h5, _⟩
          have := (pos_eq (R := R) (t := t') (t' := t) (r := r') (r' := r) (by omega) h3 hr).2
          omega
    obtain ⟨g1, g2⟩ := stay_built hr h0 h1 hl k (t + 1) _ _ hs (by omega) hf2
    refine ⟨g1.cast fun U => ?_, g2⟩
    have hsplit : ∀ (f : Nat → Int) (k : Nat), sumN (k + 1) f = f 0 + sumN k fun i => f (i + 1) := by
      intro f k
      induction k with
      | zero => simp [sumN]
      | succ k ih =>
        simp only [sumN] at ih ⊢
        omega
    rw [hsplit, hz]
    have e4 : (fun i => stayA U R all r (t + (i + 1))) = fun i => stayA U R all r (t + 1 + i) := by
      funext i
      rw [show t + (i + 1) = t + 1 + i by omega]
    rw [e4]
    simp only [stayA, Nat.add_zero, Int.sub_zero]
    omega

def capPeopleR (U : Nat → Bool) (R T : Nat) (all : Int) : Nat → List Int → Int
  | _, [] => 0
  | r, p :: l => (if U 0 && !U (1 + r) then p else 0) + (sumN T fun t => stayA U R all r t) + capPeopleR U R T all (r + 1) l

theorem people_built {R T last : Nat} {all : Int} (h0 : 0 ≤ all) (h1 : all ≤ 60001) (hl : last = 1 + R * (T + 1)) : ∀ (l : List Int) (r : Nat) (M : List (List Int)) (c : (Nat → Bool) → Int), BuiltSq (last + 1) 60001 c M → r + l.length = R → (∀ x ∈ l, 0 ≤ x ∧ x ≤ 10000) →
    (∀ r', r ≤ r' → r' < R → cellR M 0 (1 + r') = 0 ∧ ∀ t', t' < T → cellR M (1 + R * t' + r') (1 + R * (t' + 1) + r') = 0) →
    BuiltSq (last + 1) 60001 (fun U => c U + capPeopleR U R T all r l) (peopleRm R T all r l M)
  | [], r, M, c, h, _, _, _ => h.cast fun U => by simp [capPeopleR]
  | p :: l, r, M, c, h, hr, hx, hz => by
    simp only [List.length_cons] at hr
    have e3 : R * (T + 1) = R * T + R := by rw [Nat.mul_add, Nat.mul_one]
    obtain ⟨x0, x1⟩ := hx p (by simp)
    obtain ⟨z0, z1⟩ := hz r (Nat.le_refl _) (by omega)
    have hs := h.set (u := 0) (v := 1 + r) (b' := 60001) (by omega) (by omega) (by omega) p x0 (by omega) (Int.le_refl _)
    have hf : Fresh R T r 0 (setR M 0 (1 + r) p) := by
      refine ⟨fun t' _ h3 => ?_, fun r' h2 h3 => ⟨?_, fun t' h4 => ?_⟩⟩
      · rw [cell_set h.sq (by omega) (by omega), if_neg (by omega)]
        exact z1 t' h3
      · rw [cell_set h.sq (by omega) (by omega), if_neg (by omega)]
        exact (hz r' (by omega) h3).1
      · rw [cell_set h.sq (by omega) (by omega), if_neg (by omega)]
        exact (hz r' (by omega) h3).2 t' h4
    obtain ⟨g1, g2⟩ := stay_built (by omega) h0 h1 hl T 0 _ _ hs (by omega) hf
    have g3 := people_built h0 h1 hl l (r + 1) _ _ g1 (by omega) (fun y hy => hx y (by simp [hy])) fun r' h2 h3 => g2.2 r' (by omega) h3
    refine g3.cast fun U => ?_
    simp only [capPeopleR, z0, Int.sub_zero, Nat.zero_add]
    omega

def capWaysR (U : Nat → Bool) (R last t : Nat) : List Ev → Int
  | [] => 0
  | x :: l => (if U (1 + R * t + x.1.toNat) && !U (wayToR last R t x.2.1) then x.2.2 else 0) + capWaysR U R last t l

theorem ways_built {R T t last : Nat} (hl : last = 1 + R * (T + 1)) (ht : t < T) : ∀ (l : List Ev) (b : Int) (M : List (List Int)) (c : (Nat → Bool) → Int), BuiltSq (last + 1) b c M →
    (∀ x ∈ l, 0 ≤ x.1 ∧ x.1 < R ∧ (x.2.1 = -1 ∨ 0 ≤ x.2.1 ∧ x.2.1 < R) ∧ x.1 ≠ x.2.1 ∧ 1 ≤ x.2.2 ∧ x.2.2 ≤ 10000) →
    BuiltSq (last + 1) (b + 10000 * l.length) (fun U => c U + capWaysR U R last t l) (waysRm R last t l M)
  | [], b, M, c, h, _ => by
    have : b + 10000 * (([] : List Ev).length : Int) = b := by simp
    rw [this]
    exact h.cast fun U => by simp [capWaysR]
  | x :: l, b, M, c, h, hx => by
    obtain ⟨x1, x2, x3, _, x5, x6⟩ := hx x (by simp)
    have e1 : R * (t + 1) = R * t + R := by rw [Nat.mul_add, Nat.mul_one]
    have e2 : R * (t + 1) ≤ R * T := Nat.mul_le_mul_left R (by omega)
    have e3 : R * (T + 1) = R * T + R := by rw [Nat.mul_add, Nat.mul_one]
    have hv : wayToR last R t x.2.1 < last + 1 ∧ 1 + R * (t + 1) ≤ wayToR last R t x.2.1 := by
      unfold wayToR
      split <;> omega
    have p := h.pos (1 + R * t + x.1.toNat) (wayToR last R t x.2.1)
    have q := h.le (1 + R * t + x.1.toNat) (wayToR last R t x.2.1)
    have hs := h.set (u := 1 + R * t + x.1.toNat) (v := wayToR last R t x.2.1) (b' := b + 10000) (by omega) hv.1 (by omega) (cellR M (1 + R * t + x.1.toNat) (wayToR last R t x.2.1) + x.2.2) (by omega) (by omega) (by omega)
    have g := ways_built hl ht l _ _ _ hs fun y hy => hx y (by simp [hy])
    have e4 : b + 10000 * ((x :: l).length : Int) = b + 10000 + 10000 * (l.length : Int) := by simp; omega
    rw [e4]
    refine g.cast fun U => ?_
    simp only [capWaysR]
    rw [show cellR M (1 + R * t + x.1.toNat) (wayToR last R t x.2.1) + x.2.2 - cellR M (1 + R * t + x.1.toNat) (wayToR last R t x.2.1) = x.2.2 by omega]
    omega

def capTicksR (U : Nat → Bool) (R last : Nat) (ws : List Ev) : Nat → Nat → Int
  | _, 0 => 0
  | t, k + 1 => capWaysR U R last t ws + capTicksR U R last ws (t + 1) k

theorem ticks_built {R T last : Nat} {ws : List Ev} (hl : last = 1 + R * (T + 1)) (hw : ∀ x ∈ ws, 0 ≤ x.1 ∧ x.1 < R ∧ (x.2.1 = -1 ∨ 0 ≤ x.2.1 ∧ x.2.1 < R) ∧ x.1 ≠ x.2.1 ∧ 1 ≤ x.2.2 ∧ x.2.2 ≤ 10000) (hws : ws.length ≤ 16) : ∀ (k t : Nat) (b : Int) (M : List (List Int)) (c : (Nat → Bool) → Int),
    BuiltSq (last + 1) b c M → t + k = T → ∃ b', b' ≤ b + 160000 * k ∧ BuiltSq (last + 1) b' (fun U => c U + capTicksR U R last ws t k) (ticksRm R last ws t k M)
  | 0, t, b, M, c, h, _ => ⟨b, by omega, h.cast fun U => by simp [capTicksR]⟩
  | k + 1, t, b, M, c, h, ht => by
    have g := ways_built hl (t := t) (by omega) ws b M c h hw
    obtain ⟨b', h1, h2⟩ := ticks_built hl hw hws k (t + 1) _ _ _ g (by omega)
    refine ⟨b', by omega, h2.cast fun U => ?_⟩
    simp only [capTicksR]
    omega

theorem cell_zero (n u v : Nat) : cellR (zeroR n) u v = 0 := by
  unfold cellR zeroR
  rw [List.getElem?_replicate]
  split
  · simp only [Option.getD_some]
    rw [List.getElem?_replicate]
    split <;> rfl
  · simp

theorem zero_built (n : Nat) : BuiltSq n 60001 (fun _ => 0) (zeroR n) := by
  refine ⟨⟨by simp [zeroR], fun i r hr => ?_⟩, fun u v => by rw [cell_zero]; omega, fun u v => by rw [cell_zero]; omega, fun u => cell_zero n u u, fun U => ?_⟩
  · rw [List.eq_of_mem_replicate (List.mem_of_getElem? hr)]
    simp
  · exact sumN_zero n fun u _ => sumN_zero n fun v _ => by rw [cell_zero]; simp

def capRef (pp : List Int) (ws : List Ev) (T : Nat) (U : Nat → Bool) : Int := capPeopleR U pp.length T (sumL pp + 1) 0 pp + capTicksR U pp.length (1 + pp.length * (T + 1)) ws 0 T

theorem builtR_good {pp : List Int} {ws : List Ev} (ok : RoomsOk pp ws) (T : Nat) (hT : T ≤ 20) : RGood (1 + pp.length * (T + 1)) (capRef pp ws T) (builtR pp ws T) 0 := by
  obtain ⟨s0, s1⟩ := sumL_bound pp ok.people
  have hR6 := ok.few
  have hz := zero_built (1 + pp.length * (T + 1) + 1)
  have g1 := people_built (R := pp.length) (T := T) (last := 1 + pp.length * (T + 1)) (all := sumL pp + 1) (by omega) (by omega) rfl pp 0 _ _ hz (by omega) ok.people fun r' _ _ => ⟨cell_zero _ _ _, fun t' _ => cell_zero _ _ _⟩
  obtain ⟨b', h1, h2⟩ := ticks_built (R := pp.length) (T := T) rfl ok.ways ok.fewW T 0 _ _ _ g1 (by omega)
  refine ⟨⟨h2.sq, fun u v _ _ => h2.pos u v, fun u v _ _ _ => ?_⟩, fun U _ _ => ?_, Int.le_refl _⟩
  · have e1 := h2.le u v
    have e2 := h2.le v u
    show cellR (ticksRm pp.length (1 + pp.length * (T + 1)) ws 0 T _) u v + cellR (ticksRm pp.length (1 + pp.length * (T + 1)) ws 0 T _) v u ≤ _
    omega
  · have := h2.rest U
    unfold builtR
    rw [this]
    unfold capRef
    omega
end Go.Proofs.YtmcjnfghlpnghaaDoor

namespace Go.Proofs.YtmcjnfghlpnghaaDoor

def toCare (s : Nat) (U : Nat → Bool) (v : Nat) : Bool := if v = s then U 0 else if v = s + 1 then U (1 + s) else U (1 + v)
def toRef (s : Nat) (U : Nat → Bool) (v : Nat) : Bool := if v = 0 then U s else if v = 1 + s then U (s + 1) else U (v - 1)
theorem toCare_toRef (s : Nat) (U : Nat → Bool) : toCare s (toRef s U) = U := by
  funext v
  unfold toCare toRef
  by_cases h1 : v = s
  · rw [if_pos h1, if_pos rfl, h1]
  · rw [if_neg h1]
    by_cases h2 : v = s + 1
    · rw [if_pos h2, if_neg (by omega), if_pos rfl, h2]
    · rw [if_neg h2, if_neg (by omega), if_neg (by omega)]
      congr 1
      omega
theorem toCare_lt {s v : Nat} {U : Nat → Bool} (h : v < s) : toCare s U v = U (1 + v) := by
  unfold toCare
  rw [if_neg (by omega), if_neg (by omega)]
theorem toCare_s (s : Nat) (U : Nat → Bool) : toCare s U s = U 0 := by
  unfold toCare
  rw [if_pos rfl]
theorem toCare_o (s : Nat) (U : Nat → Bool) : toCare s U (s + 1) = U (1 + s) := by
  unfold toCare
  rw [if_neg (by omega), if_pos rfl]

theorem sumN_add (f g : Nat → Int) : ∀ n, sumN n (fun i => f i + g i) = sumN n f + sumN n g
  | 0 => rfl
  | n + 1 => by
    have := sumN_add f g n
    simp only [sumN, this]
    omega
theorem sumN_swap (f : Nat → Nat → Int) (b : Nat) : ∀ a, sumN a (fun i => sumN b (fun j => f i j)) = sumN b (fun j => sumN a (fun i => f i j))
  | 0 => by
    show (0 : Int) = sumN b fun _ => 0
    exact (sumN_zero b fun _ _ => rfl).symm
  | a + 1 => by
    have ih := sumN_swap f b a
    show sumN a (fun i => sumN b fun j => f i j) + sumN b (fun j => f a j) = sumN b fun j => sumN a (fun i => f i j) + f a j
    rw [ih, sumN_add]
theorem sumN_split (f : Nat → Int) : ∀ k, sumN (k + 1) f = f 0 + sumN k fun i => f (i + 1)
  | 0 => by simp [sumN]
  | k + 1 => by
    have ih := sumN_split f k
    simp only [sumN] at ih ⊢
    omega

theorem people_conv {U : Nat → Bool} {R T s : Nat} {all : Int} : ∀ (l : List Int) (r : Nat), r + l.length ≤ s → capPeopleR U R T all r l = capPeople (toCare s U) s r l + sumN l.length fun i => sumN T fun t => stayA U R all (r + i) t
  | [], r, _ => rfl
  | p :: l, r, h => by
    simp only [List.length_cons] at h
    have ih := people_conv (U := U) (R := R) (T := T) (s := s) (all := all) l (r + 1) (by omega)
    have e : (fun i => sumN T fun t => stayA U R all (r + (i + 1)) t) = fun i => sumN T fun t => stayA U R all (r + 1 + i) t := by
      funext i
      rw [show r + (i + 1) = r + 1 + i by omega]
    rw [List.length_cons, sumN_split, e]
    simp only [capPeopleR, capPeople, ih, toCare_s, toCare_lt (show r < s by omega), Nat.add_zero]
    omega

theorem stay_conv {U : Nat → Bool} {R t s : Nat} {all : Int} (h : R * t + R + R ≤ s) : ∀ (k r : Nat), r + k ≤ R → capStay (toCare s U) (t * R) ((t + 1) * R) all r k = sumN k fun i => stayA U R all (r + i) t
  | 0, _, _ => rfl
  | k + 1, r, hr => by
    have e1 : t * R = R * t := Nat.mul_comm t R
    have e2 : (t + 1) * R = R * (t + 1) := Nat.mul_comm (t + 1) R
    have e3 : R * (t + 1) = R * t + R := by rw [Nat.mul_add, Nat.mul_one]
    have ih := stay_conv (U := U) (all := all) h k (r + 1) (by omega)
    have e : (fun i => stayA U R all (r + (i + 1)) t) = fun i => stayA U R all (r + 1 + i) t := by
      funext i
      rw [show r + (i + 1) = r + 1 + i by omega]
    have f1 : toCare s U (t * R + r) = U (1 + R * t + r) := by rw [toCare_lt (show t * R + r < s by omega), e1, Nat.add_assoc 1]
    have f2 : toCare s U ((t + 1) * R + r) = U (1 + R * (t + 1) + r) := by rw [toCare_lt (show (t + 1) * R + r < s by omega), e2, Nat.add_assoc 1]
    rw [sumN_split, e, ← ih]
    simp only [capStay, stayA, Nat.add_zero, f1, f2]

theorem ways_conv {U : Nat → Bool} {R t s : Nat} (h : R * t + R + R ≤ s) : ∀ (l : List Ev), (∀ x ∈ l, 0 ≤ x.1 ∧ x.1 < R ∧ (x.2.1 = -1 ∨ 0 ≤ x.2.1 ∧ x.2.1 < R)) → capWays (toCare s U) (s + 1) (t * R) ((t + 1) * R) l = capWaysR U R (1 + s) t l
  | [], _ => rfl
  | x :: l, hx => by
    obtain ⟨x1, x2, x3⟩ := hx x (by simp)
    have e1 : t * R = R * t := Nat.mul_comm t R
    have e2 : (t + 1) * R = R * (t + 1) := Nat.mul_comm (t + 1) R
    have e3 : R * (t + 1) = R * t + R := by rw [Nat.mul_add, Nat.mul_one]
    have ih := ways_conv (U := U) h l fun y hy => hx y (by simp [hy])
    have e4 : toCare s U (wayTo (s + 1) ((t + 1) * R) x.2.1) = U (wayToR (1 + s) R t x.2.1) := by
      unfold wayTo wayToR
      by_cases ht : x.2.1 = -1
      · rw [if_pos ht, if_pos ht, toCare_o]
      · rw [if_neg ht, if_neg ht, toCare_lt (by omega), e2, Nat.add_assoc 1]
    have f1 : toCare s U (t * R + x.1.toNat) = U (1 + R * t + x.1.toNat) := by rw [toCare_lt (show t * R + x.1.toNat < s by omega), e1, Nat.add_assoc 1]
    simp only [capWays, capWaysR, ih, e4, f1]

theorem ticks_conv {U : Nat → Bool} {R T s : Nat} {all : Int} {ws : List Ev} (hs : s = R * (T + 1)) (hw : ∀ x ∈ ws, 0 ≤ x.1 ∧ x.1 < R ∧ (x.2.1 = -1 ∨ 0 ≤ x.2.1 ∧ x.2.1 < R)) : ∀ (k t : Nat), t + k = T →
    capTicks (toCare s U) R all ws (s + 1) t k = (sumN k fun j => sumN R fun i => stayA U R all i (t + j)) + capTicksR U R (1 + s) ws t k
  | 0, _, _ => rfl
  | k + 1, t, ht => by
    have e2 : R * (t + 1) ≤ R * T := Nat.mul_le_mul_left R (by omega)
    have e3 : R * (T + 1) = R * T + R := by rw [Nat.mul_add, Nat.mul_one]
    have e4 : R * (t + 1) = R * t + R := by rw [Nat.mul_add, Nat.mul_one]
    have ih := ticks_conv (U := U) (all := all) hs hw k (t + 1) (by omega)
    have e : (fun j => sumN R fun i => stayA U R all i (t + (j + 1))) = fun j => sumN R fun i => stayA U R all i (t + 1 + j) := by
      funext j
      rw [show t + (j + 1) = t + 1 + j by omega]
    have h1 := stay_conv (U := U) (all := all) (t := t) (s := s) (R := R) (by omega) R 0 (by omega)
    have h2 := ways_conv (U := U) (t := t) (s := s) (R := R) (by omega) ws hw
    simp only [Nat.zero_add] at h1
    rw [sumN_split, e]
    simp only [capTicks, capTicksR, ih, h1, h2, Nat.add_zero]
    omega

/-- the cut as the reference sees it -/
def capP (pp : List Int) (ws : List Ev) (T : Nat) (U : Nat → Bool) : Int :=
  capPeople U (pp.length * (T + 1)) 0 pp + capTicks U pp.length (sumL pp + 1) ws (pp.length * (T + 1) + 1) 0 T

theorem capRef_conv {pp : List Int} {ws : List Ev} (ok : RoomsOk pp ws) (T : Nat) (U : Nat → Bool) : capRef pp ws T U = capP pp ws T (toCare (pp.length * (T + 1)) U) := by
  unfold capRef capP
  have h1 : pp.length ≤ pp.length * (T + 1) := Nat.le_mul_of_pos_right _ (by omega)
  rw [people_conv (s := pp.length * (T + 1)) pp 0 (by omega), ticks_conv (U := U) (all := sumL pp + 1) rfl (fun x hx => by have := ok.ways x hx; exact ⟨this.1, this.2.1, this.2.2.1⟩) T 0 (by omega)]
  simp only [Nat.zero_add]
  rw [sumN_swap (fun i t => stayA U pp.length (sumL pp + 1) i t) T pp.length]
  omega

theorem stay_cases {U : Nat → Bool} {here next : Nat} : ∀ (k r : Nat), (∀ a : Int, capStay U here next a r k = 0) ∨ (∀ a : Int, 0 ≤ a → a ≤ capStay U here next a r k)
  | 0, _ => .inl fun _ => rfl
  | k + 1, r => by
    have hn : ∀ (k r : Nat) (a : Int), 0 ≤ a → 0 ≤ capStay U here next a r k := by
      intro k
      induction k with
      | zero => intro r a _; exact Int.le_refl _
      | succ k ih =>
        intro r a ha
        have := ih (r + 1) a ha
        simp only [capStay]
        split <;> omega
    by_cases hc : (U (here + r) && !U (next + r)) = true
    · right
      intro a ha
      have := hn k (r + 1) a ha
      simp only [capStay, if_pos hc]
      omega
    · rcases stay_cases (U := U) (here := here) (next := next) k (r + 1) with h | h
      · left
        intro a
        simp only [capStay, if_neg hc, h a]
        rfl
      · right
        intro a ha
        have := h a ha
        simp only [capStay, if_neg hc]
        omega

theorem ways_nonneg {U : Nat → Bool} {o here next : Nat} : ∀ (l : List Ev), (∀ x ∈ l, 1 ≤ x.2.2) → 0 ≤ capWays U o here next l
  | [], _ => Int.le_refl _
  | x :: l, h => by
    have ih := ways_nonneg (U := U) (o := o) (here := here) (next := next) l fun y hy => h y (by simp [hy])
    have := h x (by simp)
    simp only [capWays]
    split <;> omega

theorem ticks_cases {U : Nat → Bool} {R o : Nat} {ws : List Ev} (hw : ∀ x ∈ ws, 1 ≤ x.2.2) : ∀ (k t : Nat), (∀ a b : Int, capTicks U R a ws o t k = capTicks U R b ws o t k) ∧ (∀ a : Int, 0 ≤ capTicks U R a ws o t k) ∨
    (∀ a : Int, 0 ≤ a → a ≤ capTicks U R a ws o t k)
  | 0, _ => .inl ⟨fun _ _ => rfl, fun _ => Int.le_refl _⟩
  | k + 1, t => by
    have hwn := ways_nonneg (U := U) (o := o) (here := t * R) (next := (t + 1) * R) ws hw
    have hn : ∀ (k r here next : Nat) (a : Int), 0 ≤ a → 0 ≤ capStay U here next a r k := by
      intro k
      induction k with
      | zero => intro r _ _ a _; exact Int.le_refl _
      | succ k ih =>
        intro r here next a ha
        have := ih (r + 1) here next a ha
        simp only [capStay]
        split <;> omega
    have hnt : ∀ (k t : Nat) (a : Int), 0 ≤ a → 0 ≤ capTicks U R a ws o t k := by
      intro k
      induction k with
      | zero => intro t a _; exact Int.le_refl _
      | succ k ih =>
        intro t a ha
        have h1 := ih (t + 1) a ha
        have h2 := hn R 0 (t * R) ((t + 1) * R) a ha
        have h3 := ways_nonneg (U := U) (o := o) (here := t * R) (next := (t + 1) * R) ws hw
        simp only [capTicks]
        omega
    rcases stay_cases (U := U) (here := t * R) (next := (t + 1) * R) R 0 with h | h
    · rcases ticks_cases (U := U) (R := R) (o := o) hw k (t + 1) with ⟨h1, h2⟩ | h1
      · left
        refine ⟨fun a b => ?_, fun a => ?_⟩
        · simp only [capTicks, h a, h b, h1 a b]
        · have := h2 a
          simp only [capTicks, h a]
          omega
      · right
        intro a ha
        have := h1 a ha
        simp only [capTicks, h a]
        omega
    · right
      intro a ha
      have h1 := h a ha
      have h2 := hnt k (t + 1) a ha
      simp only [capTicks]
      omega

theorem capPeople_nonneg {U : Nat → Bool} {s : Nat} : ∀ (l : List Int) (r : Nat), (∀ x ∈ l, 0 ≤ x ∧ x ≤ 10000) → 0 ≤ capPeople U s r l
  | [], _, _ => Int.le_refl _
  | x :: l, r, h => by
    have ih := capPeople_nonneg (U := U) (s := s) l (r + 1) fun y hy => h y (by simp [hy])
    have := h x (by simp)
    simp only [capPeople]
    split <;> omega

/-- **Both flows are as great.** -/
theorem same_flow {pp : List Int} {ws : List Ev} (ok : RoomsOk pp ws) (T : Nat) (hT : T ≤ 20) : ∃ F, runM 60001 129 (builtM pp ws T) = some F ∧ runR (1 + pp.length * (T + 1)) 60001 200 (builtR pp ws T) 0 = some F.o := by
  obtain ⟨F, r, a1, a2, a3, a4, a5, a6, a7, a8, a9, a10, a11, a12, a13⟩ := flow_total ok T hT
  have hR6 := ok.few
  have hS : pp.length * (T + 1) ≤ 126 := Nat.le_trans (Nat.mul_le_mul hR6 (by omega : T + 1 ≤ 21)) (by omega)
  have hS1 : pp.length ≤ pp.length * (T + 1) := Nat.le_mul_of_pos_right _ (by omega)
  obtain ⟨s0, s1⟩ := sumL_bound pp ok.people
  have hw1 : ∀ x ∈ ws, 1 ≤ x.2.2 := fun x hx => (ok.ways x hx).2.2.2.2.1
  have hw2 : ∀ x ∈ ws, 0 ≤ x.1 ∧ x.1 < (pp.length : Int) := fun x hx => ⟨(ok.ways x hx).1, (ok.ways x hx).2.1⟩
  have hsrc : capRef pp ws T (toRef (pp.length * (T + 1)) fun v => v == pp.length * (T + 1)) = sumL pp := by
    rw [capRef_conv ok, toCare_toRef]
    unfold capP
    rw [capPeople_src pp 0 (by omega), capTicks_none (S := pp.length * (T + 1)) (fun v hv => by simp; omega) hw2 T 0 (by
      rw [Nat.zero_add, Nat.mul_add, Nat.mul_comm T]
      omega)]
    omega
  have t0 : ∀ U : Nat → Bool, toRef (pp.length * (T + 1)) U 0 = U (pp.length * (T + 1)) := fun U => by unfold toRef; rw [if_pos rfl]
  have t1 : ∀ U : Nat → Bool, toRef (pp.length * (T + 1)) U (1 + pp.length * (T + 1)) = U (pp.length * (T + 1) + 1) := fun U => by unfold toRef; rw [if_neg (by omega), if_pos rfl]
  obtain ⟨o, b1, b2, U2, b3, b4, b5⟩ := runR_spec (last := 1 + pp.length * (T + 1)) (by omega) ⟨toRef (pp.length * (T + 1)) fun v => v == pp.length * (T + 1), by rw [t0]; simp, by rw [t1]; simp, by rw [hsrc]; omega⟩ 200 (by omega) 60001 (builtR pp ws T) 0 (builtR_good ok T hT) (by omega)
  refine ⟨F, a1, ?_⟩
  rw [b1]
  congr 1
  -- the code's cut
  have u1 : rchB F.src r (pp.length * (T + 1)) = true := by rw [← a3]; exact rchB_iff.2 (.inl rfl)
  have u2 : rchB F.src r (pp.length * (T + 1) + 1) = false := by
    rw [← a4]
    cases hb : rchB F.src r F.outn with
    | false => rfl
    | true => exact absurd (rchB_iff.1 hb) (not_rch a10 (Ne.symm a2.ne))
  have h1 := b2 (toRef (pp.length * (T + 1)) (rchB F.src r)) (by rw [t0]; exact u1) (by rw [t1]; exact u2)
  rw [capRef_conv ok, toCare_toRef] at h1
  have h2 := a2.le (toCare (pp.length * (T + 1)) U2) (by rw [a3, toCare_s]; exact b3) (by rw [a4, toCare_o]; exact b4)
  rw [capRef_conv ok] at b5
  have h3 := b2 (toRef (pp.length * (T + 1)) fun v => v == pp.length * (T + 1)) (by rw [t0]; simp) (by rw [t1]; simp)
  rw [hsrc] at h3
  have mono : ∀ U : Nat → Bool, capM pp ws T U ≤ capP pp ws T U := by
    intro U
    unfold capM capP
    rcases ticks_cases (U := U) (R := pp.length) (o := pp.length * (T + 1) + 1) hw1 T 0 with ⟨h, _⟩ | _
    · rw [h (sumL pp) (sumL pp + 1)]
      exact Int.le_refl _
    · have hm : ∀ (k r here next : Nat), capStay U here next (sumL pp) r k ≤ capStay U here next (sumL pp + 1) r k := by
        intro k
        induction k with
        | zero => intro r _ _; exact Int.le_refl _
        | succ k ih =>
          intro r here next
          have := ih (r + 1) here next
          simp only [capStay]
          split <;> omega
      have hmt : ∀ (k t : Nat), capTicks U pp.length (sumL pp) ws (pp.length * (T + 1) + 1) t k ≤ capTicks U pp.length (sumL pp + 1) ws (pp.length * (T + 1) + 1) t k := by
        intro k
        induction k with
        | zero => intro t; exact Int.le_refl _
        | succ k ih =>
          intro t
          have h1 := ih (t + 1)
          have h2 := hm pp.length 0 (t * pp.length) ((t + 1) * pp.length)
          simp only [capTicks]
          omega
      have := hmt T 0
      omega
  have h4 := mono (toCare (pp.length * (T + 1)) U2)
  have h5 : o ≤ F.o := by
    rcases ticks_cases (U := rchB F.src r) (R := pp.length) (o := pp.length * (T + 1) + 1) hw1 T 0 with ⟨h, _⟩ | h
    · rw [a13]
      unfold capM
      unfold capP at h1
      rw [h (sumL pp) (sumL pp + 1)]
      exact h1
    · have h6 := h (sumL pp) s0
      have h7 := capPeople_nonneg (U := rchB F.src r) (s := pp.length * (T + 1)) pp 0 ok.people
      rw [a13]
      unfold capM
      omega
  omega
end Go.Proofs.YtmcjnfghlpnghaaDoor

namespace Go.Proofs.YtmcjnfghlpnghaaDoor

/-- the time of a room -/
def tmAt (tm : List Int) (i : Nat) : Int := tm[i]?.getD 0
def bdPeople (tm : List Int) : Nat → List Int → Int
  | _, [] => 0
  | r, n :: l => (if 0 < tmAt tm r then n else 0) + bdPeople tm (r + 1) l
def crossB (tm : List Int) (x : Ev) (t : Nat) : Bool := decide (tmAt tm x.1.toNat ≤ (t : Int)) && (x.2.1 == -1 || decide ((t : Int) + 1 < tmAt tm x.2.1.toNat))
def bdTick (tm : List Int) (t : Nat) : List Ev → Int
  | [] => 0
  | x :: l => (if crossB tm x t = true then x.2.2 else 0) + bdTick tm t l
def bdTicks (tm : List Int) (ws : List Ev) : Nat → Nat → Int
  | _, 0 => 0
  | t, k + 1 => bdTick tm t ws + bdTicks tm ws (t + 1) k
def bdWay (tm : List Int) (x : Ev) : Nat → Nat → Int
  | _, 0 => 0
  | t, k + 1 => (if crossB tm x t = true then x.2.2 else 0) + bdWay tm x (t + 1) k
def bdWays (tm : List Int) (T : Nat) : List Ev → Int
  | [] => 0
  | x :: l => bdWay tm x 0 T + bdWays tm T l
/-- the bound of a cut -/
def boundM (pp : List Int) (ws : List Ev) (tm : List Int) (T : Nat) : Int := bdPeople tm 0 pp + bdTicks tm ws 0 T

theorem bd_swap {tm : List Int} {x : Ev} {l : List Ev} : ∀ (k t : Nat), bdTicks tm (x :: l) t k = bdWay tm x t k + bdTicks tm l t k
  | 0, _ => by simp [bdTicks, bdWay]
  | k + 1, t => by
    have ih := bd_swap (tm := tm) (x := x) (l := l) k (t + 1)
    simp only [bdTicks, bdWay, bdTick, ih]
    omega
theorem bdTicks_nil {tm : List Int} : ∀ (k t : Nat), bdTicks tm [] t k = 0
  | 0, _ => rfl
  | k + 1, t => by simp [bdTicks, bdTick, bdTicks_nil k (t + 1)]
theorem bdWays_eq {tm : List Int} {T : Nat} : ∀ l : List Ev, bdWays tm T l = bdTicks tm l 0 T
  | [] => (bdTicks_nil T 0).symm
  | x :: l => by rw [bdWays, bd_swap, bdWays_eq l]

/-! ### the bound is what may pass -/
def cutU (tm : List Int) (R s v : Nat) : Bool := v == s || (decide (v < s) && decide (tmAt tm (v % R) ≤ ((v / R : Nat) : Int)))
theorem cutU_at {tm : List Int} {R s t i : Nat} (hR : i < R) (h : t * R + i < s) : cutU tm R s (t * R + i) = decide (tmAt tm i ≤ (t : Int)) := by
  have hd : (t * R + i) / R = t := by rw [Nat.add_comm, Nat.add_mul_div_right _ _ (by omega), Nat.div_eq_of_lt hR, Nat.zero_add]
  have hm : (t * R + i) % R = i := by rw [Nat.add_comm, Nat.add_mul_mod_self_right, Nat.mod_eq_of_lt hR]
  have h1 : (t * R + i == s) = false := beq_eq_false_iff_ne.2 (by omega)
  unfold cutU
  rw [hd, hm, h1, decide_eq_true h]
  simp
theorem cutU_s {tm : List Int} {R s : Nat} : cutU tm R s s = true := by simp [cutU]
theorem cutU_o {tm : List Int} {R s : Nat} : cutU tm R s (s + 1) = false := by
  have h1 : (s + 1 == s) = false := beq_eq_false_iff_ne.2 (by omega)
  have h2 : decide (s + 1 < s) = false := decide_eq_false (by omega)
  unfold cutU
  rw [h1, h2]
  rfl

theorem capPeople_cut {tm : List Int} {R s : Nat} (hs : R ≤ s) : ∀ (l : List Int) (r : Nat), r + l.length ≤ R → capPeople (cutU tm R s) s r l = bdPeople tm r l
  | [], _, _ => rfl
  | n :: l, r, h => by
    simp only [List.length_cons] at h
    have ih := capPeople_cut (tm := tm) hs l (r + 1) (by omega)
    have e : cutU tm R s r = decide (tmAt tm r ≤ 0) := by
      have := cutU_at (tm := tm) (t := 0) (i := r) (R := R) (s := s) (by omega) (by omega)
      simpa using this
    simp only [capPeople, bdPeople, ih, e, cutU_s, Bool.true_and]
    by_cases h0 : 0 < tmAt tm r
    · rw [if_pos h0, if_pos (by simp; omega)]
    · rw [if_neg h0, if_neg (by simp; omega)]
theorem capStay_cut {tm : List Int} {R s t : Nat} {all : Int} (h : (t + 1) * R + R ≤ s) : ∀ (k r : Nat), r + k ≤ R → capStay (cutU tm R s) (t * R) ((t + 1) * R) all r k = 0
  | 0, _, _ => rfl
  | k + 1, r, hr => by
    have ih := capStay_cut (tm := tm) (all := all) h k (r + 1) (by omega)
    have e3 : (t + 1) * R = t * R + R := by rw [Nat.add_mul, Nat.one_mul]
    have e1 := cutU_at (tm := tm) (t := t) (i := r) (R := R) (s := s) (by omega) (by omega)
    have e2 := cutU_at (tm := tm) (t := t + 1) (i := r) (R := R) (s := s) (by omega) (by omega)
    simp only [capStay, ih, e1, e2]
    rw [if_neg (by simp; omega)]
    rfl
theorem cross_cut {tm : List Int} {R s t : Nat} {x : Ev} (h : (t + 1) * R + R ≤ s) (hx : 0 ≤ x.1 ∧ x.1 < R ∧ (x.2.1 = -1 ∨ 0 ≤ x.2.1 ∧ x.2.1 < R)) :
    (cutU tm R s (t * R + x.1.toNat) && !cutU tm R s (wayTo (s + 1) ((t + 1) * R) x.2.1)) = crossB tm x t := by
  obtain ⟨x1, x2, x3⟩ := hx
  have e3 : (t + 1) * R = t * R + R := by rw [Nat.add_mul, Nat.one_mul]
  have e1 := cutU_at (tm := tm) (t := t) (i := x.1.toNat) (R := R) (s := s) (by omega) (by omega)
  unfold crossB wayTo
  rw [e1]
  by_cases ht : x.2.1 = -1
  · rw [if_pos ht, cutU_o]
    simp [ht]
  · have e2 := cutU_at (tm := tm) (t := t + 1) (i := x.2.1.toNat) (R := R) (s := s) (by omega) (by omega)
    have h1 : (x.2.1 == -1) = false := beq_eq_false_iff_ne.2 ht
    rw [if_neg ht, e2, h1, Bool.false_or]
    congr 1
    rw [Bool.eq_iff_iff]
    simp
theorem capWays_cut {tm : List Int} {R s t : Nat} (h : (t + 1) * R + R ≤ s) : ∀ (l : List Ev), (∀ x ∈ l, 0 ≤ x.1 ∧ x.1 < R ∧ (x.2.1 = -1 ∨ 0 ≤ x.2.1 ∧ x.2.1 < R)) → capWays (cutU tm R s) (s + 1) (t * R) ((t + 1) * R) l = bdTick tm t l
  | [], _ => rfl
  | x :: l, hx => by
    have ih := capWays_cut (tm := tm) h l fun y hy => hx y (by simp [hy])
    simp only [capWays, bdTick, ih, cross_cut h (hx x (by simp))]
theorem capTicks_cut {tm : List Int} {R s : Nat} {all : Int} {ws : List Ev} (hw : ∀ x ∈ ws, 0 ≤ x.1 ∧ x.1 < R ∧ (x.2.1 = -1 ∨ 0 ≤ x.2.1 ∧ x.2.1 < R)) : ∀ (k t : Nat), (t + k) * R + R ≤ s → capTicks (cutU tm R s) R all ws (s + 1) t k = bdTicks tm ws t k
  | 0, _, _ => rfl
  | k + 1, t, h => by
    have e0 : (t + 1 + k) * R = (t + (k + 1)) * R := by rw [show t + 1 + k = t + (k + 1) by omega]
    have e1 : (t + 1) * R ≤ (t + (k + 1)) * R := Nat.mul_le_mul_right R (by omega)
    have ih := capTicks_cut (tm := tm) (all := all) (s := s) hw k (t + 1) (by rw [e0]; exact h)
    simp only [capTicks, bdTicks, ih, capStay_cut (tm := tm) (all := all) (t := t) (show (t + 1) * R + R ≤ s by omega) R 0 (by omega), capWays_cut (tm := tm) (t := t) (show (t + 1) * R + R ≤ s by omega) ws hw]
    omega
theorem RoomsOk.way {pp : List Int} {ws : List Ev} (ok : RoomsOk pp ws) : ∀ x ∈ ws, 0 ≤ x.1 ∧ x.1 < pp.length ∧ (x.2.1 = -1 ∨ 0 ≤ x.2.1 ∧ x.2.1 < pp.length) := fun x hx => by
  have := ok.ways x hx
  exact ⟨this.1, this.2.1, this.2.2.1⟩
theorem bound_cap {pp : List Int} {ws : List Ev} (ok : RoomsOk pp ws) (T : Nat) (tm : List Int) : capM pp ws T (cutU tm pp.length (pp.length * (T + 1))) = boundM pp ws tm T := by
  have h1 : pp.length ≤ pp.length * (T + 1) := Nat.le_mul_of_pos_right _ (by omega)
  unfold capM boundM
  rw [capPeople_cut h1 pp 0 (by omega), capTicks_cut ok.way T 0 (by
    rw [Nat.zero_add, Nat.mul_add, Nat.mul_comm T]
    omega)]

/-! ### the best cut -/
def cutAt (r : List Int) (R i : Nat) : Nat → Nat → Nat
  | t, 0 => t
  | t, k + 1 => if r[t * R + i]?.getD 0 < 0 then cutAt r R i (t + 1) k else t
theorem cutAt_spec {r : List Int} {R i : Nat} : ∀ (k t : Nat), t ≤ cutAt r R i t k ∧ cutAt r R i t k ≤ t + k ∧ (∀ j, t ≤ j → j < cutAt r R i t k → r[j * R + i]?.getD 0 < 0) ∧ (cutAt r R i t k < t + k → ¬ r[cutAt r R i t k * R + i]?.getD 0 < 0)
  | 0, t => by
    simp only [cutAt]
    exact ⟨Nat.le_refl _, Nat.le_refl _, fun j h1 h2 => by omega, fun h => by omega⟩
  | k + 1, t => by
    obtain ⟨i1, i2, i3, i4⟩ := cutAt_spec (r := r) (R := R) (i := i) k (t + 1)
    unfold cutAt
    by_cases h : r[t * R + i]?.getD 0 < 0
    · rw [if_pos h]
      refine ⟨by omega, by omega, fun j h1 h2 => ?_, fun h2 => i4 (by omega)⟩
      rcases Nat.lt_or_ge t j with h3 | h3
      · exact i3 j h3 h2
      · obtain rfl : j = t := by omega
        exact h
    · rw [if_neg h]
      exact ⟨Nat.le_refl _, by omega, fun j h1 h2 => by omega, fun _ => h⟩
def cutM (R T : Nat) (r : List Int) : List Int := (List.range R).map fun i => ((cutAt r R i 0 T : Nat) : Int)
theorem cutM_len (R T : Nat) (r : List Int) : (cutM R T r).length = R := by simp [cutM]
theorem cutM_at {R T i : Nat} {r : List Int} (hi : i < R) : tmAt (cutM R T r) i = ((cutAt r R i 0 T : Nat) : Int) := by
  simp [tmAt, cutM, hi]
theorem cutM_in {R T : Nat} {r : List Int} : ∀ x ∈ cutM R T r, 0 ≤ x ∧ x ≤ T := by
  intro x hx
  simp only [cutM, List.mem_map, List.mem_range] at hx
  obtain ⟨i, _, rfl⟩ := hx
  have := (cutAt_spec (r := r) (R := R) (i := i) T 0).2.1
  omega

theorem rch_neg {s v : Nat} {r : List Int} (hv : v ≠ s) (h : r[v]?.getD 0 < 0) : rchB s r v = false := by
  cases hb : rchB s r v with
  | false => rfl
  | true => exact absurd (rchB_iff.1 hb) (not_rch h hv)
theorem rch_pos {s v : Nat} {r : List Int} (hl : v < r.length) (h : ¬ r[v]?.getD 0 < 0) : rchB s r v = true :=
  rchB_iff.2 (.inr ⟨r[v], by rw [List.getElem?_eq_getElem hl], by
    rw [List.getElem?_eq_getElem hl, Option.getD_some] at h
    omega⟩)

theorem restU_all {U : Nat → Bool} : ∀ (l : List Arc), (∀ (i : Nat) (a : Arc), l[i]? = some a → 0 ≤ a.lf) → restU U l ≤ 0 → ∀ (i : Nat) (a : Arc), l[i]? = some a → U a.fr = true → U a.to = false → a.lf ≤ 0
  | [], _, _, i, a, h, _, _ => by simp at h
  | b :: l, hp, h0, i, a, h, h1, h2 => by
    have hn := restU_nonneg U l fun j c hc => hp (j + 1) c (by simpa using hc)
    have hb := hp 0 b (by simp)
    simp only [restU, crossing] at h0
    cases i with
    | zero =>
      obtain rfl : b = a := by simpa using h
      rw [h1, h2] at h0
      simp at h0
      omega
    | succ i =>
      refine restU_all l (fun j c hc => hp (j + 1) c (by simpa using hc)) ?_ i a (by simpa using h) h1 h2
      split at h0 <;> omega

theorem capStay_nonneg {U : Nat → Bool} {here next : Nat} {all : Int} (ha : 0 ≤ all) : ∀ (k r : Nat), 0 ≤ capStay U here next all r k
  | 0, _ => Int.le_refl _
  | k + 1, r => by
    have ih := capStay_nonneg (U := U) (here := here) (next := next) ha k (r + 1)
    simp only [capStay]
    split <;> omega
theorem capTicks_nonneg {U : Nat → Bool} {R o : Nat} {all : Int} {ws : List Ev} (ha : 0 ≤ all) (hw : ∀ x ∈ ws, 1 ≤ x.2.2) : ∀ (k t : Nat), 0 ≤ capTicks U R all ws o t k
  | 0, _ => Int.le_refl _
  | k + 1, t => by
    have ih := capTicks_nonneg (U := U) (R := R) (o := o) ha hw k (t + 1)
    have h1 := capStay_nonneg (U := U) (here := t * R) (next := (t + 1) * R) ha R 0
    have h2 := ways_nonneg (U := U) (o := o) (here := t * R) (next := (t + 1) * R) ws hw
    simp only [capTicks]
    omega
theorem capStay_ge {U : Nat → Bool} {here next i : Nat} {all : Int} (ha : 0 ≤ all) (h1 : U (here + i) = true) (h2 : U (next + i) = false) : ∀ (k r : Nat), r ≤ i → i < r + k → all ≤ capStay U here next all r k
  | 0, r, h3, h4 => by omega
  | k + 1, r, h3, h4 => by
    simp only [capStay]
    rcases Nat.lt_or_ge r i with h | h
    · have ih := capStay_ge ha h1 h2 k (r + 1) h (by omega)
      split <;> omega
    · obtain rfl : r = i := by omega
      have := capStay_nonneg (U := U) (here := here) (next := next) ha k (r + 1)
      rw [h1, h2]
      simp
      omega
theorem capTicks_ge {U : Nat → Bool} {R o t i : Nat} {all : Int} {ws : List Ev} (ha : 0 ≤ all) (hw : ∀ x ∈ ws, 1 ≤ x.2.2) (hi : i < R) (h1 : U (t * R + i) = true) (h2 : U ((t + 1) * R + i) = false) : ∀ (k t0 : Nat), t0 ≤ t → t < t0 + k → all ≤ capTicks U R all ws o t0 k
  | 0, t0, h3, h4 => by omega
  | k + 1, t0, h3, h4 => by
    have g1 := capStay_nonneg (U := U) (here := t0 * R) (next := (t0 + 1) * R) ha R 0
    have g2 := ways_nonneg (U := U) (o := o) (here := t0 * R) (next := (t0 + 1) * R) ws hw
    have g3 := capTicks_nonneg (U := U) (R := R) (o := o) ha hw k (t0 + 1)
    simp only [capTicks]
    rcases Nat.lt_or_ge t0 t with h | h
    · have ih := capTicks_ge (o := o) ha hw hi h1 h2 k (t0 + 1) h (by omega)
      omega
    · obtain rfl : t0 = t := by omega
      have := capStay_ge ha h1 h2 R 0 (Nat.zero_le _) (by omega)
      omega

/-- what is reached by nothing but the source -/
theorem rch_src {F : Fl} {r : List Int} {rk : Nat → Nat} {N : Nat} (h : BfsInv F r [] rk N) (h0 : ∀ (i : Nat) (a : Arc), F.arcs[i]? = some a → a.fr = F.src → a.to ≠ F.src → a.lf ≤ 0) : ∀ (n v : Nat), rk v < n → Rch F.src r v → v = F.src
  | 0, v, hn, _ => by omega
  | n + 1, v, hn, hv => by
    rcases hv with hv | ⟨k, hk, hk0⟩
    · exact hv
    · obtain ⟨_, a, ha, hto, hlf, hfr, hrk⟩ := h.tree v k hk hk0
      have := rch_src h h0 n a.fr (by omega) hfr
      by_cases hs : v = F.src
      · exact hs
      · have := h0 _ a ha this (by rw [hto]; exact hs)
        omega

theorem bdPeople_le {tm : List Int} {U : Nat → Bool} {s : Nat} (hs : U s = true) : ∀ (l : List Int) (r : Nat), (∀ x ∈ l, 0 ≤ x ∧ x ≤ 10000) → (∀ i, r ≤ i → i < r + l.length → 0 < tmAt tm i → U i = false) → bdPeople tm r l ≤ capPeople U s r l
  | [], _, _, _ => Int.le_refl _
  | n :: l, r, hx, h => by
    have ih := bdPeople_le (tm := tm) hs l (r + 1) (fun y hy => hx y (by simp [hy])) fun i h1 h2 h3 => h i (by omega) (by simp only [List.length_cons]; omega) h3
    have hn := hx n (by simp)
    simp only [bdPeople, capPeople]
    by_cases h0 : 0 < tmAt tm r
    · have := h r (Nat.le_refl _) (by simp only [List.length_cons]; omega) h0
      rw [if_pos h0, hs, this]
      simp
      omega
    · rw [if_neg h0]
      split <;> omega
theorem bdTick_le {tm : List Int} {U : Nat → Bool} {o here next t : Nat} : ∀ (l : List Ev), (∀ x ∈ l, 1 ≤ x.2.2) → (∀ x ∈ l, crossB tm x t = true → U (here + x.1.toNat) = true ∧ U (wayTo o next x.2.1) = false) → bdTick tm t l ≤ capWays U o here next l
  | [], _, _ => Int.le_refl _
  | x :: l, hx, h => by
    have ih := bdTick_le (tm := tm) (U := U) (o := o) (here := here) (next := next) (t := t) l (fun y hy => hx y (by simp [hy])) fun y hy => h y (by simp [hy])
    have hn := hx x (by simp)
    simp only [bdTick, capWays]
    by_cases h0 : crossB tm x t = true
    · obtain ⟨h1, h2⟩ := h x (by simp) h0
      rw [if_pos h0, h1, h2]
      simp
      omega
    · rw [if_neg h0]
      split <;> omega
theorem bdTicks_le {tm : List Int} {U : Nat → Bool} {R o : Nat} {all : Int} {ws : List Ev} (ha : 0 ≤ all) (hw : ∀ x ∈ ws, 1 ≤ x.2.2) : ∀ (k t : Nat), (∀ j, t ≤ j → j < t + k → ∀ x ∈ ws, crossB tm x j = true → U (j * R + x.1.toNat) = true ∧ U (wayTo o ((j + 1) * R) x.2.1) = false) → bdTicks tm ws t k ≤ capTicks U R all ws o t k
  | 0, _, _ => Int.le_refl _
  | k + 1, t, h => by
    have ih := bdTicks_le (tm := tm) (U := U) (R := R) (o := o) ha hw k (t + 1) fun j h1 h2 => h j (by omega) (by omega)
    have h1 := bdTick_le (tm := tm) (U := U) (o := o) (here := t * R) (next := (t + 1) * R) (t := t) ws hw (h t (Nat.le_refl _) (by omega))
    have h2 := capStay_nonneg (U := U) (here := t * R) (next := (t + 1) * R) ha R 0
    simp only [bdTicks, capTicks]
    omega

/-- the flow that the code ends with, and the nodes that it reaches then -/
structure FlEnd (pp : List Int) (ws : List Ev) (T : Nat) (F : Fl) (r : List Int) : Prop where
  run : runM 60001 129 (builtM pp ws T) = some F
  good : FlGood (capM pp ws T) F
  src : F.src = pp.length * (T + 1)
  outn : F.outn = pp.length * (T + 1) + 1
  adjN : F.adj.length = pp.length * (T + 1) + 2
  rooms : F.rooms = pp.length
  ticks : F.ticks = T
  bfs : bfsM F 129 (List.replicate F.adj.length (-1)) [F.src] = some r
  len : r.length = pp.length * (T + 1) + 2
  best : F.o = boundM pp ws (cutM pp.length T r) T
  all : ∀ tm : List Int, F.o ≤ boundM pp ws tm T
  nonneg : 0 ≤ F.o
  sum : F.o ≤ sumL pp

/-- **The best cut has just the bound that people are out.** -/
theorem cut_best {pp : List Int} {ws : List Ev} (ok : RoomsOk pp ws) (T : Nat) (hT : T ≤ 20) : ∃ F r, FlEnd pp ws T F r := by
  obtain ⟨F, r, a1, a2, a3, a4, a5, a6, a7, a8, a9, a10, a11, a12, a13⟩ := flow_total ok T hT
  have hR1 := ok.some_
  have hR6 := ok.few
  have hS : pp.length * (T + 1) ≤ 126 := Nat.le_trans (Nat.mul_le_mul hR6 (by omega : T + 1 ≤ 21)) (by omega)
  have hS1 : pp.length ≤ pp.length * (T + 1) := Nat.le_mul_of_pos_right _ (by omega)
  have hST : pp.length * (T + 1) = T * pp.length + pp.length := by rw [Nat.mul_add, Nat.mul_comm]; omega
  obtain ⟨s0, s1⟩ := sumL_bound pp ok.people
  have hw1 : ∀ x ∈ ws, 1 ≤ x.2.2 := fun x hx => (ok.ways x hx).2.2.2.2.1
  have hle : ∀ tm : List Int, F.o ≤ boundM pp ws tm T := fun tm => by
    rw [← bound_cap ok T tm]
    exact a2.le _ (by rw [a3]; exact cutU_s) (by rw [a4]; exact cutU_o)
  have hsum := a2.cons (fun v => v == pp.length * (T + 1)) (by rw [a3]; simp) (by rw [a4]; simp)
  rw [capM_src ok] at hsum
  have hrn := restU_nonneg (fun v => v == pp.length * (T + 1)) F.arcs a2.arcs.pos
  obtain ⟨r', rk, N, b1, b2, _, _⟩ := reach_spec a2.ok a2.adj 129 (by rw [a5]; omega)
  obtain rfl : r' = r := Option.some.inj (b1.symm.trans a8)
  -- no stay is crossed
  have hm1 : ∀ t i, t < T → i < pp.length → rchB F.src r' (t * pp.length + i) = true → rchB F.src r' ((t + 1) * pp.length + i) = true := by
    intro t i ht hi hu
    cases hb : rchB F.src r' ((t + 1) * pp.length + i) with
    | true => rfl
    | false =>
      exfalso
      have g1 := capTicks_ge (U := rchB F.src r') (o := pp.length * (T + 1) + 1) s0 hw1 hi hu hb T 0 (Nat.zero_le _) (by omega)
      have g2 := capPeople_nonneg (U := rchB F.src r') (s := pp.length * (T + 1)) pp 0 ok.people
      have g3 : sumL pp ≤ F.o := by
        rw [a13]
        unfold capM
        omega
      have h0 := restU_all F.arcs a2.arcs.pos (show restU (fun v => v == pp.length * (T + 1)) F.arcs ≤ 0 by omega)
      have g4 := rch_src b2 (fun j a ha h1 h2 => h0 j a ha (by simp only [h1, a3, beq_self_eq_true]) (by simp only [beq_eq_false_iff_ne]; rw [← a3]; exact h2)) (rk (t * pp.length + i) + 1) _ (by omega) (rchB_iff.1 hu)
      have e1 : (t + 1) * pp.length ≤ T * pp.length := Nat.mul_le_mul_right _ (by omega)
      have e2 : (t + 1) * pp.length = t * pp.length + pp.length := by rw [Nat.add_mul, Nat.one_mul]
      omega
  have hm2 : ∀ (d t i : Nat), t + d ≤ T → i < pp.length → rchB F.src r' (t * pp.length + i) = true → rchB F.src r' ((t + d) * pp.length + i) = true := by
    intro d
    induction d with
    | zero => intro t i _ _ h; exact h
    | succ d ih =>
      intro t i ht hi h
      exact hm1 (t + d) i (by omega) hi (ih t i (by omega) hi h)
  have hlt : ∀ t i, t ≤ T → i < pp.length → t * pp.length + i < pp.length * (T + 1) := by
    intro t i ht hi
    have := Nat.mul_le_mul_right pp.length ht
    omega
  have hge : boundM pp ws (cutM pp.length T r') T ≤ F.o := by
    rw [a13]
    unfold boundM capM
    have h1 : bdPeople (cutM pp.length T r') 0 pp ≤ capPeople (rchB F.src r') (pp.length * (T + 1)) 0 pp := by
      refine bdPeople_le (by rw [← a3]; simp [rchB]) pp 0 ok.people fun i _ hi h0 => ?_
      rw [cutM_at (by omega)] at h0
      have hj := (cutAt_spec (r := r') (R := pp.length) (i := i) T 0).2.2.1 0 (Nat.le_refl _) (by omega)
      simp only [Nat.zero_mul, Nat.zero_add] at hj
      exact rch_neg (by rw [a3]; omega) hj
    have h2 : bdTicks (cutM pp.length T r') ws 0 T ≤ capTicks (rchB F.src r') pp.length (sumL pp) ws (pp.length * (T + 1) + 1) 0 T := by
      refine bdTicks_le s0 hw1 T 0 fun j _ hj x hx hc => ?_
      obtain ⟨x1, x2, x3⟩ := ok.way x hx
      simp only [crossB, Bool.and_eq_true, Bool.or_eq_true, decide_eq_true_eq, beq_iff_eq] at hc
      obtain ⟨c1, c2⟩ := hc
      rw [cutM_at (by omega)] at c1
      obtain ⟨p1, p2, p3, p4⟩ := cutAt_spec (r := r') (R := pp.length) (i := x.1.toNat) T 0
      refine ⟨?_, ?_⟩
      · have hc := p4 (by omega)
        have hu := rch_pos (s := F.src) (by
          rw [a9, a5]
          have := hlt (cutAt r' pp.length x.1.toNat 0 T) x.1.toNat (by omega) (by omega)
          omega) hc
        have := hm2 (j - cutAt r' pp.length x.1.toNat 0 T) _ x.1.toNat (by omega) (by omega) hu
        rw [show cutAt r' pp.length x.1.toNat 0 T + (j - cutAt r' pp.length x.1.toNat 0 T) = j by omega] at this
        exact this
      · unfold wayTo
        by_cases ht : x.2.1 = -1
        · rw [if_pos ht, ← a4]
          exact rch_neg (Ne.symm a2.ne) a10
        · rw [if_neg ht]
          have c3 : (j : Int) + 1 < tmAt (cutM pp.length T r') x.2.1.toNat := by
            rcases c2 with c2 | c2
            · exact absurd c2 ht
            · exact c2
          rw [cutM_at (by omega)] at c3
          have hj := (cutAt_spec (r := r') (R := pp.length) (i := x.2.1.toNat) T 0).2.2.1 (j + 1) (Nat.zero_le _) (by omega)
          have := hlt (j + 1) x.2.1.toNat (by omega) (by omega)
          exact rch_neg (by rw [a3]; omega) hj
    omega
  exact ⟨F, r', a1, a2, a3, a4, a5, a6, a7, a8, a9.trans a5, Int.le_antisymm (hle _) hge, hle, a2.o0, by omega⟩

/-! ### more ticks; a way that lets more pass -/
theorem bdPeople_mono {tm tm' : List Int} (h : ∀ i, 0 < tmAt tm i → 0 < tmAt tm' i) : ∀ (l : List Int) (r : Nat), (∀ x ∈ l, 0 ≤ x ∧ x ≤ 10000) → bdPeople tm r l ≤ bdPeople tm' r l
  | [], _, _ => Int.le_refl _
  | n :: l, r, hx => by
    have ih := bdPeople_mono h l (r + 1) fun y hy => hx y (by simp [hy])
    have hn := hx n (by simp)
    simp only [bdPeople]
    by_cases h0 : 0 < tmAt tm r
    · rw [if_pos h0, if_pos (h r h0)]
      omega
    · rw [if_neg h0]
      split <;> omega
theorem bdTick_mono {tm tm' : List Int} {t : Nat} : ∀ (l : List Ev), (∀ x ∈ l, 1 ≤ x.2.2) → (∀ x ∈ l, crossB tm x t = true → crossB tm' x t = true) → bdTick tm t l ≤ bdTick tm' t l
  | [], _, _ => Int.le_refl _
  | x :: l, hx, h => by
    have ih := bdTick_mono (tm := tm) (tm' := tm') (t := t) l (fun y hy => hx y (by simp [hy])) fun y hy => h y (by simp [hy])
    have hn := hx x (by simp)
    simp only [bdTick]
    by_cases h0 : crossB tm x t = true
    · rw [if_pos h0, if_pos (h x (by simp) h0)]
      omega
    · rw [if_neg h0]
      split <;> omega
theorem bdTick_nonneg {tm : List Int} {t : Nat} : ∀ (l : List Ev), (∀ x ∈ l, 1 ≤ x.2.2) → 0 ≤ bdTick tm t l
  | [], _ => Int.le_refl _
  | x :: l, hx => by
    have ih := bdTick_nonneg (tm := tm) (t := t) l fun y hy => hx y (by simp [hy])
    have hn := hx x (by simp)
    simp only [bdTick]
    split <;> omega
theorem bdTicks_mono {tm tm' : List Int} {ws : List Ev} (hw : ∀ x ∈ ws, 1 ≤ x.2.2) : ∀ (k t : Nat), (∀ j, t ≤ j → j < t + k → ∀ x ∈ ws, crossB tm x j = true → crossB tm' x j = true) → bdTicks tm ws t k ≤ bdTicks tm' ws t (k + 1)
  | 0, t, _ => by
    have := bdTick_nonneg (tm := tm') (t := t) ws hw
    simp only [bdTicks]
    omega
  | k + 1, t, h => by
    have ih := bdTicks_mono (tm := tm) (tm' := tm') hw k (t + 1) fun j h1 h2 => h j (by omega) (by omega)
    have h1 := bdTick_mono (tm := tm) (tm' := tm') (t := t) ws hw (h t (Nat.le_refl _) (by omega))
    rw [bdTicks, bdTicks]
    omega
theorem tmAt_map {tm : List Int} {f : Int → Int} (h0 : f 0 = 0) (i : Nat) : tmAt (tm.map f) i = f (tmAt tm i) := by
  simp only [tmAt, List.getElem?_map]
  cases tm[i]? with
  | none => simp [h0]
  | some a => rfl

/-- **With one more tick no fewer are out.** -/
theorem out_mono {pp : List Int} {ws : List Ev} (ok : RoomsOk pp ws) {T : Nat} {F F' : Fl} {r r' : List Int} (h : FlEnd pp ws T F r) (h' : FlEnd pp ws (T + 1) F' r') : F.o ≤ F'.o := by
  have h1 := h.all ((cutM pp.length (T + 1) r').map fun x => min x (T : Int))
  have hm : ∀ i, tmAt ((cutM pp.length (T + 1) r').map fun x => min x (T : Int)) i = min (tmAt (cutM pp.length (T + 1) r') i) (T : Int) := fun i => tmAt_map (by omega) i
  rw [h'.best]
  refine Int.le_trans h1 ?_
  unfold boundM
  have h2 := bdPeople_mono (tm := (cutM pp.length (T + 1) r').map fun x => min x (T : Int)) (tm' := cutM pp.length (T + 1) r') (fun i h0 => by rw [hm] at h0; omega) pp 0 ok.people
  have h3 := bdTicks_mono (tm := (cutM pp.length (T + 1) r').map fun x => min x (T : Int)) (tm' := cutM pp.length (T + 1) r') (ws := ws) (fun x hx => (ok.ways x hx).2.2.2.2.1) T 0 fun j _ hj x _ hc => by
    unfold crossB at hc ⊢
    simp only [hm, Bool.and_eq_true, Bool.or_eq_true, decide_eq_true_eq, beq_iff_eq] at hc ⊢
    omega
  omega

theorem bdTick_set {tm : List Int} {t : Nat} {f t' m m' : Int} (hm : m ≤ m') : ∀ (l : List Ev) (j : Nat), l[j]? = some (f, t', m) → bdTick tm t l ≤ bdTick tm t (l.set j (f, t', m'))
  | [], j, h => by simp at h
  | x :: l, 0, h => by
    obtain rfl : x = (f, t', m) := by simpa using h
    have e : crossB tm (f, t', m) t = crossB tm (f, t', m') t := rfl
    simp only [List.set_cons_zero, bdTick, e]
    split <;> omega
  | x :: l, j + 1, h => by
    have ih := bdTick_set (tm := tm) (t := t) hm l j (by simpa using h)
    simp only [List.set_cons_succ, bdTick]
    omega
theorem bdTicks_set {tm : List Int} {f t' m m' : Int} (hm : m ≤ m') {l : List Ev} {j : Nat} (h : l[j]? = some (f, t', m)) : ∀ (k t : Nat), bdTicks tm l t k ≤ bdTicks tm (l.set j (f, t', m')) t k
  | 0, _ => Int.le_refl _
  | k + 1, t => by
    have ih := bdTicks_set (tm := tm) hm h k (t + 1)
    have h1 := bdTick_set (tm := tm) (t := t) hm l j h
    simp only [bdTicks]
    omega
/-- **With a way that lets more pass no fewer are out.** -/
theorem out_more {pp : List Int} {ws : List Ev} {T : Nat} {F F' : Fl} {r r' : List Int} {j : Nat} {f t m m' : Int} (h : FlEnd pp ws T F r) (hj : ws[j]? = some (f, t, m)) (hm : m ≤ m') (h' : FlEnd pp (ws.set j (f, t, m')) T F' r') : F.o ≤ F'.o := by
  have h1 := h.all (cutM pp.length T r')
  rw [h'.best]
  refine Int.le_trans h1 ?_
  unfold boundM
  have := bdTicks_set (tm := cutM pp.length T r') hm hj T 0
  omega
end Go.Proofs.YtmcjnfghlpnghaaDoor
