/- The reference's flow over a square of numbers: plain. -/
import Derived.Test.YtlbgocgocanloaaGreatDoorf4P2
namespace Go.Proofs.YtlbgocgocanloaaGreatDoor
def cellR (M : List (List Int)) (u v : Nat) : Int := (M[u]?.getD [])[v]?.getD 0
def setR (M : List (List Int)) (u v : Nat) (x : Int) : List (List Int) := M.set u ((M[u]?.getD []).set v x)
structure Sq (n : Nat) (M : List (List Int)) : Prop where
  len : M.length = n
  row : ∀ (i : Nat) (r : List Int), M[i]? = some r → r.length = n
theorem Sq.at_ {n u : Nat} {M : List (List Int)} (h : Sq n M) (hu : u < n) : M[u]? = some (M[u]?.getD []) := by
  rw [List.getElem?_eq_getElem (by rw [h.len]; exact hu)]
  rfl
theorem Sq.set {n u v : Nat} {M : List (List Int)} (h : Sq n M) (hu : u < n) (x : Int) : Sq n (setR M u v x) := by
  refine ⟨by simp [setR, h.len], fun i r hr => ?_⟩
  unfold setR at hr
  by_cases hi : u = i
  · subst hi
    rw [List.getElem?_set_self (by rw [h.len]; exact hu)] at hr
    rw [← Option.some.inj hr, List.length_set]
    exact h.row u _ (h.at_ hu)
  · rw [List.getElem?_set_ne hi] at hr
    exact h.row i r hr
theorem cell_set {n u v : Nat} {M : List (List Int)} (h : Sq n M) (hu : u < n) (hv : v < n) (x : Int) (a b : Nat) : cellR (setR M u v x) a b = if a = u ∧ b = v then x else cellR M a b := by
  unfold cellR setR
  by_cases ha : u = a
  · subst ha
    rw [List.getElem?_set_self (by rw [h.len]; exact hu)]
    simp only [Option.getD_some]
    by_cases hb : v = b
    · subst hb
      rw [List.getElem?_set_self (by rw [h.row u _ (h.at_ hu)]; exact hv)]
      simp
    · rw [List.getElem?_set_ne hb, if_neg (fun h => hb h.2.symm)]
  · rw [List.getElem?_set_ne ha, if_neg (fun h => ha h.1.symm)]
def sumN : Nat → (Nat → Int) → Int
  | 0, _ => 0
  | k + 1, f => sumN k f + f k
theorem sumN_congr {f g : Nat → Int} : ∀ (n : Nat), (∀ i, i < n → f i = g i) → sumN n f = sumN n g
  | 0, _ => rfl
  | n + 1, h => by
    have ih := sumN_congr n fun i hi => h i (by omega)
    simp only [sumN, ih, h n (by omega)]
theorem sumN_point {f g : Nat → Int} {k : Nat} : ∀ (n : Nat), k < n → (∀ i, i < n → i ≠ k → f i = g i) → sumN n f = sumN n g + (f k - g k)
  | 0, h, _ => by omega
  | n + 1, hk, h => by
    by_cases hkn : k = n
    · subst hkn
      have := sumN_congr (f := f) (g := g) k fun i hi => h i (by omega) (by omega)
      simp only [sumN, this]
      omega
    · have ih := sumN_point n (by omega) fun i hi hne => h i (by omega) hne
      simp only [sumN, ih, h n (by omega) (Ne.symm hkn)]
      omega
theorem sumN_nonneg {f : Nat → Int} : ∀ (n : Nat), (∀ i, i < n → 0 ≤ f i) → 0 ≤ sumN n f
  | 0, _ => by simp [sumN]
  | n + 1, h => by
    have ih := sumN_nonneg n fun i hi => h i (by omega)
    have := h n (by omega)
    simp only [sumN]
    omega
def restR (n : Nat) (U : Nat → Bool) (M : List (List Int)) : Int := sumN n fun u => sumN n fun v => if U u && !U v then cellR M u v else 0
theorem restR_set {n u v : Nat} {M : List (List Int)} (h : Sq n M) (hu : u < n) (hv : v < n) (x : Int) (U : Nat → Bool) : restR n U (setR M u v x) = restR n U M + if U u && !U v then x - cellR M u v else 0 := by
  have e1 : ∀ i, i ≠ u → ∀ j, cellR (setR M u v x) i j = cellR M i j := fun i hi j => by
    have e := cell_set h hu hv x i j
    rwa [if_neg (fun h => hi h.1)] at e
  have e2 : ∀ j, j ≠ v → cellR (setR M u v x) u j = cellR M u j := fun j hj => by
    have e := cell_set h hu hv x u j
    rwa [if_neg (fun h => hj h.2)] at e
  have e3 : cellR (setR M u v x) u v = x := by
    have e := cell_set h hu hv x u v
    rwa [if_pos ⟨rfl, rfl⟩] at e
  unfold restR
  rw [sumN_point (k := u) (f := fun u' => sumN n fun v' => if U u' && !U v' then cellR (setR M u v x) u' v' else 0) (g := fun u' => sumN n fun v' => if U u' && !U v' then cellR M u' v' else 0) n hu (fun i _ hne => sumN_congr n fun j _ => by rw [e1 i hne j])]
  have e4 := sumN_point (k := v) (f := fun j => if U u && !U j then cellR (setR M u v x) u j else 0) (g := fun j => if U u && !U j then cellR M u j else 0) n hv (fun j _ hne => by
    show (if U u && !U j then cellR (setR M u v x) u j else 0) = if U u && !U j then cellR M u j else 0
    rw [e2 j hne])
  show _ + ((sumN n fun j => if U u && !U j then cellR (setR M u v x) u j else 0) - (sumN n fun j => if U u && !U j then cellR M u j else 0)) = _
  rw [e4, e3]
  split <;> omega
theorem restR_nonneg {n : Nat} {M : List (List Int)} (U : Nat → Bool) (h : ∀ u v, u < n → v < n → 0 ≤ cellR M u v) : 0 ≤ restR n U M :=
  sumN_nonneg n fun u hu => sumN_nonneg n fun v hv => by
    have := h u v hu hv
    split <;> omega
def RchR (y : List Int) (v : Nat) : Prop := ∃ k : Int, y[v]? = some k ∧ 0 ≤ k
structure BfsR (M : List (List Int)) (n : Nat) (y : List Int) (q : List Nat) (rk : Nat → Nat) (N : Nat) : Prop where
  len : y.length = n
  zero : y[0]? = some 0
  rk0 : rk 0 < N
  tree : ∀ (v : Nat) (k : Int), v ≠ 0 → y[v]? = some k → 0 ≤ k → rk v < N ∧ k.toNat < n ∧ 0 < cellR M k.toNat v ∧ RchR y k.toNat ∧ rk k.toNat < rk v
  queue : ∀ v ∈ q, RchR y v ∧ v < n
  all : ∀ v, RchR y v → v ∈ q
theorem RchR.set {y : List Int} {v t : Nat} {i : Int} (hi : 0 ≤ i) (ht : t < y.length) (h : RchR y v) : RchR (y.set t i) v := by
  obtain ⟨k, hk, hk0⟩ := h
  by_cases hv : t = v
  · subst hv
    exact ⟨i, by simp [ht], hi⟩
  · exact ⟨k, by rw [List.getElem?_set_ne hv]; exact hk, hk0⟩
theorem rchR_of_set {y : List Int} {v t : Nat} {i : Int} (h : RchR (y.set t i) v) : RchR y v ∨ v = t := by
  obtain ⟨k, hk, hk0⟩ := h
  by_cases hv : t = v
  · exact .inr hv.symm
  · rw [List.getElem?_set_ne hv] at hk
    exact .inl ⟨k, hk, hk0⟩
theorem not_rchR {y : List Int} {v : Nat} (h : y[v]?.getD 0 < 0) : ¬ RchR y v := by
  rintro ⟨k, hk, hk0⟩
  rw [hk] at h
  simp at h
  omega
theorem BfsR.step {M : List (List Int)} {n : Nat} {y : List Int} {q : List Nat} {rk : Nat → Nat} {N u k : Nat} (h : BfsR M n y q rk N) (hu : RchR y u) (hun : u < n) (h1 : y[k]?.getD 0 < 0) (h2 : 0 < cellR M u k) :
    BfsR M n (y.set k (u : Int)) (q ++ [k]) (fun v => if v = k then N else rk v) (N + 1) := by
  have hk := getD_neg h1
  have hn := not_rchR h1
  have hk0 : k ≠ 0 := fun he => by
    rw [he, h.zero] at h1
    simp at h1
  have hN : ∀ v, RchR y v → rk v < N := by
    intro v hv
    by_cases hv0 : v = 0
    · rw [hv0]; exact h.rk0
    · obtain ⟨j, hj, hj0⟩ := hv
      exact (h.tree v j hv0 hj hj0).1
  have huk : u ≠ k := fun he => hn (he ▸ hu)
  refine ⟨by simpa using h.len, ?_, ?_, fun v j hv hj hj0 => ?_, fun v hv => ?_, fun v hv => ?_⟩
  · rw [List.getElem?_set_ne hk0]; exact h.zero
  · simp only [if_neg (Ne.symm hk0)]
    have := h.rk0
    omega
  · by_cases hvk : k = v
    · subst hvk
      rw [List.getElem?_set_self hk] at hj
      obtain rfl := Option.some.inj hj
      refine ⟨by simp, by simpa using hun, by simpa using h2, ?_, ?_⟩
      · simpa using hu.set (by omega) hk
      · simp only [Int.toNat_natCast, if_neg huk, if_pos]
        exact hN u hu
    · rw [List.getElem?_set_ne hvk] at hj
      obtain ⟨g1, g2, g3, g4, g5⟩ := h.tree v j hv hj hj0
      have hjk : j.toNat ≠ k := fun he => hn (he ▸ g4)
      simp only [if_neg (Ne.symm hvk), if_neg hjk]
      exact ⟨by omega, g2, g3, g4.set (by omega) hk, g5⟩
  · rcases List.mem_append.1 hv with hv | hv
    · exact ⟨(h.queue v hv).1.set (by omega) hk, (h.queue v hv).2⟩
    · obtain rfl : v = k := by simpa using hv
      exact ⟨⟨(u : Int), by simp [hk], by omega⟩, by rw [← h.len]; exact hk⟩
  · rcases rchR_of_set hv with hv | hv
    · exact List.mem_append_left _ (h.all v hv)
    · exact List.mem_append_right _ (by simp [hv])
end Go.Proofs.YtlbgocgocanloaaGreatDoor

/- The reference's flow: pushes, and the run: plain. -/
namespace Go.Proofs.YtlbgocgocanloaaGreatDoor
/-- what holds of the square all along -/
structure SqGood (n : Nat) (M : List (List Int)) : Prop where
  sq : Sq n M
  pos : ∀ u v, u < n → v < n → 0 ≤ cellR M u v
  pair : ∀ u v, u < n → v < n → u ≠ v → cellR M u v + cellR M v u ≤ 900000000
theorem SqGood.le {n u v : Nat} {M : List (List Int)} (h : SqGood n M) (hu : u < n) (hv : v < n) (hne : u ≠ v) : cellR M u v ≤ 900000000 := by
  have := h.pair u v hu hv hne
  have := h.pos v u hv hu
  omega
theorem SqGood.push {n u k : Nat} {M : List (List Int)} {d : Int} (h : SqGood n M) (hu : u < n) (hk : k < n) (hne : u ≠ k) (h0 : 0 ≤ d) (hd : d ≤ cellR M u k) :
    SqGood n (setR (setR M u k (cellR M u k - d)) k u (cellR (setR M u k (cellR M u k - d)) k u + d)) := by
  have s1 := h.sq.set hu (v := k) (cellR M u k - d)
  have cell : ∀ a b, cellR (setR (setR M u k (cellR M u k - d)) k u (cellR (setR M u k (cellR M u k - d)) k u + d)) a b = cellR M a b + (if a = u ∧ b = k then -d else 0) + (if a = k ∧ b = u then d else 0) := by
    intro a b
    rw [cell_set s1 hk hu]
    by_cases h1 : a = k ∧ b = u
    · obtain ⟨rfl, rfl⟩ := h1
      rw [if_pos ⟨rfl, rfl⟩, cell_set h.sq hu hk, if_neg (fun h => hne h.1.symm), if_neg (fun h => hne h.1.symm), if_pos ⟨rfl, rfl⟩]
      omega
    · rw [if_neg h1, cell_set h.sq hu hk, if_neg h1]
      by_cases h2 : a = u ∧ b = k
      · obtain ⟨rfl, rfl⟩ := h2
        rw [if_pos ⟨rfl, rfl⟩, if_pos ⟨rfl, rfl⟩]
        omega
      · rw [if_neg h2, if_neg h2]
        omega
  refine ⟨s1.set hk _, fun a b ha hb => ?_, fun a b ha hb hab => ?_⟩
  · rw [cell]
    have := h.pos a b ha hb
    by_cases h1 : a = u ∧ b = k
    · obtain ⟨rfl, rfl⟩ := h1
      rw [if_pos ⟨rfl, rfl⟩, if_neg (fun h => hne h.1)]
      omega
    · rw [if_neg h1]
      split <;> omega
  · rw [cell, cell]
    have := h.pair a b ha hb hab
    have key : (if a = u ∧ b = k then -d else 0) + (if a = k ∧ b = u then d else 0) + (if b = u ∧ a = k then -d else 0) + (if b = k ∧ a = u then d else 0) = 0 := by
      by_cases h1 : a = u ∧ b = k
      · obtain ⟨rfl, rfl⟩ := h1
        rw [if_pos ⟨rfl, rfl⟩, if_neg (fun h => hne h.1), if_neg (fun h => hne h.2), if_pos ⟨rfl, rfl⟩]
        omega
      · rw [if_neg h1, if_neg (show ¬ (b = k ∧ a = u) from fun h => h1 ⟨h.2, h.1⟩)]
        by_cases h2 : a = k ∧ b = u
        · rw [if_pos h2, if_pos (show b = u ∧ a = k from ⟨h2.2, h2.1⟩)]
          omega
        · rw [if_neg h2, if_neg (show ¬ (b = u ∧ a = k) from fun h => h2 ⟨h.2, h.1⟩)]
          rfl
    omega
structure RGood (last : Nat) (cap : (Nat → Bool) → Int) (M : List (List Int)) (o : Int) : Prop where
  good : SqGood (last + 1) M
  cons : ∀ U : Nat → Bool, U 0 = true → U last = false → o + restR (last + 1) U M = cap U
  o0 : 0 ≤ o
theorem RGood.le {last : Nat} {cap : (Nat → Bool) → Int} {M : List (List Int)} {o : Int} (h : RGood last cap M o) (U : Nat → Bool) (h1 : U 0 = true) (h2 : U last = false) : o ≤ cap U := by
  have := h.cons U h1 h2
  have := restR_nonneg (n := last + 1) U h.good.pos
  omega
end Go.Proofs.YtlbgocgocanloaaGreatDoor

/- The reference's square as it is built, and that both flows are as great: plain. -/
namespace Go.Proofs.YtlbgocgocanloaaGreatDoor
def zeroR (n : Nat) : List (List Int) := List.replicate n (List.replicate n 0)
structure BuiltSq (n : Nat) (b : Int) (c : (Nat → Bool) → Int) (M : List (List Int)) : Prop where
  sq : Sq n M
  pos : ∀ u v, 0 ≤ cellR M u v
  le : ∀ u v, cellR M u v ≤ b
  diag : ∀ u, cellR M u u = 0
  rest : ∀ U, restR n U M = c U
theorem BuiltSq.set {n u v : Nat} {b b' : Int} {c : (Nat → Bool) → Int} {M : List (List Int)} (h : BuiltSq n b c M) (hu : u < n) (hv : v < n) (hne : u ≠ v) (x : Int) (hx : 0 ≤ x) (hxb : x ≤ b') (hb : b ≤ b') :
    BuiltSq n b' (fun U => c U + if U u && !U v then x - cellR M u v else 0) (setR M u v x) := by
  refine ⟨h.sq.set hu x, fun a d => ?_, fun a d => ?_, fun a => ?_, fun U => ?_⟩
  · rw [cell_set h.sq hu hv]
    split
    · exact hx
    · exact h.pos a d
  · rw [cell_set h.sq hu hv]
    split
    · exact hxb
    · exact Int.le_trans (h.le a d) hb
  · rw [cell_set h.sq hu hv, if_neg (fun h => hne (h.1.symm.trans h.2))]
    exact h.diag a
  · rw [restR_set h.sq hu hv, h.rest U]
theorem BuiltSq.cast {n : Nat} {b : Int} {c c' : (Nat → Bool) → Int} {M : List (List Int)} (h : BuiltSq n b c M) (hc : ∀ U, c U = c' U) : BuiltSq n b c' M :=
  ⟨h.sq, h.pos, h.le, h.diag, fun U => (h.rest U).trans (hc U)⟩
end Go.Proofs.YtlbgocgocanloaaGreatDoor

/- Both flows are as great: plain. -/
namespace Go.Proofs.YtlbgocgocanloaaGreatDoor
theorem ways_nonneg {U : Nat → Bool} {o here next : Nat} : ∀ (l : List Ev), (∀ x ∈ l, 1 ≤ x.2.2) → 0 ≤ capWays U o here next l
  | [], _ => Int.le_refl _
  | x :: l, h => by
    have ih := ways_nonneg (U := U) (o := o) (here := here) (next := next) l fun y hy => h y (by simp [hy])
    have := h x (by simp)
    simp only [capWays]
    split <;> omega
theorem capPeople_nonneg {U : Nat → Bool} {s : Nat} : ∀ (l : List Int) (r : Nat), (∀ x ∈ l, 0 ≤ x ∧ x ≤ 10000) → 0 ≤ capPeople U s r l
  | [], _, _ => Int.le_refl _
  | x :: l, r, h => by
    have ih := capPeople_nonneg (U := U) (s := s) l (r + 1) fun y hy => h y (by simp [hy])
    have := h x (by simp)
    simp only [capPeople]
    split <;> omega
end Go.Proofs.YtlbgocgocanloaaGreatDoor

/- A cut and its bound: the best cut has just the bound that people are out; more ticks, or a way that lets more pass: plain. -/
namespace Go.Proofs.YtlbgocgocanloaaGreatDoor
/-- the time of a room -/
def tmAt (tm : List Int) (i : Nat) : Int := tm[i]?.getD 0
def bdPeople (tm : List Int) : Nat → List Int → Int
  | _, [] => 0
  | r, n :: l => (if 0 < tmAt tm r then n else 0) + bdPeople tm (r + 1) l
def crossB (tm : List Int) (x : Ev) (t : Nat) : Bool := decide (tmAt tm x.1.toNat ≤ (t : Int)) && (x.2.1 == -1 || decide ((t : Int) + 1 < tmAt tm x.2.1.toNat))
def bdTick (tm : List Int) (t : Nat) : List Ev → Int
  | [] => 0
  | x :: l => (if crossB tm x t = true then x.2.2 else 0) + bdTick tm t l
def bdTicks (tm : List Int) (ws : List Ev) : Nat → Nat → Int
  | _, 0 => 0
  | t, k + 1 => bdTick tm t ws + bdTicks tm ws (t + 1) k
/-- the bound of a cut -/
def boundM (pp : List Int) (ws : List Ev) (tm : List Int) (T : Nat) : Int := bdPeople tm 0 pp + bdTicks tm ws 0 T
def cutU (tm : List Int) (R s v : Nat) : Bool := v == s || (decide (v < s) && decide (tmAt tm (v % R) ≤ ((v / R : Nat) : Int)))
theorem cutU_at {tm : List Int} {R s t i : Nat} (hR : i < R) (h : t * R + i < s) : cutU tm R s (t * R + i) = decide (tmAt tm i ≤ (t : Int)) := by
  have hd : (t * R + i) / R = t := by rw [Nat.add_comm, Nat.add_mul_div_right _ _ (by omega), Nat.div_eq_of_lt hR, Nat.zero_add]
  have hm : (t * R + i) % R = i := by rw [Nat.add_comm, Nat.add_mul_mod_self_right, Nat.mod_eq_of_lt hR]
  have h1 : (t * R + i == s) = false := beq_eq_false_iff_ne.2 (by omega)
  unfold cutU
  rw [hd, hm, h1, decide_eq_true h]
  simp
theorem cutU_s {tm : List Int} {R s : Nat} : cutU tm R s s = true := by simp [cutU]
theorem cutU_o {tm : List Int} {R s : Nat} : cutU tm R s (s + 1) = false := by
  have h1 : (s + 1 == s) = false := beq_eq_false_iff_ne.2 (by omega)
  have h2 : decide (s + 1 < s) = false := decide_eq_false (by omega)
  unfold cutU
  rw [h1, h2]
  rfl
theorem capPeople_cut {tm : List Int} {R s : Nat} (hs : R ≤ s) : ∀ (l : List Int) (r : Nat), r + l.length ≤ R → capPeople (cutU tm R s) s r l = bdPeople tm r l
  | [], _, _ => rfl
  | n :: l, r, h => by
    simp only [List.length_cons] at h
    have ih := capPeople_cut (tm := tm) hs l (r + 1) (by omega)
    have e : cutU tm R s r = decide (tmAt tm r ≤ 0) := by
      have := cutU_at (tm := tm) (t := 0) (i := r) (R := R) (s := s) (by omega) (by omega)
      simpa using this
    simp only [capPeople, bdPeople, ih, e, cutU_s, Bool.true_and]
    by_cases h0 : 0 < tmAt tm r
    · rw [if_pos h0, if_pos (by simp; omega)]
    · rw [if_neg h0, if_neg (by simp; omega)]
theorem capStay_cut {tm : List Int} {R s t : Nat} {all : Int} (h : (t + 1) * R + R ≤ s) : ∀ (k r : Nat), r + k ≤ R → capStay (cutU tm R s) (t * R) ((t + 1) * R) all r k = 0
  | 0, _, _ => rfl
  | k + 1, r, hr => by
    have ih := capStay_cut (tm := tm) (all := all) h k (r + 1) (by omega)
    have e3 : (t + 1) * R = t * R + R := by rw [Nat.add_mul, Nat.one_mul]
    have e1 := cutU_at (tm := tm) (t := t) (i := r) (R := R) (s := s) (by omega) (by omega)
    have e2 := cutU_at (tm := tm) (t := t + 1) (i := r) (R := R) (s := s) (by omega) (by omega)
    simp only [capStay, ih, e1, e2]
    rw [if_neg (by simp; omega)]
    rfl
theorem cross_cut {tm : List Int} {R s t : Nat} {x : Ev} (h : (t + 1) * R + R ≤ s) (hx : 0 ≤ x.1 ∧ x.1 < R ∧ (x.2.1 = -1 ∨ 0 ≤ x.2.1 ∧ x.2.1 < R)) :
    (cutU tm R s (t * R + x.1.toNat) && !cutU tm R s (wayTo (s + 1) ((t + 1) * R) x.2.1)) = crossB tm x t := by
  obtain ⟨x1, x2, x3⟩ := hx
  have e3 : (t + 1) * R = t * R + R := by rw [Nat.add_mul, Nat.one_mul]
  have e1 := cutU_at (tm := tm) (t := t) (i := x.1.toNat) (R := R) (s := s) (by omega) (by omega)
  unfold crossB wayTo
  rw [e1]
  by_cases ht : x.2.1 = -1
  · rw [if_pos ht, cutU_o]
    simp [ht]
  · have e2 := cutU_at (tm := tm) (t := t + 1) (i := x.2.1.toNat) (R := R) (s := s) (by omega) (by omega)
    have h1 : (x.2.1 == -1) = false := beq_eq_false_iff_ne.2 ht
    rw [if_neg ht, e2, h1, Bool.false_or]
    congr 1
    rw [Bool.eq_iff_iff]
    simp
theorem capWays_cut {tm : List Int} {R s t : Nat} (h : (t + 1) * R + R ≤ s) : ∀ (l : List Ev), (∀ x ∈ l, 0 ≤ x.1 ∧ x.1 < R ∧ (x.2.1 = -1 ∨ 0 ≤ x.2.1 ∧ x.2.1 < R)) → capWays (cutU tm R s) (s + 1) (t * R) ((t + 1) * R) l = bdTick tm t l
  | [], _ => rfl
  | x :: l, hx => by
    have ih := capWays_cut (tm := tm) h l fun y hy => hx y (by simp [hy])
    simp only [capWays, bdTick, ih, cross_cut h (hx x (by simp))]
theorem capTicks_cut {tm : List Int} {R s : Nat} {all : Int} {ws : List Ev} (hw : ∀ x ∈ ws, 0 ≤ x.1 ∧ x.1 < R ∧ (x.2.1 = -1 ∨ 0 ≤ x.2.1 ∧ x.2.1 < R)) : ∀ (k t : Nat), (t + k) * R + R ≤ s → capTicks (cutU tm R s) R all ws (s + 1) t k = bdTicks tm ws t k
  | 0, _, _ => rfl
  | k + 1, t, h => by
    have e0 : (t + 1 + k) * R = (t + (k + 1)) * R := by rw [show t + 1 + k = t + (k + 1) by omega]
    have e1 : (t + 1) * R ≤ (t + (k + 1)) * R := Nat.mul_le_mul_right R (by omega)
    have ih := capTicks_cut (tm := tm) (all := all) (s := s) hw k (t + 1) (by rw [e0]; exact h)
    simp only [capTicks, bdTicks, ih, capStay_cut (tm := tm) (all := all) (t := t) (show (t + 1) * R + R ≤ s by omega) R 0 (by omega), capWays_cut (tm := tm) (t := t) (show (t + 1) * R + R ≤ s by omega) ws hw]
    omega
theorem RoomsOk.way {pp : List Int} {ws : List Ev} (ok : RoomsOk pp ws) : ∀ x ∈ ws, 0 ≤ x.1 ∧ x.1 < pp.length ∧ (x.2.1 = -1 ∨ 0 ≤ x.2.1 ∧ x.2.1 < pp.length) := fun x hx => by
  have := ok.ways x hx
  exact ⟨this.1, this.2.1, this.2.2.1⟩
theorem bound_cap {pp : List Int} {ws : List Ev} (ok : RoomsOk pp ws) (T : Nat) (tm : List Int) : capM pp ws T (cutU tm pp.length (pp.length * (T + 1))) = boundM pp ws tm T := by
  have h1 : pp.length ≤ pp.length * (T + 1) := Nat.le_mul_of_pos_right _ (by omega)
  unfold capM boundM
  rw [capPeople_cut h1 pp 0 (by omega), capTicks_cut ok.way T 0 (by
    rw [Nat.zero_add, Nat.mul_add, Nat.mul_comm T]
    omega)]
def cutAt (r : List Int) (R i : Nat) : Nat → Nat → Nat
  | t, 0 => t
  | t, k + 1 => if r[t * R + i]?.getD 0 < 0 then cutAt r R i (t + 1) k else t
theorem cutAt_spec {r : List Int} {R i : Nat} : ∀ (k t : Nat), t ≤ cutAt r R i t k ∧ cutAt r R i t k ≤ t + k ∧ (∀ j, t ≤ j → j < cutAt r R i t k → r[j * R + i]?.getD 0 < 0) ∧ (cutAt r R i t k < t + k → ¬ r[cutAt r R i t k * R + i]?.getD 0 < 0)
  | 0, t => by
    simp only [cutAt]
    exact ⟨Nat.le_refl _, Nat.le_refl _, fun j h1 h2 => by omega, fun h => by omega⟩
  | k + 1, t => by
    obtain ⟨i1, i2, i3, i4⟩ := cutAt_spec (r := r) (R := R) (i := i) k (t + 1)
    unfold cutAt
    by_cases h : r[t * R + i]?.getD 0 < 0
    · rw [if_pos h]
      refine ⟨by omega, by omega, fun j h1 h2 => ?_, fun h2 => i4 (by omega)⟩
      rcases Nat.lt_or_ge t j with h3 | h3
      · exact i3 j h3 h2
      · obtain rfl : j = t := by omega
        exact h
    · rw [if_neg h]
      exact ⟨Nat.le_refl _, by omega, fun j h1 h2 => by omega, fun _ => h⟩
def cutM (R T : Nat) (r : List Int) : List Int := (List.range R).map fun i => ((cutAt r R i 0 T : Nat) : Int)
theorem cutM_at {R T i : Nat} {r : List Int} (hi : i < R) : tmAt (cutM R T r) i = ((cutAt r R i 0 T : Nat) : Int) := by
  simp [tmAt, cutM, hi]
theorem rch_neg {s v : Nat} {r : List Int} (hv : v ≠ s) (h : r[v]?.getD 0 < 0) : rchB s r v = false := by
  cases hb : rchB s r v with
  | false => rfl
  | true => exact absurd (rchB_iff.1 hb) (not_rch h hv)
theorem rch_pos {s v : Nat} {r : List Int} (hl : v < r.length) (h : ¬ r[v]?.getD 0 < 0) : rchB s r v = true :=
  rchB_iff.2 (.inr ⟨r[v], by rw [List.getElem?_eq_getElem hl], by
    rw [List.getElem?_eq_getElem hl, Option.getD_some] at h
    omega⟩)
theorem restU_all {U : Nat → Bool} : ∀ (l : List Arc), (∀ (i : Nat) (a : Arc), l[i]? = some a → 0 ≤ a.lf) → restU U l ≤ 0 → ∀ (i : Nat) (a : Arc), l[i]? = some a → U a.fr = true → U a.to = false → a.lf ≤ 0
  | [], _, _, i, a, h, _, _ => by simp at h
  | b :: l, hp, h0, i, a, h, h1, h2 => by
    have hn := restU_nonneg U l fun j c hc => hp (j + 1) c (by simpa using hc)
    have hb := hp 0 b (by simp)
    simp only [restU, crossing] at h0
    cases i with
    | zero =>
      obtain rfl : b = a := by simpa using h
      rw [h1, h2] at h0
      simp at h0
      omega
    | succ i =>
      refine restU_all l (fun j c hc => hp (j + 1) c (by simpa using hc)) ?_ i a (by simpa using h) h1 h2
      split at h0 <;> omega
theorem capStay_nonneg {U : Nat → Bool} {here next : Nat} {all : Int} (ha : 0 ≤ all) : ∀ (k r : Nat), 0 ≤ capStay U here next all r k
  | 0, _ => Int.le_refl _
  | k + 1, r => by
    have ih := capStay_nonneg (U := U) (here := here) (next := next) ha k (r + 1)
    simp only [capStay]
    split <;> omega
theorem capTicks_nonneg {U : Nat → Bool} {R o : Nat} {all : Int} {ws : List Ev} (ha : 0 ≤ all) (hw : ∀ x ∈ ws, 1 ≤ x.2.2) : ∀ (k t : Nat), 0 ≤ capTicks U R all ws o t k
  | 0, _ => Int.le_refl _
  | k + 1, t => by
    have ih := capTicks_nonneg (U := U) (R := R) (o := o) ha hw k (t + 1)
    have h1 := capStay_nonneg (U := U) (here := t * R) (next := (t + 1) * R) ha R 0
    have h2 := ways_nonneg (U := U) (o := o) (here := t * R) (next := (t + 1) * R) ws hw
    simp only [capTicks]
    omega
theorem capStay_ge {U : Nat → Bool} {here next i : Nat} {all : Int} (ha : 0 ≤ all) (h1 : U (here + i) = true) (h2 : U (next + i) = false) : ∀ (k r : Nat), r ≤ i → i < r + k → all ≤ capStay U here next all r k
  | 0, r, h3, h4 => by omega
  | k + 1, r, h3, h4 => by
    simp only [capStay]
    rcases Nat.lt_or_ge r i with h | h
    · have ih := capStay_ge ha h1 h2 k (r + 1) h (by omega)
      split <;> omega
    · obtain rfl : r = i := by omega
      have := capStay_nonneg (U := U) (here := here) (next := next) ha k (r + 1)
      rw [h1, h2]
      simp
      omega
theorem capTicks_ge {U : Nat → Bool} {R o t i : Nat} {all : Int} {ws : List Ev} (ha : 0 ≤ all) (hw : ∀ x ∈ ws, 1 ≤ x.2.2) (hi : i < R) (h1 : U (t * R + i) = true) (h2 : U ((t + 1) * R + i) = false) : ∀ (k t0 : Nat), t0 ≤ t → t < t0 + k → all ≤ capTicks U R all ws o t0 k
  | 0, t0, h3, h4 => by omega
  | k + 1, t0, h3, h4 => by
    have g1 := capStay_nonneg (U := U) (here := t0 * R) (next := (t0 + 1) * R) ha R 0
    have g2 := ways_nonneg (U := U) (o := o) (here := t0 * R) (next := (t0 + 1) * R) ws hw
    have g3 := capTicks_nonneg (U := U) (R := R) (o := o) ha hw k (t0 + 1)
    simp only [capTicks]
    rcases Nat.lt_or_ge t0 t with h | h
    · have ih := capTicks_ge (o := o) ha hw hi h1 h2 k (t0 + 1) h (by omega)
      omega
    · obtain rfl : t0 = t := by omega
      have := capStay_ge ha h1 h2 R 0 (Nat.zero_le _) (by omega)
      omega
/-- what is reached by nothing but the source -/
theorem rch_src {F : Fl} {r : List Int} {rk : Nat → Nat} {N : Nat} (h : BfsInv F r [] rk N) (h0 : ∀ (i : Nat) (a : Arc), F.arcs[i]? = some a → a.fr = F.src → a.to ≠ F.src → a.lf ≤ 0) : ∀ (n v : Nat), rk v < n → Rch F.src r v → v = F.src
  | 0, v, hn, _ => by omega
  | n + 1, v, hn, hv => by
    rcases hv with hv | ⟨k, hk, hk0⟩
    · exact hv
    · obtain ⟨_, a, ha, hto, hlf, hfr, hrk⟩ := h.tree v k hk hk0
      have := rch_src h h0 n a.fr (by omega) hfr
      by_cases hs : v = F.src
      · exact hs
      · have := h0 _ a ha this (by rw [hto]; exact hs)
        omega
theorem bdPeople_le {tm : List Int} {U : Nat → Bool} {s : Nat} (hs : U s = true) : ∀ (l : List Int) (r : Nat), (∀ x ∈ l, 0 ≤ x ∧ x ≤ 10000) → (∀ i, r ≤ i → i < r + l.length → 0 < tmAt tm i → U i = false) → bdPeople tm r l ≤ capPeople U s r l
  | [], _, _, _ => Int.le_refl _
  | n :: l, r, hx, h => by
    have ih := bdPeople_le (tm := tm) hs l (r + 1) (fun y hy => hx y (by simp [hy])) fun i h1 h2 h3 => h i (by omega) (by simp only [List.length_cons]; omega) h3
    have hn := hx n (by simp)
    simp only [bdPeople, capPeople]
    by_cases h0 : 0 < tmAt tm r
    · have := h r (Nat.le_refl _) (by simp only [List.length_cons]; omega) h0
      rw [if_pos h0, hs, this]
      simp
      omega
    · rw [if_neg h0]
      split <;> omega
theorem bdTick_le {tm : List Int} {U : Nat → Bool} {o here next t : Nat} : ∀ (l : List Ev), (∀ x ∈ l, 1 ≤ x.2.2) → (∀ x ∈ l, crossB tm x t = true → U (here + x.1.toNat) = true ∧ U (wayTo o next x.2.1) = false) → bdTick tm t l ≤ capWays U o here next l
  | [], _, _ => Int.le_refl _
  | x :: l, hx, h => by
    have ih := bdTick_le (tm := tm) (U := U) (o := o) (here := here) (next := next) (t := t) l (fun y hy => hx y (by simp [hy])) fun y hy => h y (by simp [hy])
    have hn := hx x (by simp)
    simp only [bdTick, capWays]
    by_cases h0 : crossB tm x t = true
    · obtain ⟨h1, h2⟩ := h x (by simp) h0
      rw [if_pos h0, h1, h2]
      simp
      omega
    · rw [if_neg h0]
      split <;> omega
theorem bdTicks_le {tm : List Int} {U : Nat → Bool} {R o : Nat} {all : Int} {ws : List Ev} (ha : 0 ≤ all) (hw : ∀ x ∈ ws, 1 ≤ x.2.2) : ∀ (k t : Nat), (∀ j, t ≤ j → j < t + k → ∀ x ∈ ws, crossB tm x j = true → U (j * R + x.1.toNat) = true ∧ U (wayTo o ((j + 1) * R) x.2.1) = false) → bdTicks tm ws t k ≤ capTicks U R all ws o t k
  | 0, _, _ => Int.le_refl _
  | k + 1, t, h => by
    have ih := bdTicks_le (tm := tm) (U := U) (R := R) (o := o) ha hw k (t + 1) fun j h1 h2 => h j (by omega) (by omega)
    have h1 := bdTick_le (tm := tm) (U := U) (o := o) (here := t * R) (next := (t + 1) * R) (t := t) ws hw (h t (Nat.le_refl _) (by omega))
    have h2 := capStay_nonneg (U := U) (here := t * R) (next := (t + 1) * R) ha R 0
    simp only [bdTicks, capTicks]
    omega
/-- the flow that the code ends with, and the nodes that it reaches then -/
structure FlEnd (pp : List Int) (ws : List Ev) (T : Nat) (F : Fl) (r : List Int) : Prop where
  run : runM 60001 129 (builtM pp ws T) = some F
  good : FlGood (capM pp ws T) F
  src : F.src = pp.length * (T + 1)
  outn : F.outn = pp.length * (T + 1) + 1
  adjN : F.adj.length = pp.length * (T + 1) + 2
  rooms : F.rooms = pp.length
  ticks : F.ticks = T
  bfs : bfsM F 129 (List.replicate F.adj.length (-1)) [F.src] = some r
  len : r.length = pp.length * (T + 1) + 2
  best : F.o = boundM pp ws (cutM pp.length T r) T
  all : ∀ tm : List Int, F.o ≤ boundM pp ws tm T
  nonneg : 0 ≤ F.o
  sum : F.o ≤ sumL pp
/-- **The best cut has just the bound that people are out.** -/
theorem cut_best {pp : List Int} {ws : List Ev} (ok : RoomsOk pp ws) (T : Nat) (hT : T ≤ 20) : ∃ F r, FlEnd pp ws T F r := by
  obtain ⟨F, r, a1, a2, a3, a4, a5, a6, a7, a8, a9, a10, a11, a12, a13⟩ := flow_total ok T hT
  have hR1 := ok.some_
  have hR6 := ok.few
  have hS : pp.length * (T + 1) ≤ 126 := Nat.le_trans (Nat.mul_le_mul hR6 (by omega : T + 1 ≤ 21)) (by omega)
  have hS1 : pp.length ≤ pp.length * (T + 1) := Nat.le_mul_of_pos_right _ (by omega)
  have hST : pp.length * (T + 1) = T * pp.length + pp.length := by rw [Nat.mul_add, Nat.mul_comm]; omega
  obtain ⟨s0, s1⟩ := sumL_bound pp ok.people
  have hw1 : ∀ x ∈ ws, 1 ≤ x.2.2 := fun x hx => (ok.ways x hx).2.2.2.2.1
  have hle : ∀ tm : List Int, F.o ≤ boundM pp ws tm T := fun tm => by
    rw [← bound_cap ok T tm]
    exact a2.le _ (by rw [a3]; exact cutU_s) (by rw [a4]; exact cutU_o)
  have hsum := a2.cons (fun v => v == pp.length * (T + 1)) (by rw [a3]; simp) (by rw [a4]; simp)
  rw [capM_src ok] at hsum
  have hrn := restU_nonneg (fun v => v == pp.length * (T + 1)) F.arcs a2.arcs.pos
  obtain ⟨r', rk, N, b1, b2, _, _⟩ := reach_spec a2.ok a2.adj 129 (by rw [a5]; omega)
  obtain rfl : r' = r := Option.some.inj (b1.symm.trans a8)
  -- no stay is crossed
  have hm1 : ∀ t i, t < T → i < pp.length → rchB F.src r' (t * pp.length + i) = true → rchB F.src r' ((t + 1) * pp.length + i) = true := by
    intro t i ht hi hu
    cases hb : rchB F.src r' ((t + 1) * pp.length + i) with
    | true => rfl
    | false =>
      exfalso
      have g1 := capTicks_ge (U := rchB F.src r') (o := pp.length * (T + 1) + 1) s0 hw1 hi hu hb T 0 (Nat.zero_le _) (by omega)
      have g2 := capPeople_nonneg (U := rchB F.src r') (s := pp.length * (T + 1)) pp 0 ok.people
      have g3 : sumL pp ≤ F.o := by
        rw [a13]
        unfold capM
        omega
      have h0 := restU_all F.arcs a2.arcs.pos (show restU (fun v => v == pp.length * (T + 1)) F.arcs ≤ 0 by omega)
      have g4 := rch_src b2 (fun j a ha h1 h2 => h0 j a ha (by simp only [h1, a3, beq_self_eq_true]) (by simp only [beq_eq_false_iff_ne]; rw [← a3]; exact h2)) (rk (t * pp.length + i) + 1) _ (by omega) (rchB_iff.1 hu)
      have e1 : (t + 1) * pp.length ≤ T * pp.length := Nat.mul_le_mul_right _ (by omega)
      have e2 : (t + 1) * pp.length = t * pp.length + pp.length := by rw [Nat.add_mul, Nat.one_mul]
      omega
  have hm2 : ∀ (d t i : Nat), t + d ≤ T → i < pp.length → rchB F.src r' (t * pp.length + i) = true → rchB F.src r' ((t + d) * pp.length + i) = true := by
    intro d
    induction d with
    | zero => intro t i _ _ h; exact h
    | succ d ih =>
      intro t i ht hi h
      exact hm1 (t + d) i (by omega) hi (ih t i (by omega) hi h)
  have hlt : ∀ t i, t ≤ T → i < pp.length → t * pp.length + i < pp.length * (T + 1) := by
    intro t i ht hi
    have := Nat.mul_le_mul_right pp.length ht
    omega
  have hge : boundM pp ws (cutM pp.length T r') T ≤ F.o := by
    rw [a13]
    unfold boundM capM
    have h1 : bdPeople (cutM pp.length T r') 0 pp ≤ capPeople (rchB F.src r') (pp.length * (T + 1)) 0 pp := by
      refine bdPeople_le (by rw [← a3]; simp [rchB]) pp 0 ok.people fun i _ hi h0 => ?_
      rw [cutM_at (by omega)] at h0
      have hj := (cutAt_spec (r := r') (R := pp.length) (i := i) T 0).2.2.1 0 (Nat.le_refl _) (by omega)
      simp only [Nat.zero_mul, Nat.zero_add] at hj
      exact rch_neg (by rw [a3]; omega) hj
    have h2 : bdTicks (cutM pp.length T r') ws 0 T ≤ capTicks (rchB F.src r') pp.length (sumL pp) ws (pp.length * (T + 1) + 1) 0 T := by
      refine bdTicks_le s0 hw1 T 0 fun j _ hj x hx hc => ?_
      obtain ⟨x1, x2, x3⟩ := ok.way x hx
      simp only [crossB, Bool.and_eq_true, Bool.or_eq_true, decide_eq_true_eq, beq_iff_eq] at hc
      obtain ⟨c1, c2⟩ := hc
      rw [cutM_at (by omega)] at c1
      obtain ⟨p1, p2, p3, p4⟩ := cutAt_spec (r := r') (R := pp.length) (i := x.1.toNat) T 0
      refine ⟨?_, ?_⟩
      · have hc := p4 (by omega)
        have hu := rch_pos (s := F.src) (by
          rw [a9, a5]
          have := hlt (cutAt r' pp.length x.1.toNat 0 T) x.1.toNat (by omega) (by omega)
          omega) hc
        have := hm2 (j - cutAt r' pp.length x.1.toNat 0 T) _ x.1.toNat (by omega) (by omega) hu
        rw [show cutAt r' pp.length x.1.toNat 0 T + (j - cutAt r' pp.length x.1.toNat 0 T) = j by omega] at this
        exact this
      · unfold wayTo
        by_cases ht : x.2.1 = -1
        · rw [if_pos ht, ← a4]
          exact rch_neg (Ne.symm a2.ne) a10
        · rw [if_neg ht]
          have c3 : (j : Int) + 1 < tmAt (cutM pp.length T r') x.2.1.toNat := by
            rcases c2 with c2 | c2
            · exact absurd c2 ht
            · exact c2
          rw [cutM_at (by omega)] at c3
          have hj := (cutAt_spec (r := r') (R := pp.length) (i := x.2.1.toNat) T 0).2.2.1 (j + 1) (Nat.zero_le _) (by omega)
          have := hlt (j + 1) x.2.1.toNat (by omega) (by omega)
          exact rch_neg (by rw [a3]; omega) hj
    omega
  exact ⟨F, r', a1, a2, a3, a4, a5, a6, a7, a8, a9.trans a5, Int.le_antisymm (hle _) hge, hle, a2.o0, by omega⟩
end Go.Proofs.YtlbgocgocanloaaGreatDoor
