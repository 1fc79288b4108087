/- The flow of rooms, as it is built: plain. -/
import Derived.Test.YtmcjnfghlpnghaaDoorC7
namespace Go.Proofs.YtmcjnfghlpnghaaDoor
open Go.RowKit

def emptyFl (R T : Nat) : Fl := ⟨[], List.replicate (R * (T + 1) + 2) [], R * (T + 1), R * (T + 1) + 1, R, T, 0⟩
def joinPeople (F : Fl) : Nat → List Int → Fl
  | _, [] => F
  | r, n :: l => joinPeople (F.join F.src r n) (r + 1) l
def joinStay (here next : Nat) (all : Int) (F : Fl) : Nat → Nat → Fl
  | _, 0 => F
  | r, k + 1 => joinStay here next all (F.join (here + r) (next + r) all) (r + 1) k
def wayTo (outn next : Nat) (to : Int) : Nat := if to = -1 then outn else next + to.toNat
def joinWays (here next : Nat) (F : Fl) : List Ev → Fl
  | [] => F
  | x :: l => joinWays here next (F.join (here + x.1.toNat) (wayTo F.outn next x.2.1) x.2.2) l
def joinTicks (R : Nat) (all : Int) (ws : List Ev) (F : Fl) : Nat → Nat → Fl
  | _, 0 => F
  | t, k + 1 => joinTicks R all ws (joinWays (t * R) ((t + 1) * R) (joinStay (t * R) ((t + 1) * R) all F 0 R) ws) (t + 1) k
def sumL : List Int → Int
  | [] => 0
  | x :: l => x + sumL l
def builtM (pp : List Int) (ws : List Ev) (T : Nat) : Fl :=
  joinTicks pp.length (sumL pp) ws (joinPeople (emptyFl pp.length T) 0 pp) 0 T
/-- as long as more get out -/
def runM : Nat → Nat → Fl → Option Fl
  | 0, _, _ => none
  | k + 1, f, F =>
    match moreM F f with
    | none => none
    | some none => some F
    | some (some F') => runM k f F'

/-- a flow that is being built: n pairs of arcs -/
structure FlSh (V s o R T n : Nat) (F : Fl) : Prop where
  adjN : F.adj.length = V
  src : F.src = s
  outn : F.outn = o
  rooms : F.rooms = R
  ticks : F.ticks = T
  arcsN : F.arcs.length = 2 * n
  o0 : F.o = 0
  arc : ∀ (i : Nat) (a : Arc), F.arcs[i]? = some a → a.fr < V ∧ a.to < V ∧ a.bk < 2 * n
  adj : ∀ (k i : Nat) (l : List Nat), F.adj[k]? = some l → i ∈ l → i < 2 * n

theorem FlSh.empty (R T : Nat) : FlSh (R * (T + 1) + 2) (R * (T + 1)) (R * (T + 1) + 1) R T 0 (emptyFl R T) where
  adjN := by simp [emptyFl]
  src := rfl
  outn := rfl
  rooms := rfl
  ticks := rfl
  arcsN := rfl
  o0 := rfl
  arc := fun i a h => by simp [emptyFl] at h
  adj := fun k i l h hi => by
    simp only [emptyFl, List.getElem?_replicate] at h
    split at h
    · have := Option.some.inj h
      subst this
      simp at hi
    · cases h

theorem FlSh.join {V s o R T n : Nat} {F : Fl} (h : FlSh V s o R T n F) {fr to : Nat} {most : Int} (hf : fr < V) (ht : to < V) : FlSh V s o R T (n + 1) (F.join fr to most) where
  adjN := by simp [Fl.join, h.adjN]
  src := h.src
  outn := h.outn
  rooms := h.rooms
  ticks := h.ticks
  arcsN := by simp [Fl.join, h.arcsN]; omega
  o0 := h.o0
  arc := fun i a ha => by
    simp only [Fl.join] at ha
    have hl := h.arcsN
    rcases Nat.lt_or_ge i F.arcs.length with hi | hi
    · rw [List.getElem?_append_left hi] at ha
      have := h.arc i a ha
      omega
    · rw [List.getElem?_append_right hi] at ha
      rcases hj : i - F.arcs.length with _ | _ | j
      · rw [hj] at ha
        simp at ha
        subst ha
        simp only
        omega
      · rw [hj] at ha
        simp at ha
        subst ha
        simp only
        omega
      · rw [hj] at ha
        simp at ha
  adj := fun k i l hk hi => by
    simp only [Fl.join] at hk
    have hl := h.arcsN
    have one : ∀ j : Nat, i ∈ F.adj[j]?.getD [] → i < 2 * n := by
      intro j hj
      rcases hq : F.adj[j]? with _ | l'
      · rw [hq] at hj
        simp at hj
      · rw [hq] at hj
        exact h.adj j i l' hq hj
    rw [List.getElem?_set] at hk
    split at hk
    · split at hk
      · have := Option.some.inj hk
        subst this
        rcases List.mem_append.1 hi with h1 | h1
        · have := one to h1
          omega
        · simp at h1
          omega
      · cases hk
    · rw [List.getElem?_set] at hk
      split at hk
      · split at hk
        · have := Option.some.inj hk
          subst this
          rcases List.mem_append.1 hi with h1 | h1
          · have := one fr h1
            omega
          · simp at h1
            omega
        · cases hk
      · have := h.adj k i l hk hi
        omega

theorem FlSh.ok {V s o R T n : Nat} {F : Fl} (h : FlSh V s o R T n F) (hs : s < V) (ho : o < V) (hV : V ≤ 1000) (hn : n ≤ 5000) : FlOk F where
  arc := fun i a ha => by
    have := h.arc i a ha
    rw [h.adjN, h.arcsN]
    exact this
  adj := fun k i l hk hi => by
    rw [h.arcsN]
    exact h.adj k i l hk hi
  src := by rw [h.src, h.adjN]; exact hs
  outn := by rw [h.outn, h.adjN]; exact ho
  few := by rw [h.adjN]; exact hV
  few' := by rw [h.arcsN]; omega

/-- right rooms -/
structure RoomsOk (pp : List Int) (ws : List Ev) : Prop where
  some_ : 1 ≤ pp.length
  few : pp.length ≤ 6
  fewW : ws.length ≤ 16
  people : ∀ x ∈ pp, 0 ≤ x ∧ x ≤ 10000
  ways : ∀ x ∈ ws, 0 ≤ x.1 ∧ x.1 < pp.length ∧ (x.2.1 = -1 ∨ 0 ≤ x.2.1 ∧ x.2.1 < pp.length) ∧ x.1 ≠ x.2.1 ∧ 1 ≤ x.2.2 ∧ x.2.2 ≤ 10000

theorem unlessE_zero {b : Bool} {e : Int} (he : e ≠ 0) : unlessE b e = 0 ↔ b = true := by cases b <;> simp [unlessE, he]
theorem wayE_zero {np : Nat} {x : Ev} (h : wayE np x = 0) : 0 ≤ x.1 ∧ x.1 < np ∧ (x.2.1 = -1 ∨ 0 ≤ x.2.1 ∧ x.2.1 < np) ∧ x.1 ≠ x.2.1 ∧ 1 ≤ x.2.2 ∧ x.2.2 ≤ 10000 := by
  have h3 : ∀ a b c : Int, firstE [a, b, c] = 0 → a = 0 ∧ b = 0 ∧ c = 0 := by
    intro a b c h
    simp only [firstE] at h
    split at h
    · split at h
      · split at h <;> simp_all
      · contradiction
    · contradiction
  obtain ⟨h1, h2, h3⟩ := h3 _ _ _ h
  rw [unlessE_zero (by omega)] at h1 h2 h3
  simp only [isRoomB, isCrowdB, withinB, Bool.and_eq_true, Bool.or_eq_true, decide_eq_true_eq, beq_iff_eq, bne_iff_ne, ne_eq] at h1 h2 h3
  omega
theorem waysGo_zero {np : Nat} : ∀ (l : List Ev) (i : Nat), (waysGo np l i).2 = 0 → ∀ x ∈ l, wayE np x = 0
  | [], _, _, x, hx => by simp at hx
  | y :: l, i, h, x, hx => by
    unfold waysGo at h
    split at h
    · rename_i hy
      rcases List.mem_cons.1 hx with rfl | hx
      · exact hy
      · exact waysGo_zero l (i + 1) h x hx
    · rename_i hy
      exact absurd h hy
theorem roomsOk_of {pp : List Int} {ws : List Ev} (h : (roomsM pp ws).2 = 0) : RoomsOk pp ws := by
  unfold roomsM at h
  split at h
  · simp at h
  · rename_i h0
    split at h
    · rename_i h1
      split at h
      · simp at h
      · rename_i h2
        have hw := waysGo_zero ws 0 h
        refine ⟨by omega, h1.1, h1.2, ?_, fun x hx => wayE_zero (hw x hx)⟩
        have h3 := idxGo_nonneg notCrowdB pp 0
        rw [decide_eq_false h2] at h3
        intro x hx
        have h4 := List.any_eq_false.1 h3.symm x hx
        simp only [notCrowdB, isCrowdB, withinB, Bool.not_eq_true', Bool.not_eq_false, Bool.and_eq_true, decide_eq_true_eq] at h4
        simpa using h4
    · simp at h

theorem pushM_ok {F : Fl} {y : List Int} {d : Int} : ∀ (f at_ : Nat) (arcs arcs' : List Arc), FlOk { F with arcs := arcs } → pushM F.src y d f at_ arcs = some arcs' → FlOk { F with arcs := arcs' }
  | f, at_, arcs, arcs', ok, h => by
    unfold pushM at h
    split at h
    · rw [← Option.some.inj h]
      exact ok
    · cases f with
      | zero => cases h
      | succ f =>
        simp only at h
        split at h
        · split at h
          · cases h
          · split at h
            · exact pushM_ok f _ _ _ ((ok.addLf _ _).addLf _ _) h
            · cases h
        · cases h

theorem moreM_ok {F F' : Fl} {f : Nat} (ok : FlOk F) (h : moreM F f = some (some F')) : FlOk F' := by
  unfold moreM at h
  split at h
  · cases h
  · split at h
    · cases h
    · split at h
      · cases h
      · split at h
        · cases h
        · rename_i arcs hp
          split at h
          · have := Option.some.inj (Option.some.inj h)
            subst this
            have h1 := pushM_ok (F := F) f _ _ _ ok hp
            exact ⟨h1.arc, h1.adj, h1.src, h1.outn, h1.few, h1.few'⟩
          · cases h

theorem more_any (w : World) (B g : Nat) (F : Fl) (h : FlowAt w B g F) (ok : FlOk F) (f : Nat) (x : Option Fl) (hm : moreM F f = some x) :
    Calls Tryd.prog 141 #[.pointer (some ⟨g, 0, none⟩)] w (MorePost w B g F x) := by
  unfold moreM at hm
  split at hm
  · cases hm
  · rename_i y hy
    split at hm
    · rename_i hn
      rw [← Option.some.inj hm]
      exact more_no w B g F h ok f y hy hn
    · rename_i hn
      split at hm
      · cases hm
      · rename_i d hd
        split at hm
        · cases hm
        · rename_i arcs hp
          split at hm
          · rename_i ho
            rw [← Option.some.inj hm]
            exact more_yes w B g F h ok f y hy hn d hd arcs hp ho
          · cases hm
end Go.Proofs.YtmcjnfghlpnghaaDoor
