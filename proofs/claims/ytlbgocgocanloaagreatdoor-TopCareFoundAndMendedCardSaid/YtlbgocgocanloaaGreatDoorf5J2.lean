/- No fewer beams explain it: plain. -/
import Derived.Test.YtlbgocgocanloaaGreatDoorf5K1
import Derived.Test.YtlbgocgocanloaaGreatDoorf5Z4
namespace Go.Proofs.YtlbgocgocanloaaGreatDoor
theorem fE_iff {bm : Int} {S : List Int} {x last : Int} : fE bm S x last = 0 ↔ (0 ≤ x ∧ x < bm) ∧ last < x ∧ x ∈ S := by
  have hS : hasI S x = true ↔ x ∈ S := by simp [hasI]
  rw [← hS]
  unfold fE
  cases h1 : withinB x 0 (bm - 1) <;> cases h2 : hasI S x <;> by_cases h3 : last < x <;> simp [firstE, unlessE, h3] <;> simp [withinB] at h1 <;> omega
theorem faultGo_zero {bm : Int} {S : List Int} : ∀ {bs : List Int} {last : Int}, faultGo bm S bs last = 0 ↔ bs.Pairwise (· < ·) ∧ ∀ x ∈ bs, (0 ≤ x ∧ x < bm) ∧ last < x ∧ x ∈ S
  | [], last => by simp [faultGo]
  | x :: bs, last => by
    rw [faultGo, List.pairwise_cons]
    by_cases h : fE bm S x last = 0
    · rw [if_pos h, faultGo_zero]
      have hx := fE_iff.1 h
      constructor
      · rintro ⟨h1, h2⟩
        refine ⟨⟨fun y hy => (h2 y hy).2.1, h1⟩, fun y hy => ?_⟩
        rcases List.mem_cons.1 hy with rfl | hy
        · exact hx
        · have := h2 y hy
          exact ⟨this.1, by omega, this.2.2⟩
      · rintro ⟨⟨h1, h2⟩, h3⟩
        exact ⟨h2, fun y hy => ⟨(h3 y (by simp [hy])).1, h1 y hy, (h3 y (by simp [hy])).2.2⟩⟩
    · rw [if_neg h]
      constructor
      · exact fun h0 => absurd h0 h
      · rintro ⟨_, h3⟩
        exact absurd (fE_iff.2 (h3 x (by simp))) h
theorem faults_zero {bm : Int} {l : List Rg} {S bs : List Int} : faultsM bm l S bs = 0 ↔ faultGo bm S bs (-1) = 0 ∧ exB l bs = true := by
  unfold faultsM exB
  by_cases h : faultGo bm S bs (-1) = 0
  · rw [if_pos h]
    cases l.any (missB bs) <;> simp [h]
  · rw [if_neg h]
    simp [h]
theorem exB_mono {l : List Rg} {T U : List Int} (h : ∀ t ∈ T, t ∈ U) (hT : exB l T = true) : exB l U = true := by
  rw [exB_iff] at hT ⊢
  intro r hr
  refine missB_of fun hw => ?_
  obtain ⟨t, ht, g⟩ := missB_no (hT r hr) hw
  exact ⟨t, h t ht, g⟩
theorem susp_go {l : List Rg} {bm : Nat} : faultGo bm (suspK l bm) (suspK l bm) (-1) = 0 := faultGo_zero.2 ⟨suspK_sorted l bm, fun x hx => by
  have := suspK_in x hx
  exact ⟨this, by omega, hx⟩⟩
/-- a least set: it is accepted, all suspects are, and nothing with fewer beams -/
theorem explained_some {l : List Rg} (hl : ∀ r ∈ l, 0 ≤ r.1 ∧ r.1 ≤ r.2.1) {bm : Nat} {T : List Int} (h : leastM l bm = some T) :
    faultsM bm l (suspK l bm) (suspK l bm) = 0 ∧ faultsM bm l (suspK l bm) T = 0 ∧ ∀ bs, faultsM bm l (suspK l bm) bs = 0 → T.length ≤ bs.length := by
  obtain ⟨h1, h2, h3⟩ := leastM_some hl bm h
  refine ⟨faults_zero.2 ⟨susp_go, exB_mono (fun t ht => h1.subset ht) h2⟩, faults_zero.2 ⟨faultGo_zero.2 ⟨(suspK_sorted l bm).sublist h1, fun x hx => ?_⟩, h2⟩, fun bs hb => ?_⟩
  · have hS := h1.subset hx
    have := suspK_in x hS
    exact ⟨this, by omega, hS⟩
  · obtain ⟨g1, g2⟩ := faults_zero.1 hb
    obtain ⟨g3, g4⟩ := faultGo_zero.1 g1
    exact h3 bs (sub_of_sorted _ _ (suspK_sorted l bm) g3 fun t ht => (g4 t ht).2.2) g2
theorem rdGo_ok {bm : Int} : ∀ {l : List Rg}, rdGo bm l = 0 → ∀ r ∈ l, 0 ≤ r.1 ∧ r.1 ≤ r.2.1
  | [], _, _, h => by simp at h
  | a :: l, h, r, hr => by
    rw [rdGo] at h
    split at h
    · rename_i h0
      rcases List.mem_cons.1 hr with rfl | hr
      · unfold rdE at h0
        split at h0
        · rename_i h1
          split at h0
          · rename_i h2
            simp [withinB] at h1
            omega
          · cases h0
        · cases h0
      · exact rdGo_ok h r hr
    · rename_i h0
      exact absurd h h0
theorem recM_ok {bm : Int} {l : List Rg} (h : recM bm l = 0) : ∀ r ∈ l, 0 ≤ r.1 ∧ r.1 ≤ r.2.1 := by
  unfold recM at h
  split at h
  · split at h
    · exact rdGo_ok h
    · cases h
  · cases h
end Go.Proofs.YtlbgocgocanloaaGreatDoor

/- Windows for jobs: both searches find the same first ones, and more hours do no harm: plain. -/
namespace Go.Proofs.YtlbgocgocanloaaGreatDoor
/-- a job: its hours, its first and its last window -/
abbrev Jb := Int × Int × Int
def atI (l : List Int) (w : Int) : Int := l[w.toNat]?.getD 0
def takeI (l : List Int) (w h : Int) : List Int := l.set w.toNat (atI l w - h)
/-- the error of a window for a job -/
def jobE (n : Nat) (left : List Int) (j : Jb) (w : Int) : Int :=
  if withinB w 0 ((n : Int) - 1) = true then (if withinB w j.2.1 j.2.2 = true then (if atI left w < j.1 then 16 else 0) else 25) else 6
def placedGo (n : Nat) : List Int → List Jb → List Int → Int
  | left, j :: js, w :: ws => if jobE n left j w = 0 then placedGo n (takeI left w j.1) js ws else jobE n left j w
  | _, _, _ => 0
/-- the first windows that are accepted for jobs -/
def placeM : List Jb → List Int → Option (List Int)
  | [], _ => some []
  | j :: js, left => (List.range (j.2.2 + 1 - j.2.1).toNat).findSome? fun (d : Nat) =>
      if atI left (j.2.1 + (d : Int)) < j.1 then none else (placeM js (takeI left (j.2.1 + (d : Int)) j.1)).map (fun l => (j.2.1 + (d : Int)) :: l)
def JobOk (n : Nat) (j : Jb) : Prop := 0 ≤ j.2.1 ∧ j.2.1 ≤ j.2.2 ∧ j.2.2 < n
theorem place_some {n : Nat} : ∀ (js : List Jb) (left ws : List Int), (∀ j ∈ js, JobOk n j) → placeM js left = some ws → ws.length = js.length ∧ placedGo n left js ws = 0
  | [], left, ws, _, h => by
    simp [placeM] at h
    subst h
    exact ⟨rfl, rfl⟩
  | j :: js, left, ws, hok, h => by
    obtain ⟨o1, o2, o3⟩ := hok j (by simp)
    rw [placeM] at h
    obtain ⟨d, hd, h⟩ := List.exists_of_findSome?_eq_some h
    rw [List.mem_range] at hd
    by_cases hlt : atI left (j.2.1 + (d : Int)) < j.1
    · rw [if_pos hlt] at h
      cases h
    · rw [if_neg hlt] at h
      obtain ⟨l, hl, rfl⟩ := Option.map_eq_some_iff.1 h
      obtain ⟨h1, h2⟩ := place_some js _ l (fun q hq => hok q (by simp [hq])) hl
      refine ⟨by simp [h1], ?_⟩
      have hj : jobE n left j (j.2.1 + (d : Int)) = 0 := by
        unfold jobE
        rw [if_pos (by simp [withinB]; omega), if_pos (by simp [withinB]; omega), if_neg hlt]
      rw [placedGo, if_pos hj]
      exact h2
end Go.Proofs.YtlbgocgocanloaaGreatDoor

/- Work: its error, and what is accepted: plain. -/
namespace Go.Proofs.YtlbgocgocanloaaGreatDoor
def badHr (n : Int) : Bool := !withinB n 0 1000
/-- the error of a job -/
def jbE (nw : Nat) (j : Jb) : Int := if (decide (0 < j.1) && withinB j.1 0 1000) = true then (if (withinB j.2.1 0 ((nw : Int) - 1) && withinB j.2.2 0 ((nw : Int) - 1)) = true then (if j.2.1 ≤ j.2.2 then 0 else 9) else 6) else 2
def jbGo (nw : Nat) : List Jb → Int
  | [] => 0
  | j :: l => if jbE nw j = 0 then jbGo nw l else jbE nw j
/-- the error of work -/
def workM (W : List Int) (J : List Jb) : Int := if 0 < W.length then (if W.length ≤ 5 ∧ J.length ≤ 6 then (if W.any badHr = true then 2 else jbGo W.length J) else 8) else 10
theorem jbGo_zero {nw : Nat} : ∀ {l : List Jb}, jbGo nw l = 0 → ∀ j ∈ l, jbE nw j = 0
  | [], _, _, h => by simp at h
  | a :: l, h, j, hj => by
    rw [jbGo] at h
    split at h
    · rename_i h0
      rcases List.mem_cons.1 hj with rfl | hj
      · exact h0
      · exact jbGo_zero h j hj
    · rename_i h0
      exact absurd h h0
theorem jbE_zero {nw : Nat} {j : Jb} (h : jbE nw j = 0) : (1 ≤ j.1 ∧ j.1 ≤ 1000) ∧ JobOk nw j := by
  unfold jbE at h
  split at h
  · rename_i h1
    split at h
    · rename_i h2
      split at h
      · rename_i h3
        simp [withinB] at h1 h2
        refine ⟨by omega, ?_⟩
        unfold JobOk
        omega
      · cases h
    · cases h
  · cases h
theorem workM_zero {W : List Int} {J : List Jb} (h : workM W J = 0) : (1 ≤ W.length ∧ W.length ≤ 5) ∧ J.length ≤ 6 ∧ (∀ x ∈ W, 0 ≤ x ∧ x ≤ 1000) ∧ ∀ j ∈ J, (1 ≤ j.1 ∧ j.1 ≤ 1000) ∧ JobOk W.length j := by
  unfold workM at h
  split at h
  · rename_i h1
    split at h
    · rename_i h2
      split at h
      · cases h
      · rename_i h3
        refine ⟨⟨h1, h2.1⟩, h2.2, fun x hx => ?_, fun j hj => jbE_zero (jbGo_zero h j hj)⟩
        have : ¬ badHr x = true := fun hb => h3 (List.any_eq_true.2 ⟨x, hx, hb⟩)
        simpa [badHr, withinB] using this
    · cases h
  · cases h
end Go.Proofs.YtlbgocgocanloaaGreatDoor
