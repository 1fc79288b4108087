/- Right states stay right: plain. few, and the reference's error of a state. open: the first errors. open at what it does not refuse at once. CheckState and Apply. -/
import Derived.Test.YtmcjnfghlpnghaaDoorK14
import Derived.Test.YtmcjnfghlpnghaaDoorK15
import Derived.Test.YtmcjnfghlpnghaaDoorK16
import Derived.Test.YtmcjnfghlpnghaaDoorK9
namespace Go.Proofs.YtmcjnfghlpnghaaDoor

/-- the error of a state of right doors -/
def stateE (D T S : Int) (s : Tr) : Int :=
  firstE [placeE s.place, unlessE (decide ((s.gates.length : Int) = D) && decide ((s.doors.length : Int) = D)) 10, unlessE (!s.mv || !isOpenB s) 23, unlessE (inPlaceB T S s.place || !hasB s.gates true) 9, unlessE (s.al || !bareB s) 17]

theorem firstE_cons {a : Int} {l : List Int} : firstE (a :: l) = 0 ↔ a = 0 ∧ firstE l = 0 := by
  simp only [firstE]
  split
  · rename_i h; simp [h]
  · rename_i h; simp [h]
theorem firstE_nil : firstE [] = 0 := rfl

structure Right (D : Nat) (T S : Int) (s : Tr) : Prop where
  lg : s.gates.length = D
  ld : s.doors.length = D
  place : placeE s.place = 0
  mv : s.mv = true → isOpenB s = false
  inp : hasB s.gates true = true → inPlaceB T S s.place = true
  bare : s.al = false → bareB s = false

theorem right_iff {D : Nat} {T S : Int} {s : Tr} : stateE D T S s = 0 ↔ Right D T S s := by
  unfold stateE
  simp only [firstE_cons, firstE_nil, and_true]
  rw [unlessE_zero (by omega), unlessE_zero (by omega), unlessE_zero (by omega), unlessE_zero (by omega)]
  constructor
  · rintro ⟨h1, h2, h3, h4, h5⟩
    simp only [Bool.and_eq_true, decide_eq_true_eq] at h2
    refine ⟨by omega, by omega, h1, fun h => ?_, fun h => ?_, fun h => ?_⟩
    · rw [h] at h3; simpa using h3
    · rw [h] at h4; simpa using h4
    · rw [h] at h5; simpa using h5
  · rintro ⟨h1, h2, h3, h4, h5, h6⟩
    refine ⟨h3, by simp [h1, h2], ?_, ?_, ?_⟩
    · cases h : s.mv with
      | false => rfl
      | true => simp [h4 h]
    · cases h : hasB s.gates true with
      | false => simp
      | true => simp [h5 h]
    · cases h : s.al with
      | true => rfl
      | false => simp [h6 h]

theorem hasB_false {l : List Bool} : hasB l true = false ↔ ∀ i : Nat, l[i]?.getD false = false := by
  unfold hasB
  rw [List.any_eq_false]
  constructor
  · intro h i
    rcases Nat.lt_or_ge i l.length with hi | hi
    · have := h l[i] (List.getElem_mem hi)
      rw [List.getElem?_eq_getElem hi, Option.getD_some]
      cases hb : l[i] with
      | false => rfl
      | true => rw [hb] at this; simp at this
    · rw [List.getElem?_eq_none hi]; rfl
  · intro h b hb
    obtain ⟨i, hi, rfl⟩ := List.mem_iff_getElem.1 hb
    have := h i
    rw [List.getElem?_eq_getElem hi, Option.getD_some] at this
    simp [this]

theorem bareGo_false : ∀ {ds gs : List Bool}, bareGo ds gs = false ↔ ∀ i : Nat, ds[i]?.getD false = true → gs[i]?.getD false = true
  | [], gs => by simp [bareGo]
  | d :: ds, gs => by
    have ih := bareGo_false (ds := ds) (gs := gs.tail)
    unfold bareGo
    rw [Bool.or_eq_false_iff, ih]
    have h0 : gs.headD false = gs[0]?.getD false := by cases gs <;> rfl
    have ht : ∀ i : Nat, gs.tail[i]? = gs[i + 1]? := fun i => by cases gs <;> simp
    constructor
    · rintro ⟨h1, h2⟩ i hi
      cases i with
      | zero =>
        have : d = true := by simpa using hi
        rw [this, h0] at h1
        simpa using h1
      | succ i =>
        have := h2 i (by simpa using hi)
        rwa [ht] at this
    · intro h
      refine ⟨?_, fun i hi => ?_⟩
      · cases d with
        | false => rfl
        | true =>
          have := h 0 (by simp)
          rw [h0, this]
          rfl
      · have := h (i + 1) (by simpa using hi)
        rwa [ht]

theorem getD_set {l : List Bool} {d i : Nat} {b : Bool} (hd : d < l.length) : (l.set d b)[i]?.getD false = if i = d then b else l[i]?.getD false := by
  by_cases h : d = i
  · subst h; simp [hd]
  · rw [List.getElem?_set_ne h, if_neg (Ne.symm h)]

theorem bareB_false {s : Tr} : bareB s = false ↔ ∀ i : Nat, s.doors[i]?.getD false = true → s.gates[i]?.getD false = true := bareGo_false
theorem isOpenB_false {s : Tr} : isOpenB s = false ↔ (∀ i : Nat, s.gates[i]?.getD false = false) ∧ ∀ i : Nat, s.doors[i]?.getD false = false := by
  unfold isOpenB
  rw [Bool.or_eq_false_iff, hasB_false, hasB_false]

theorem hasB_true {l : List Bool} : hasB l true = true ↔ ∃ i : Nat, l[i]?.getD false = true := by
  constructor
  · intro h
    refine Classical.byContradiction fun hn => ?_
    have : hasB l true = false := hasB_false.2 fun i => by
      cases hi : l[i]?.getD false with
      | false => rfl
      | true => exact absurd ⟨i, hi⟩ hn
    rw [this] at h
    cases h
  · rintro ⟨i, hi⟩
    cases h : hasB l true with
    | true => rfl
    | false => rw [hasB_false.1 h i] at hi; cases hi

theorem seqE_zero {a b : Int} (h : seqE a b = 0) : a = 0 ∧ b = 0 := by
  unfold seqE at h
  split at h
  · rename_i h0; exact ⟨h0, h⟩
  · rename_i h0; exact absurd h h0

theorem evE_zero {D : Nat} {p d : Bool} {pl dr : Int} (h : evE D p d pl dr = 0) : (p = true → placeE pl = 0) ∧ (d = true → dr.toNat < D) := by
  unfold evE at h
  simp only [firstE_cons, firstE_nil, and_true] at h
  rw [unlessE_zero (by omega), unlessE_zero (by omega), unlessE_zero (by omega)] at h
  obtain ⟨_, h2, h3⟩ := h
  refine ⟨fun hp => ?_, fun hd => ?_⟩
  · rw [hp] at h2
    have : isPlaceB pl = true := by simpa using h2
    unfold placeE
    rw [this]
    rfl
  · rw [hd] at h3
    have : withinB dr 0 ((D : Int) - 1) = true := by simpa using h3
    simp only [withinB, Bool.and_eq_true, decide_eq_true_eq] at this
    omega

/-- **An event that is accepted leaves a right state.** -/
theorem apply_right {D : Nat} {T S : Int} {s : Tr} {k pl dr : Int} (h : Right D T S s) (ha : applyE D T S s k pl dr = 0) : Right D T S (applyS s k pl dr) := by
  obtain ⟨lg, ld, hp, hm, hi, hb⟩ := h
  unfold applyE at ha
  unfold applyS
  split at ha
  · -- leave
    obtain ⟨_, h2⟩ := seqE_zero ha
    unfold leaveE at h2
    simp only [firstE_cons, firstE_nil, and_true] at h2
    rw [unlessE_zero (by omega), unlessE_zero (by omega)] at h2
    have ho : isOpenB s = false := by simpa using h2.2
    exact ⟨lg, ld, hp, fun _ => ho, hi, hb⟩
  · -- stop
    obtain ⟨h1, h2⟩ := seqE_zero ha
    unfold stopE at h2
    simp only [firstE_cons, firstE_nil, and_true] at h2
    rw [unlessE_zero (by omega)] at h2
    have ho := isOpenB_false.1 (hm h2)
    refine ⟨lg, ld, (evE_zero h1).1 rfl, fun h => (by cases h), fun h => ?_, hb⟩
    obtain ⟨i, hi⟩ := hasB_true.1 h
    have hi' : s.gates[i]?.getD false = true := hi
    rw [ho.1 i] at hi'
    cases hi'
  · -- gate
    obtain ⟨h1, h2⟩ := seqE_zero ha
    have hd := (evE_zero h1).2 rfl
    unfold gateE at h2
    simp only [firstE_cons, firstE_nil, and_true] at h2
    rw [unlessE_zero (by omega), unlessE_zero (by omega), unlessE_zero (by omega)] at h2
    obtain ⟨h3, h4, _⟩ := h2
    refine ⟨by simpa using lg, ld, hp, fun h => ?_, fun _ => h4, fun h => bareB_false.2 fun i hi' => ?_⟩
    · have h' : s.mv = true := h
      rw [h'] at h3
      cases h3
    · have := bareB_false.1 (hb h) i hi'
      show (s.gates.set dr.toNat true)[i]?.getD false = true
      rw [getD_set (by rw [lg]; exact hd)]
      split
      · rfl
      · exact this
  · -- bar
    obtain ⟨h1, h2⟩ := seqE_zero ha
    have hd := (evE_zero h1).2 rfl
    unfold barE at h2
    simp only [firstE_cons, firstE_nil, and_true] at h2
    rw [unlessE_zero (by omega), unlessE_zero (by omega)] at h2
    obtain ⟨h3, h4⟩ := h2
    refine ⟨by simpa using lg, ld, hp, fun h => isOpenB_false.2 ⟨fun i => ?_, fun i => ?_⟩, fun h => ?_, fun h => bareB_false.2 fun i hi' => ?_⟩
    · show (s.gates.set dr.toNat false)[i]?.getD false = false
      rw [getD_set (by rw [lg]; exact hd)]
      split
      · rfl
      · exact (isOpenB_false.1 (hm h)).1 i
    · exact (isOpenB_false.1 (hm h)).2 i
    · obtain ⟨i, hi'⟩ := hasB_true.1 h
      have hi2 : (s.gates.set dr.toNat false)[i]?.getD false = true := hi'
      rw [getD_set (by rw [lg]; exact hd)] at hi2
      split at hi2
      · cases hi2
      · exact hi (hasB_true.2 ⟨i, hi2⟩)
    · have h' : s.al = false := h
      have := bareB_false.1 (hb h) i hi'
      show (s.gates.set dr.toNat false)[i]?.getD false = true
      rw [getD_set (by rw [lg]; exact hd)]
      split
      · rename_i he
        have hi2 : s.doors[i]?.getD false = true := hi'
        rw [h', ← he, hi2] at h4
        cases h4
      · exact this
  · -- open
    obtain ⟨h1, h2⟩ := seqE_zero ha
    have hd := (evE_zero h1).2 rfl
    unfold openE at h2
    simp only [firstE_cons, firstE_nil, and_true] at h2
    rw [unlessE_zero (by omega), unlessE_zero (by omega), unlessE_zero (by omega), unlessE_zero (by omega)] at h2
    obtain ⟨h3, _, h5, _⟩ := h2
    refine ⟨lg, by simpa using ld, hp, fun h => ?_, hi, fun h => bareB_false.2 fun i hi' => ?_⟩
    · have h' : s.mv = true := h
      rw [h'] at h3
      cases h3
    · have h' : s.al = false := h
      have hi2 : (s.doors.set dr.toNat true)[i]?.getD false = true := hi'
      rw [getD_set (by rw [ld]; exact hd)] at hi2
      split at hi2
      · rename_i he
        rw [h'] at h5
        rw [he]
        simpa using h5
      · exact bareB_false.1 (hb h) i hi2
  · -- shut
    obtain ⟨h1, h2⟩ := seqE_zero ha
    have hd := (evE_zero h1).2 rfl
    refine ⟨lg, by simpa using ld, hp, fun h => isOpenB_false.2 ⟨(isOpenB_false.1 (hm h)).1, fun i => ?_⟩, hi, fun h => bareB_false.2 fun i hi' => ?_⟩
    · show (s.doors.set dr.toNat false)[i]?.getD false = false
      rw [getD_set (by rw [ld]; exact hd)]
      split
      · rfl
      · exact (isOpenB_false.1 (hm h)).2 i
    · have hi2 : (s.doors.set dr.toNat false)[i]?.getD false = true := hi'
      rw [getD_set (by rw [ld]; exact hd)] at hi2
      split at hi2
      · cases hi2
      · exact bareB_false.1 (hb h) i hi2
  · -- alarm
    exact ⟨lg, ld, hp, hm, hi, fun h => (by cases h)⟩
  · -- calm
    obtain ⟨_, h2⟩ := seqE_zero ha
    unfold calmE at h2
    simp only [firstE_cons, firstE_nil, and_true] at h2
    rw [unlessE_zero (by omega), unlessE_zero (by omega)] at h2
    exact ⟨lg, ld, hp, hm, hi, fun _ => (show bareB s = false by simpa using h2.2)⟩
  · cases ha

theorem begin0_right {D : Nat} {T S place : Int} (hp : placeE place = 0) : Right D T S ⟨false, false, place, List.replicate D false, List.replicate D false⟩ := by
  have h0 : ∀ i : Nat, (List.replicate D false)[i]?.getD false = false := fun i => by
    rcases Nat.lt_or_ge i D with h | h
    · simp [h]
    · rw [List.getElem?_eq_none (by simpa using h)]; rfl
  refine ⟨by simp, by simp, hp, fun h => (by cases h), fun h => ?_, fun _ => bareB_false.2 fun i hi => ?_⟩
  · obtain ⟨i, hi⟩ := hasB_true.1 h
    rw [h0 i] at hi
    cases hi
  · rw [h0 i] at hi
    cases hi
end Go.Proofs.YtmcjnfghlpnghaaDoor

namespace Go.Proofs.YtmcjnfghlpnghaaDoor
open Go.RowKit

theorem few_any (w : World) (Ag Ad : Option Addr) (ng nd cg cd : Nat) (s : Tr) (b : Bool) (hb : (decide ((ng : Int) ≤ 8) && decide ((nd : Int) ≤ 8)) = b) :
    Calls Tryd.prog 39 #[stV s Ag Ad ng nd cg cd] w fun e w' => e = .returned (.bool b) ∧ Below w.heap.size w w' := by
  have hb0 : Below w.heap.size w (w.alloc (.cells #[.bool s.mv, .bool s.al, .int .i64 s.place, .slice Ag ng cg, .slice Ad nd cd] 28)) := (Below.refl _ _).alloc (Nat.le_refl _) _
  by_cases h1 : (ng : Int) ≤ 8
  · by_cases h2 : (nd : Int) ≤ 8
    · have HV : Hid (b = true) := by rw [Hid, ← hb]; simp [h1, h2]
      clear hb
      unfold stV
      go_enter Tryd.func39, Tryd.ntmps39
      go_wp2
      go_ret
      exact ⟨by rw [HV.out]; rfl, hb0⟩
    · have HV : Hid (b = false) := by rw [Hid, ← hb]; simp [h2]
      clear hb
      unfold stV
      go_enter Tryd.func39, Tryd.ntmps39
      go_wp2
      go_ret
      exact ⟨by rw [HV.out]; rfl, hb0⟩
  · have HV : Hid (b = false) := by rw [Hid, ← hb]; simp [h1]
    clear hb
    unfold stV
    go_enter Tryd.func39, Tryd.ntmps39
    go_wp2
    go_ret
    exact ⟨by rw [HV.out]; rfl, hb0⟩

theorem cells3w {W : World} {r t : Nat} {a0 a1 a2 : Value} (h : W.heap[r]? = some (.cells #[a0, a1, a2] t (0, 0))) :
    W.cell? ⟨r, 0, none⟩ = some a0 ∧ W.cell? ⟨r, 1, none⟩ = some a1 ∧ W.cell? ⟨r, 2, none⟩ = some a2 := by
  refine ⟨?_, ?_, ?_⟩ <;> rw [cell_of_row _ _ _ _ _ _ h] <;> rfl

def IntPost (w : World) (x : Int) (e : Ending) (w' : World) : Prop := e = .returned (.int .i64 x) ∧ Below w.heap.size w w'

theorem lone_val (w : World) (B : Nat) (Ag Ad : Option Addr) (ng nd cg cd : Nat) (s : Tr) (b : Bool) (hb : bareB s = b) (h : StAt w B Ag Ad ng nd s) (hg : nd ≤ ng) (hB : B ≤ w.heap.size) :
    Calls Tryd.prog 107 #[stV s Ag Ad ng nd cg cd] w fun e w' => e = .returned (.bool b) ∧ Below w.heap.size w w' := by
  rw [← hb]
  exact lone_any w B Ag Ad ng nd cg cd s h hg hB

set_option maxHeartbeats 4000000 in
theorem StateErr_any (w : World) (B : Nat) (D T S : Int) (Ag Ad : Option Addr) (ng nd cg cd : Nat) (s : Tr) (h : StAt w B Ag Ad ng nd s) (hB : B ≤ w.heap.size) (hT : 0 ≤ T ∧ T ≤ 1000000000) :
    Calls Tryd.prog 40 #[.agg #[.int .i64 D, .int .i64 T, .int .i64 S], stV s Ag Ad ng nd cg cd] w (IntPost w (stateE D T S s)) := by
  obtain ⟨mv, al, pl, gs, ds⟩ := s
  have hb0 : Below w.heap.size w ((w.alloc (.cells #[.int .i64 D, .int .i64 T, .int .i64 S] 23)).alloc (.cells #[.bool mv, .bool al, .int .i64 pl, .slice Ag ng cg, .slice Ad nd cd] 28)) :=
    ((Below.refl _ _).alloc (Nat.le_refl _) _).alloc (by simp) _
  have k0 : ((w.alloc (.cells #[.int .i64 D, .int .i64 T, .int .i64 S] 23)).alloc (.cells #[.bool mv, .bool al, .int .i64 pl, .slice Ag ng cg, .slice Ad nd cd] 28)).heap[w.heap.size]? = some (.cells #[.int .i64 D, .int .i64 T, .int .i64 S] 23 (0, 0)) := by
    rw [heapq_alloc, if_neg (by simp), heapq_alloc, if_pos rfl]
  have k1 : ((w.alloc (.cells #[.int .i64 D, .int .i64 T, .int .i64 S] 23)).alloc (.cells #[.bool mv, .bool al, .int .i64 pl, .slice Ag ng cg, .slice Ad nd cd] 28)).heap[w.heap.size + 1]? = some (.cells #[.bool mv, .bool al, .int .i64 pl, .slice Ag ng cg, .slice Ad nd cd] 28 (0, 0)) := by
    rw [heapq_alloc, if_pos (by simp)]
  have h1 := h.below (hb0.mono hB)
  have ng1 := h.ng1
  have nd1 := h.nd1
  have lg : gs.length = ng := h.lg
  have ld : ds.length = nd := h.ld
  have HS := Lib.hid h1
  have HV : Hid (stateE D T S ⟨mv, al, pl, gs, ds⟩ = firstE [placeE pl, unlessE (decide ((ng : Int) = D) && decide ((nd : Int) = D)) 10, unlessE (!mv || !(hasB gs true || hasB ds true)) 23, unlessE (inPlaceB T S pl || !hasB gs true) 9, unlessE (al || !bareB ⟨mv, al, pl, gs, ds⟩) 17]) := by
    rw [Hid, ← lg, ← ld]
    rfl
  have HB := Lib.hid hb0
  have hs0 : B ≤ ((w.alloc (.cells #[.int .i64 D, .int .i64 T, .int .i64 S] 23)).alloc (.cells #[.bool mv, .bool al, .int .i64 pl, .slice Ag ng cg, .slice Ad nd cd] 28)).heap.size := by simp; omega
  have hs1 : w.heap.size ≤ ((w.alloc (.cells #[.int .i64 D, .int .i64 T, .int .i64 S] 23)).alloc (.cells #[.bool mv, .bool al, .int .i64 pl, .slice Ag ng cg, .slice Ad nd cd] 28)).heap.size := by simp; omega
  obtain ⟨d0, d1, d2⟩ := cells3w k0
  obtain ⟨c0, c1, c2, c3, c4⟩ := cells5 k1
  clear h h1 k0 k1 hb0 lg ld
  simp only [stV]
  go_enter Tryd.func40, Tryd.ntmps40
  go_upto_region 1 with (fail)
  generalize ((w.alloc (.cells #[.int .i64 D, .int .i64 T, .int .i64 S] 23)).alloc (.cells #[.bool mv, .bool al, .int .i64 pl, .slice Ag ng cg, .slice Ad nd cd] 28)) = w0 at *
  have P := fun W => PlaceErr_any pl W
  rcases placeE_cases pl with ⟨p1, p2⟩ | ⟨p1, p2⟩
  · have hp : 0 ≤ pl ∧ pl ≤ 1000000000 := placeE_zero p2
    simp only [p2] at P
    have HP := Lib.hid p2
    clear p1 p2
    by_cases e1 : (ng : Int) = D
    · subst e1
      by_cases e2 : (nd : Int) = (ng : Int)
      · obtain rfl : nd = ng := by omega
        have A1 := fun (W : World) (hW : Below w0.heap.size w0 W) b hb => anyOpen_val Ag nd cg B gs b hb W ng1 HS.out.lg (HS.out.rg.below (hW.mono hs0))
        have A2 := fun (W : World) (hW : Below w0.heap.size w0 W) b hb => anyOpen_val Ad nd cd B ds b hb W nd1 HS.out.ld (HS.out.rd.below (hW.mono hs0))
        have IP := fun (W : World) b hb => InPlace_val (nd : Int) T S pl b hb W hp hT
        have LO := fun (W : World) (hW : Below w0.heap.size w0 W) b hb => lone_val W B Ag Ad nd nd cg cd ⟨mv, al, pl, gs, ds⟩ b hb (HS.out.below (hW.mono hs0)) (Nat.le_refl _) (Nat.le_trans hs0 hW.size)
        simp only [stV] at LO
        have rf := Below.refl w0.heap.size w0
        clear HS ng1 nd1 hp hT
        cases mv
        · cases eo : hasB gs true
          · cases al
            · cases eb : bareB ⟨false, false, pl, gs, ds⟩
              · have EO := Lib.hid eo
                have EB := Lib.hid eb
                go_wp2_with (first | (go_at_call 23; refine (P _).mono ?_; rintro e w' ⟨rfl, rfl⟩) | (go_at_call_of 106 (Value.slice Ag nd cg); refine (A1 _ rf _ eo).mono ?_; rintro e w' ⟨rfl, rfl⟩) | (go_at_call 107; refine (LO _ rf _ eb).mono ?_; rintro e w2 ⟨rfl, hb2⟩))
                go_ret
                exact ⟨by rw [HV.out]; simp [firstE, unlessE, HP.out, EO.out, EB.out], HB.out.trans (hb2.mono hs1)⟩
              · have EO := Lib.hid eo
                have EB := Lib.hid eb
                go_wp2_with (first | (go_at_call 23; refine (P _).mono ?_; rintro e w' ⟨rfl, rfl⟩) | (go_at_call_of 106 (Value.slice Ag nd cg); refine (A1 _ rf _ eo).mono ?_; rintro e w' ⟨rfl, rfl⟩) | (go_at_call 107; refine (LO _ rf _ eb).mono ?_; rintro e w2 ⟨rfl, hb2⟩))
                go_ret
                exact ⟨by rw [HV.out]; simp [firstE, unlessE, HP.out, EO.out, EB.out], HB.out.trans (hb2.mono hs1)⟩
            · have EO := Lib.hid eo
              go_wp2_with (first | (go_at_call 23; refine (P _).mono ?_; rintro e w' ⟨rfl, rfl⟩) | (go_at_call_of 106 (Value.slice Ag nd cg); refine (A1 _ rf _ eo).mono ?_; rintro e w' ⟨rfl, rfl⟩))
              go_ret
              exact ⟨by rw [HV.out]; simp [firstE, unlessE, HP.out, EO.out], HB.out⟩
          · cases ei : inPlaceB T S pl
            · have EO := Lib.hid eo
              have EI := Lib.hid ei
              go_wp2_with (first | (go_at_call 23; refine (P _).mono ?_; rintro e w' ⟨rfl, rfl⟩) | (go_at_call_of 106 (Value.slice Ag nd cg); refine (A1 _ rf _ eo).mono ?_; rintro e w' ⟨rfl, rfl⟩) | (go_at_call 59; refine (IP _ _ ei).mono ?_; rintro e w1 ⟨rfl, hb1⟩; have c0' := kept hb1 c0; have c1' := kept hb1 c1; have c2' := kept hb1 c2; have c3' := kept hb1 c3; have c4' := kept hb1 c4))
              go_ret
              exact ⟨by rw [HV.out]; simp [firstE, unlessE, HP.out, EO.out, EI.out], HB.out.trans (hb1.mono hs1)⟩
            · cases al
              · cases eb : bareB ⟨false, false, pl, gs, ds⟩
                · have EO := Lib.hid eo
                  have EI := Lib.hid ei
                  have EB := Lib.hid eb
                  go_wp2_with (first | (go_at_call 23; refine (P _).mono ?_; rintro e w' ⟨rfl, rfl⟩) | (go_at_call_of 106 (Value.slice Ag nd cg); refine (A1 _ rf _ eo).mono ?_; rintro e w' ⟨rfl, rfl⟩) | (go_at_call 59; refine (IP _ _ ei).mono ?_; rintro e w1 ⟨rfl, hb1⟩; have c0' := kept hb1 c0; have c1' := kept hb1 c1; have c2' := kept hb1 c2; have c3' := kept hb1 c3; have c4' := kept hb1 c4) | (go_at_call 107; refine (LO _ hb1 _ eb).mono ?_; rintro e w2 ⟨rfl, hb2⟩))
                  go_ret
                  exact ⟨by rw [HV.out]; simp [firstE, unlessE, HP.out, EO.out, EI.out, EB.out], (HB.out.trans (hb1.mono hs1)).trans (hb2.mono (Nat.le_trans hs1 hb1.size))⟩
                · have EO := Lib.hid eo
                  have EI := Lib.hid ei
                  have EB := Lib.hid eb
                  go_wp2_with (first | (go_at_call 23; refine (P _).mono ?_; rintro e w' ⟨rfl, rfl⟩) | (go_at_call_of 106 (Value.slice Ag nd cg); refine (A1 _ rf _ eo).mono ?_; rintro e w' ⟨rfl, rfl⟩) | (go_at_call 59; refine (IP _ _ ei).mono ?_; rintro e w1 ⟨rfl, hb1⟩; have c0' := kept hb1 c0; have c1' := kept hb1 c1; have c2' := kept hb1 c2; have c3' := kept hb1 c3; have c4' := kept hb1 c4) | (go_at_call 107; refine (LO _ hb1 _ eb).mono ?_; rintro e w2 ⟨rfl, hb2⟩))
                  go_ret
                  exact ⟨by rw [HV.out]; simp [firstE, unlessE, HP.out, EO.out, EI.out, EB.out], (HB.out.trans (hb1.mono hs1)).trans (hb2.mono (Nat.le_trans hs1 hb1.size))⟩
              · have EO := Lib.hid eo
                have EI := Lib.hid ei
                go_wp2_with (first | (go_at_call 23; refine (P _).mono ?_; rintro e w' ⟨rfl, rfl⟩) | (go_at_call_of 106 (Value.slice Ag nd cg); refine (A1 _ rf _ eo).mono ?_; rintro e w' ⟨rfl, rfl⟩) | (go_at_call 59; refine (IP _ _ ei).mono ?_; rintro e w1 ⟨rfl, hb1⟩; have c0' := kept hb1 c0; have c1' := kept hb1 c1; have c2' := kept hb1 c2; have c3' := kept hb1 c3; have c4' := kept hb1 c4))
                go_ret
                exact ⟨by rw [HV.out]; simp [firstE, unlessE, HP.out, EO.out, EI.out], HB.out.trans (hb1.mono hs1)⟩
        · cases eo : hasB gs true
          · cases ed : hasB ds true
            · cases al
              · cases eb : bareB ⟨true, false, pl, gs, ds⟩
                · have EO := Lib.hid eo
                  have ED := Lib.hid ed
                  have EB := Lib.hid eb
                  go_wp2_with (first | (go_at_call 23; refine (P _).mono ?_; rintro e w' ⟨rfl, rfl⟩) | (go_at_call_of 106 (Value.slice Ag nd cg); refine (A1 _ rf _ eo).mono ?_; rintro e w' ⟨rfl, rfl⟩) | (go_at_call_of 106 (Value.slice Ad nd cd); refine (A2 _ rf _ ed).mono ?_; rintro e w' ⟨rfl, rfl⟩) | (go_at_call 107; refine (LO _ rf _ eb).mono ?_; rintro e w2 ⟨rfl, hb2⟩))
                  go_ret
                  exact ⟨by rw [HV.out]; simp [firstE, unlessE, HP.out, EO.out, ED.out, EB.out], HB.out.trans (hb2.mono hs1)⟩
                · have EO := Lib.hid eo
                  have ED := Lib.hid ed
                  have EB := Lib.hid eb
                  go_wp2_with (first | (go_at_call 23; refine (P _).mono ?_; rintro e w' ⟨rfl, rfl⟩) | (go_at_call_of 106 (Value.slice Ag nd cg); refine (A1 _ rf _ eo).mono ?_; rintro e w' ⟨rfl, rfl⟩) | (go_at_call_of 106 (Value.slice Ad nd cd); refine (A2 _ rf _ ed).mono ?_; rintro e w' ⟨rfl, rfl⟩) | (go_at_call 107; refine (LO _ rf _ eb).mono ?_; rintro e w2 ⟨rfl, hb2⟩))
                  go_ret
                  exact ⟨by rw [HV.out]; simp [firstE, unlessE, HP.out, EO.out, ED.out, EB.out], HB.out.trans (hb2.mono hs1)⟩
              · have EO := Lib.hid eo
                have ED := Lib.hid ed
                go_wp2_with (first | (go_at_call 23; refine (P _).mono ?_; rintro e w' ⟨rfl, rfl⟩) | (go_at_call_of 106 (Value.slice Ag nd cg); refine (A1 _ rf _ eo).mono ?_; rintro e w' ⟨rfl, rfl⟩) | (go_at_call_of 106 (Value.slice Ad nd cd); refine (A2 _ rf _ ed).mono ?_; rintro e w' ⟨rfl, rfl⟩))
                go_ret
                exact ⟨by rw [HV.out]; simp [firstE, unlessE, HP.out, EO.out, ED.out], HB.out⟩
            · have EO := Lib.hid eo
              have ED := Lib.hid ed
              go_wp2_with (first | (go_at_call 23; refine (P _).mono ?_; rintro e w' ⟨rfl, rfl⟩) | (go_at_call_of 106 (Value.slice Ag nd cg); refine (A1 _ rf _ eo).mono ?_; rintro e w' ⟨rfl, rfl⟩) | (go_at_call_of 106 (Value.slice Ad nd cd); refine (A2 _ rf _ ed).mono ?_; rintro e w' ⟨rfl, rfl⟩))
              go_ret
              exact ⟨by rw [HV.out]; simp [firstE, unlessE, HP.out, EO.out, ED.out], HB.out⟩
          · have EO := Lib.hid eo
            go_wp2_with (first | (go_at_call 23; refine (P _).mono ?_; rintro e w' ⟨rfl, rfl⟩) | (go_at_call_of 106 (Value.slice Ag nd cg); refine (A1 _ rf _ eo).mono ?_; rintro e w' ⟨rfl, rfl⟩))
            go_ret
            exact ⟨by rw [HV.out]; simp [firstE, unlessE, HP.out, EO.out], HB.out⟩
      · have E1 : Hid (decide ((nd : Int) = (ng : Int)) = false) := by simp [Hid, e2]
        have e2' : ((nd : Int) != (ng : Int)) = true := bne_iff_ne.2 e2
        clear e2 HS
        go_wp2_with (go_at_call 23; refine (P _).mono ?_; rintro e w' ⟨rfl, rfl⟩)
        go_ret
        exact ⟨by rw [HV.out]; simp [firstE, unlessE, HP.out, E1.out], HB.out⟩
    · have E1 : Hid (decide ((ng : Int) = D) = false) := by simp [Hid, e1]
      have e1' : ((ng : Int) != D) = true := bne_iff_ne.2 e1
      clear e1 HS
      go_wp2_with (go_at_call 23; refine (P _).mono ?_; rintro e w' ⟨rfl, rfl⟩)
      go_ret
      exact ⟨by rw [HV.out]; simp [firstE, unlessE, HP.out, E1.out], HB.out⟩
  · simp only [p2] at P
    have HP := Lib.hid p2
    clear p1 p2 HS
    go_wp2_with (go_at_call 23; refine (P _).mono ?_; rintro e w' ⟨rfl, rfl⟩)
    go_ret
    exact ⟨by rw [HV.out]; simp [firstE, HP.out], HB.out⟩
end Go.Proofs.YtmcjnfghlpnghaaDoor

namespace Go.Proofs.YtmcjnfghlpnghaaDoor
open Go.RowKit

/-- the errors that open finds first -/
def preE (D T S pl : Int) (ng nd : Nat) : Int := firstE [doorsE D T S, placeE pl, unlessE (decide ((ng : Int) = D) && decide ((nd : Int) = D)) 10]

def OpenNo (w : World) (E : Int) (e : Ending) (w' : World) : Prop := e = .returned (.tuple #[.pointer none, .int .i64 E]) ∧ Below w.heap.size w w'

set_option maxHeartbeats 4000000 in
theorem openT_no (w : World) (D T S : Int) (Ag Ad : Option Addr) (ng nd cg cd : Nat) (s : Tr) (_n1 : ng ≤ 1000000000) (_n2 : nd ≤ 1000000000) (h0 : preE D T S s.place ng nd ≠ 0) :
    Calls Tryd.prog 108 #[.agg #[.int .i64 D, .int .i64 T, .int .i64 S], stV s Ag Ad ng nd cg cd] w (OpenNo w (preE D T S s.place ng nd)) := by
  obtain ⟨mv, al, pl, gs, ds⟩ := s
  have h0' : preE D T S pl ng nd ≠ 0 := h0
  show Calls Tryd.prog 108 #[.agg #[.int .i64 D, .int .i64 T, .int .i64 S], stV ⟨mv, al, pl, gs, ds⟩ Ag Ad ng nd cg cd] w (OpenNo w (preE D T S pl ng nd))
  clear h0
  have hb0 : Below w.heap.size w ((w.alloc (.cells #[.int .i64 D, .int .i64 T, .int .i64 S] 23)).alloc (.cells #[.bool mv, .bool al, .int .i64 pl, .slice Ag ng cg, .slice Ad nd cd] 28)) :=
    ((Below.refl _ _).alloc (Nat.le_refl _) _).alloc (by simp) _
  have k0 : ((w.alloc (.cells #[.int .i64 D, .int .i64 T, .int .i64 S] 23)).alloc (.cells #[.bool mv, .bool al, .int .i64 pl, .slice Ag ng cg, .slice Ad nd cd] 28)).heap[w.heap.size]? = some (.cells #[.int .i64 D, .int .i64 T, .int .i64 S] 23 (0, 0)) := by
    rw [heapq_alloc, if_neg (by simp), heapq_alloc, if_pos rfl]
  have k1 : ((w.alloc (.cells #[.int .i64 D, .int .i64 T, .int .i64 S] 23)).alloc (.cells #[.bool mv, .bool al, .int .i64 pl, .slice Ag ng cg, .slice Ad nd cd] 28)).heap[w.heap.size + 1]? = some (.cells #[.bool mv, .bool al, .int .i64 pl, .slice Ag ng cg, .slice Ad nd cd] 28 (0, 0)) := by
    rw [heapq_alloc, if_pos (by simp)]
  obtain ⟨d0, d1, d2⟩ := cells3w k0
  obtain ⟨c0, c1, c2, c3, c4⟩ := cells5 k1
  have HB := Lib.hid hb0
  have hs1 : w.heap.size ≤ ((w.alloc (.cells #[.int .i64 D, .int .i64 T, .int .i64 S] 23)).alloc (.cells #[.bool mv, .bool al, .int .i64 pl, .slice Ag ng cg, .slice Ad nd cd] 28)).heap.size := by simp; omega
  clear k0 k1 hb0
  simp only [stV]
  have hne : (preE D T S pl ng nd != 0) = true := bne_iff_ne.2 h0'
  go_enter Tryd.func108, Tryd.ntmps108
  go_upto_region 1 with (fail)
  generalize ((w.alloc (.cells #[.int .i64 D, .int .i64 T, .int .i64 S] 23)).alloc (.cells #[.bool mv, .bool al, .int .i64 pl, .slice Ag ng cg, .slice Ad nd cd] 28)) = w0 at *
  have x0 := fun x : Xt w0 => x.cell d0
  have x1 := fun x : Xt w0 => x.cell d1
  have x2 := fun x : Xt w0 => x.cell d2
  have y2 := fun x : Xt w0 => x.cell c2
  have y3 := fun x : Xt w0 => x.cell c3
  have y4 := fun x : Xt w0 => x.cell c4
  by_cases e1 : (ng : Int) = D
  · have e1' : ((ng : Int) == D) = true := beq_iff_eq.2 e1
    by_cases e2 : (nd : Int) = D
    · have e2' : ((nd : Int) == D) = true := beq_iff_eq.2 e2
      have HV : Hid (preE D T S pl ng nd = firstE [doorsE D T S, placeE pl, unlessE true 10]) := by simp [Hid, preE, e1, e2]
      rw [HV.out] at hne
      clear e1 e2
      refine wp_region_cut [] [0, 1, 2, 3, 4, 5, 6, 7, 8, 9, 10, 11, 12, 13, 14, 15, 16, 17, 18, 19] 20 [21, 22] (fun w' => ∃ x : Xt w0, w' = x.1) (by kernel_rfl) (by kernel_rfl) ⟨⟨w0.drew, (Below.refl _ _).drew⟩, rfl⟩ ?_
      simp only [opsAt_nil, opsAt_cons, consOpt_some, List.getElem?_toArray, List.getElem?_cons_zero, List.getElem?_cons_succ]
      refine wpQuiet_nil ?_
      show wpQuiet _ _ _ _ _ _
      repeat (go_big_quiet_step (first | (go_at_call 36; exact Xt.calls (CheckDoors_any _ _ _ _)) | (go_at_call 126; exact Xt.calls_same (placeErr_any _ _)) | (go_at_call 92; exact Xt.calls_same (unless_any _ _ _))))
      refine wpQuiet_nil ?_
      intro w1 hx
      have hb1 := Xt.below hx
      clear hx x0 x1 x2 y2 y3 y4
      go_wp2_with (go_at_call 91; refine (first3 _ _ _ _).mono ?_; rintro e w' ⟨rfl, rfl⟩)
      refine onlyNormal_mk ?_
      go_wp2
      go_ret2
      exact ⟨by rw [HV.out]; rfl, (HB.out.trans (hb1.mono hs1)).alloc (Nat.le_trans hs1 hb1.size) _⟩
    · have e2' : ((nd : Int) == D) = false := beq_eq_false_iff_ne.2 e2
      have HV : Hid (preE D T S pl ng nd = firstE [doorsE D T S, placeE pl, unlessE false 10]) := by simp [Hid, preE, e2]
      rw [HV.out] at hne
      clear e1 e2
      refine wp_region_cut [] [0, 1, 2, 3, 4, 5, 6, 7, 8, 9, 10, 11, 12, 13, 14, 15, 16, 17, 18, 19] 20 [21, 22] (fun w' => ∃ x : Xt w0, w' = x.1) (by kernel_rfl) (by kernel_rfl) ⟨⟨w0.drew, (Below.refl _ _).drew⟩, rfl⟩ ?_
      simp only [opsAt_nil, opsAt_cons, consOpt_some, List.getElem?_toArray, List.getElem?_cons_zero, List.getElem?_cons_succ]
      refine wpQuiet_nil ?_
      show wpQuiet _ _ _ _ _ _
      repeat (go_big_quiet_step (first | (go_at_call 36; exact Xt.calls (CheckDoors_any _ _ _ _)) | (go_at_call 126; exact Xt.calls_same (placeErr_any _ _)) | (go_at_call 92; exact Xt.calls_same (unless_any _ _ _))))
      refine wpQuiet_nil ?_
      intro w1 hx
      have hb1 := Xt.below hx
      clear hx x0 x1 x2 y2 y3 y4
      go_wp2_with (go_at_call 91; refine (first3 _ _ _ _).mono ?_; rintro e w' ⟨rfl, rfl⟩)
      refine onlyNormal_mk ?_
      go_wp2
      go_ret2
      exact ⟨by rw [HV.out]; rfl, (HB.out.trans (hb1.mono hs1)).alloc (Nat.le_trans hs1 hb1.size) _⟩
  · have e1' : ((ng : Int) == D) = false := beq_eq_false_iff_ne.2 e1
    have HV : Hid (preE D T S pl ng nd = firstE [doorsE D T S, placeE pl, unlessE false 10]) := by simp [Hid, preE, e1]
    rw [HV.out] at hne
    clear e1
    refine wp_region_cut [] [0, 1, 2, 3, 4, 5, 6, 7, 8, 9, 10, 11, 12, 13, 14, 15, 16, 17, 18, 19] 20 [21, 22] (fun w' => ∃ x : Xt w0, w' = x.1) (by kernel_rfl) (by kernel_rfl) ⟨⟨w0.drew, (Below.refl _ _).drew⟩, rfl⟩ ?_
    simp only [opsAt_nil, opsAt_cons, consOpt_some, List.getElem?_toArray, List.getElem?_cons_zero, List.getElem?_cons_succ]
    refine wpQuiet_nil ?_
    show wpQuiet _ _ _ _ _ _
    repeat (go_big_quiet_step (first | (go_at_call 36; exact Xt.calls (CheckDoors_any _ _ _ _)) | (go_at_call 126; exact Xt.calls_same (placeErr_any _ _)) | (go_at_call 92; exact Xt.calls_same (unless_any _ _ _))))
    refine wpQuiet_nil ?_
    intro w1 hx
    have hb1 := Xt.below hx
    clear hx x0 x1 x2 y2 y3 y4
    go_wp2_with (go_at_call 91; refine (first3 _ _ _ _).mono ?_; rintro e w' ⟨rfl, rfl⟩)
    refine onlyNormal_mk ?_
    go_wp2
    go_ret2
    exact ⟨by rw [HV.out]; rfl, (HB.out.trans (hb1.mono hs1)).alloc (Nat.le_trans hs1 hb1.size) _⟩
end Go.Proofs.YtmcjnfghlpnghaaDoor

namespace Go.Proofs.YtmcjnfghlpnghaaDoor
open Go.RowKit

def CloneBPost (w : World) (l : List Bool) (n : Nat) (e : Ending) (w' : World) : Prop :=
  ∃ k cap, e = .returned (.slice (some ⟨k, 0, none⟩) n cap) ∧ w'.ownsRow w.heap.size 4 1 (.slice (some ⟨k, 0, none⟩) n cap) n (l.map .bool) ∧ Below w.heap.size w w'

theorem CloneB (w : World) (b off n c : Nat) (l : List Bool) (hl : l.length = n) (h1 : 1 ≤ n) (hn : n ≤ 1000000) (B : Nat) (h : Rd w B (some ⟨b, off, none⟩) (l.map .bool)) :
    Calls Tryd.prog 142 #[.slice (some ⟨b, off, none⟩) n c] w (CloneBPost w l n) := by
  obtain ⟨i0, hi, he⟩ := Option.map_eq_some_iff.1 info4
  simp only [Prod.mk.injEq] at he
  refine (Tryd.slices_Clone_f142 i0 (.bool false) 1 1 hi he.1 he.2.1 he.2.2 rfl (by omega) (fun W => Tryd.sizeOf4 W) b off n c (l.map .bool) w (by simp [hl]) (by simp only [maxLen]; omega) (by omega) (fun j u hj => ?_) (bools_one l)).mono ?_
  · obtain ⟨b', off', hA, _, hc⟩ := h j u hj
    simp only [Option.some.injEq, Addr.mk.injEq, and_true] at hA
    obtain ⟨rfl, rfl⟩ := hA
    exact hc
  · rintro e w' ⟨v', rfl, ho, hne, hb⟩
    rcases ho.2 with ⟨_, h0⟩ | ⟨g, cap, cur, rfl, _⟩
    · omega
    · exact ⟨g, cap, rfl, ho, hb⟩

/-- the errors that open finds behind its copy -/
def postE (T S : Int) (s : Tr) : Int := firstE [unlessE (!s.mv || !isOpenB s) 23, unlessE (inPlaceB T S s.place || !hasB s.gates true) 9, unlessE (s.al || !bareB s) 17]

def OpenYes (w : World) (D : Nat) (T S : Int) (s : Tr) (e : Ending) (w' : World) : Prop :=
  ∃ g bg bd cg cd, e = .returned (.tuple #[.pointer (some ⟨g, 0, none⟩), .int .i64 (postE T S s)]) ∧ TrainAt w' w.heap.size g bg bd cg cd D T S s ∧ Below w.heap.size w w'

theorem inPlaceAt_val {B g bg bd cg cd D : Nat} {T S : Int} {s : Tr} (b : Bool) (hb : inPlaceB T S s.place = b) (w : World) (h : TrainAt w B g bg bd cg cd D T S s)
    (hp : 0 ≤ s.place ∧ s.place ≤ 1000000000) (hT : 0 ≤ T ∧ T ≤ 1000000000) :
    Calls Tryd.prog 144 #[.pointer (some ⟨g, 0, none⟩)] w fun e w' => e = .returned (.bool b) ∧ Below w.heap.size w w' := by
  rw [← hb]
  exact inPlace_any w h hp hT

theorem rd_some {w : World} {B n : Nat} {A : Option Addr} {l : List Bool} (h : Rd w B A (l.map .bool)) (hl : l.length = n) (h1 : 1 ≤ n) : ∃ b off, A = some ⟨b, off, none⟩ := by
  obtain ⟨b, off, hA, _⟩ := h.at_ (k := 0) (u := .bool (l[0]?.getD false)) (by
    have : 0 < l.length := by omega
    simp [this])
  exact ⟨b, off, hA⟩

theorem train_of_clone {w2 w3 w4 : World} {g k1 k2 c1 c2 D t0 : Nat} {T S pl : Int} {mv al : Bool} {gs ds : List Bool} {v3 v4 : Value} (hg : w2.heap[g]? = some (.cells #[.bool mv, .bool al, .int .i64 pl, v3, v4, .int .i64 D, .int .i64 T, .int .i64 S] 151 (0, 0)))
    (h23 : Below w2.heap.size w2 w3) (h34 : Below w3.heap.size w3 w4) (ht0 : t0 ≤ g)
    (o1 : w3.ownsRow w2.heap.size 4 1 (.slice (some ⟨k1, 0, none⟩) D c1) D (gs.map .bool)) (o2 : w4.ownsRow w3.heap.size 4 1 (.slice (some ⟨k2, 0, none⟩) D c2) D (ds.map .bool)) :
    TrainAt ((w4.setCell ⟨g, 3, none⟩ (.slice (some ⟨k1, 0, none⟩) D c1)).setCell ⟨g, 4, none⟩ (.slice (some ⟨k2, 0, none⟩) D c2)) t0 g k1 k2 c1 c2 D T S ⟨mv, al, pl, gs, ds⟩ := by
  have lg := lt_of_block hg
  have b1 : w2.heap.size ≤ k1 ∧ k1 < w3.heap.size := ⟨(ownBlk o1 rfl).1, (ownBlk o1 rfl).2.1⟩
  have b2 : w3.heap.size ≤ k2 ∧ k2 < w4.heap.size := ⟨(ownBlk o2 rfl).1, (ownBlk o2 rfl).2.1⟩
  have s23 := h23.size
  have n1 : some k1 ≠ some g := fun he => by have := Option.some.inj he; omega
  have n2 : some k2 ≠ some g := fun he => by have := Option.some.inj he; omega
  refine ⟨?_, ?_, ?_, by omega, ht0⟩
  · rw [heapq_set, if_pos rfl, heapq_set, if_pos rfl, (h34.block g (by omega)).trans ((h23.block g lg).trans hg)]
    rfl
  · exact ownsRow_more (ownsRow_setCell_other (ownsRow_setCell_other (ownsRow_below o1 h34) (a := ⟨g, 3, none⟩) n1 _) (a := ⟨g, 4, none⟩) n1 _) (by omega)
  · exact ownsRow_more (ownsRow_setCell_other (ownsRow_setCell_other o2 (a := ⟨g, 3, none⟩) n2 _) (a := ⟨g, 4, none⟩) n2 _) (by omega)

set_option maxRecDepth 100000 in
set_option maxHeartbeats 8000000 in
theorem openT_yes (w : World) (B D : Nat) (T S : Int) (Ag Ad : Option Addr) (cg cd : Nat) (s : Tr) (h : StAt w B Ag Ad D D s) (hB : B ≤ w.heap.size) (h0 : preE D T S s.place D D = 0) :
    Calls Tryd.prog 108 #[.agg #[.int .i64 D, .int .i64 T, .int .i64 S], stV s Ag Ad D D cg cd] w (OpenYes w D T S s) := by
  obtain ⟨mv, al, pl, gs, ds⟩ := s
  have h0' : preE D T S pl D D = 0 := h0
  have z := h0'
  unfold preE at z
  simp only [firstE_cons, firstE_nil, and_true] at z
  obtain ⟨⟨z1, z2⟩, z3, z4⟩ := doorsE_zero z.1
  have zp := placeE_zero z.2.1
  obtain ⟨bG, oG, rfl⟩ := rd_some h.rg h.lg (by omega)
  obtain ⟨bD, oD, rfl⟩ := rd_some h.rd h.ld (by omega)
  clear h0 z z4
  have hb0 : Below w.heap.size w ((w.alloc (.cells #[.int .i64 D, .int .i64 T, .int .i64 S] 23)).alloc (.cells #[.bool mv, .bool al, .int .i64 pl, .slice (some ⟨bG, oG, none⟩) D cg, .slice (some ⟨bD, oD, none⟩) D cd] 28)) :=
    ((Below.refl _ _).alloc (Nat.le_refl _) _).alloc (by simp) _
  have k0 : ((w.alloc (.cells #[.int .i64 D, .int .i64 T, .int .i64 S] 23)).alloc (.cells #[.bool mv, .bool al, .int .i64 pl, .slice (some ⟨bG, oG, none⟩) D cg, .slice (some ⟨bD, oD, none⟩) D cd] 28)).heap[w.heap.size]? = some (.cells #[.int .i64 D, .int .i64 T, .int .i64 S] 23 (0, 0)) := by
    rw [heapq_alloc, if_neg (by simp), heapq_alloc, if_pos rfl]
  have k1 : ((w.alloc (.cells #[.int .i64 D, .int .i64 T, .int .i64 S] 23)).alloc (.cells #[.bool mv, .bool al, .int .i64 pl, .slice (some ⟨bG, oG, none⟩) D cg, .slice (some ⟨bD, oD, none⟩) D cd] 28)).heap[w.heap.size + 1]? = some (.cells #[.bool mv, .bool al, .int .i64 pl, .slice (some ⟨bG, oG, none⟩) D cg, .slice (some ⟨bD, oD, none⟩) D cd] 28 (0, 0)) := by
    rw [heapq_alloc, if_pos (by simp)]
  have h1 := h.below (hb0.mono hB)
  have lG : gs.length = D := h.lg
  have lD : ds.length = D := h.ld
  obtain ⟨d0, d1, d2⟩ := cells3w k0
  obtain ⟨c0, c1, c2, c3, c4⟩ := cells5 k1
  have HB := Lib.hid hb0
  have HS := Lib.hid h1
  have HLG := Lib.hid lG
  have HLD := Lib.hid lD
  have hs1 : w.heap.size ≤ ((w.alloc (.cells #[.int .i64 D, .int .i64 T, .int .i64 S] 23)).alloc (.cells #[.bool mv, .bool al, .int .i64 pl, .slice (some ⟨bG, oG, none⟩) D cg, .slice (some ⟨bD, oD, none⟩) D cd] 28)).heap.size := by simp; omega
  have hs2 : w.heap.size + 1 < ((w.alloc (.cells #[.int .i64 D, .int .i64 T, .int .i64 S] 23)).alloc (.cells #[.bool mv, .bool al, .int .i64 pl, .slice (some ⟨bG, oG, none⟩) D cg, .slice (some ⟨bD, oD, none⟩) D cd] 28)).heap.size := by simp
  have hs0 : B ≤ ((w.alloc (.cells #[.int .i64 D, .int .i64 T, .int .i64 S] 23)).alloc (.cells #[.bool mv, .bool al, .int .i64 pl, .slice (some ⟨bG, oG, none⟩) D cg, .slice (some ⟨bD, oD, none⟩) D cd] 28)).heap.size := by omega
  clear k0 k1 hb0 h h1 lG lD
  simp only [stV]
  have hne : (firstE [doorsE D T S, placeE pl, unlessE true 10] != 0) = false := by
    have : preE D T S pl D D = firstE [doorsE D T S, placeE pl, unlessE true 10] := by simp [preE]
    rw [← this, h0']
    rfl
  clear h0'
  go_enter Tryd.func108, Tryd.ntmps108
  go_upto_region 1 with (fail)
  generalize ((w.alloc (.cells #[.int .i64 D, .int .i64 T, .int .i64 S] 23)).alloc (.cells #[.bool mv, .bool al, .int .i64 pl, .slice (some ⟨bG, oG, none⟩) D cg, .slice (some ⟨bD, oD, none⟩) D cd] 28)) = w0 at *
  have x0 := fun x : Xt w0 => x.cell d0
  have x1 := fun x : Xt w0 => x.cell d1
  have x2 := fun x : Xt w0 => x.cell d2
  have y2 := fun x : Xt w0 => x.cell c2
  have y3 := fun x : Xt w0 => x.cell c3
  have y4 := fun x : Xt w0 => x.cell c4
  refine wp_region_cut [] [0, 1, 2, 3, 4, 5, 6, 7, 8, 9, 10, 11, 12, 13, 14, 15, 16, 17, 18, 19] 20 [21, 22] (fun w' => ∃ x : Xt w0, w' = x.1) (by kernel_rfl) (by kernel_rfl) ⟨⟨w0.drew, (Below.refl _ _).drew⟩, rfl⟩ ?_
  simp only [opsAt_nil, opsAt_cons, consOpt_some, List.getElem?_toArray, List.getElem?_cons_zero, List.getElem?_cons_succ]
  refine wpQuiet_nil ?_
  show wpQuiet _ _ _ _ _ _
  repeat (go_big_quiet_step (first | (go_at_call 36; exact Xt.calls (CheckDoors_any _ _ _ _)) | (go_at_call 126; exact Xt.calls_same (placeErr_any _ _)) | (go_at_call 92; exact Xt.calls_same (unless_any _ _ _))))
  refine wpQuiet_nil ?_
  intro w1 hx
  have hb1 := Xt.below hx
  have d0' := cell_alloc_old (.cells #[.int .i64 (doorsE D T S), .int .i64 (placeE pl), .int .i64 (unlessE true 10)] 29) (kept hb1 d0)
  have d1' := cell_alloc_old (.cells #[.int .i64 (doorsE D T S), .int .i64 (placeE pl), .int .i64 (unlessE true 10)] 29) (kept hb1 d1)
  have d2' := cell_alloc_old (.cells #[.int .i64 (doorsE D T S), .int .i64 (placeE pl), .int .i64 (unlessE true 10)] 29) (kept hb1 d2)
  have c0' := cell_alloc_old (.cells #[.int .i64 (doorsE D T S), .int .i64 (placeE pl), .int .i64 (unlessE true 10)] 29) (kept hb1 c0)
  have c1' := cell_alloc_old (.cells #[.int .i64 (doorsE D T S), .int .i64 (placeE pl), .int .i64 (unlessE true 10)] 29) (kept hb1 c1)
  have c2' := cell_alloc_old (.cells #[.int .i64 (doorsE D T S), .int .i64 (placeE pl), .int .i64 (unlessE true 10)] 29) (kept hb1 c2)
  have c3' := cell_alloc_old (.cells #[.int .i64 (doorsE D T S), .int .i64 (placeE pl), .int .i64 (unlessE true 10)] 29) (kept hb1 c3)
  have c4' := cell_alloc_old (.cells #[.int .i64 (doorsE D T S), .int .i64 (placeE pl), .int .i64 (unlessE true 10)] 29) (kept hb1 c4)
  clear hx x0 x1 x2 y2 y3 y4
  go_wp2_with (go_at_call 91; refine (first3 _ _ _ _).mono ?_; rintro e w' ⟨rfl, rfl⟩)
  refine onlyNormal_mk ?_
  have hbX : Below w0.heap.size w0 (w1.alloc (.cells #[.int .i64 (doorsE D T S), .int .i64 (placeE pl), .int .i64 (unlessE true 10)] 29)) := hb1.alloc hb1.size _
  generalize w1.alloc (.cells #[.int .i64 (doorsE D T S), .int .i64 (placeE pl), .int .i64 (unlessE true 10)] 29) = wX at *
  go_upto_region 5 with (fail)
  have hg : (wX.alloc (.cells #[.bool mv, .bool al, .int .i64 pl, .slice (some ⟨bG, oG, none⟩) D cg, .slice (some ⟨bD, oD, none⟩) D cd, .int .i64 D, .int .i64 T, .int .i64 S] 151)).heap[wX.heap.size]? = some (.cells #[.bool mv, .bool al, .int .i64 pl, .slice (some ⟨bG, oG, none⟩) D cg, .slice (some ⟨bD, oD, none⟩) D cd, .int .i64 D, .int .i64 T, .int .i64 S] 151 (0, 0)) := by rw [heapq_alloc, if_pos rfl]
  have hb2 : Below w0.heap.size w0 (wX.alloc (.cells #[.bool mv, .bool al, .int .i64 pl, .slice (some ⟨bG, oG, none⟩) D cg, .slice (some ⟨bD, oD, none⟩) D cd, .int .i64 D, .int .i64 T, .int .i64 S] 151)) := hbX.alloc hbX.size _
  have e3 := kept hb2 c3
  have e4 := kept hb2 c4
  have hgw : w.heap.size + 1 < wX.heap.size := Nat.lt_of_lt_of_le hs2 hbX.size
  clear d0 d1 d2 c0 c1 c2 c3 c4 d0' d1' d2' c0' c1' c2' c3' c4' hb1 hbX
  generalize wX.alloc (.cells #[.bool mv, .bool al, .int .i64 pl, .slice (some ⟨bG, oG, none⟩) D cg, .slice (some ⟨bD, oD, none⟩) D cd, .int .i64 D, .int .i64 T, .int .i64 S] 151) = w2 at *
  generalize wX.heap.size = g at *
  have x3 := fun x : Xt w2 => x.cell e3
  have x4 := fun x : Xt w2 => x.cell e4
  refine wp_region_mid [0, 1, 2, 5] [3, 6] 2 [8, 9, 10, 11, 12, 13, 14, 15] (fun w' => ∃ x : Xt w2, w' = x.1) (by kernel_rfl) (by kernel_rfl) ⟨⟨w2.drew, (Below.refl _ _).drew⟩, rfl⟩ ?_
  simp only [opsAt_nil, opsAt_cons, consOpt_some, List.getElem?_toArray, List.getElem?_cons_zero, List.getElem?_cons_succ]
  repeat (go_big_quiet_step (fail))
  refine wpQuiet_nil ?_
  show wpQuiet _ _ _ _ _ _
  repeat (go_big_quiet_step (fail))
  refine wpQuiet_nil ?_
  have hbd : Below w2.heap.size w2 w2.drew := (Below.refl _ _).drew
  show wpOrders _ _ _ _ _ _ _ _ w2.drew
  generalize w2.drew = wd at *
  have HSd := HS.out.below ((hb2.mono hs0).trans (hbd.mono (Nat.le_trans hs0 hb2.size)))
  refine wpOrders_one (i := 4) (by kernel_rfl) ?_
  unfold wpMid
  simp only [opsAt_nil, opsAt_cons, consOpt_some, List.getElem?_toArray, List.getElem?_cons_zero, List.getElem?_cons_succ]
  go_wp2_with (go_at_call 142; refine (CloneB wd bG oG D cg gs HLG.out (by omega) (by omega) B HSd.rg).mono ?_; rintro e w3 ⟨k1, m1, rfl, o1, hb3⟩)
  have hb23 : Below w2.heap.size w2 w3 := hbd.trans (hb3.mono hbd.size)
  refine onlyNormal_mk ⟨⟨⟨_, hb23⟩, rfl⟩, ?_⟩
  refine wpOrders_one (i := 7) (by kernel_rfl) ?_
  unfold wpMid
  simp only [opsAt_nil, opsAt_cons, consOpt_some, List.getElem?_toArray, List.getElem?_cons_zero, List.getElem?_cons_succ]
  have HS3 := HSd.below (hb3.mono (Nat.le_trans hs0 (Nat.le_trans hb2.size hbd.size)))
  go_wp2_with (go_at_call 142; refine (CloneB w3 bD oD D cd ds HLD.out (by omega) (by omega) B HS3.rd).mono ?_; rintro e w4 ⟨k2, m2, rfl, o2, hb4⟩)
  refine onlyNormal_mk ⟨⟨⟨_, hb23.trans (hb4.mono hb23.size)⟩, rfl⟩, ?_⟩
  refine wpOrders_zero ?_
  have hg4 := (hb4.block g (Nat.lt_of_lt_of_le (lt_of_block hg) hb23.size)).trans ((hb23.block g (lt_of_block hg)).trans hg)
  have f3 := frozen_of_row w4 g 3 _ _ hg4
  have f4 := frozen_of_row w4 g 4 _ _ hg4
  have q3 := cell_of_row w4 g 3 _ _ _ hg4
  have q4 := cell_of_row w4 g 4 _ _ _ hg4
  simp at q3 q4
  have hT := train_of_clone (t0 := w.heap.size) hg hb23 hb4 (by omega) (ownsRow_more o1 hbd.size) o2
  have hbF : Below w.heap.size w ((w4.setCell ⟨g, 3, none⟩ (.slice (some ⟨k1, 0, none⟩) D m1)).setCell ⟨g, 4, none⟩ (.slice (some ⟨k2, 0, none⟩) D m2)) :=
    (((HB.out.trans (hb2.mono hs1)).trans ((hb23.trans (hb4.mono hb23.size)).mono (Nat.le_trans hs1 hb2.size))).setCell (p := ⟨g, 3, none⟩) (by show w.heap.size ≤ g; omega) _).setCell (p := ⟨g, 4, none⟩) (by show w.heap.size ≤ g; omega) _
  clear hg hg4 o1 o2 hb3 hb4 hb23 HS3 HSd hbd hb2 x3 x4 e3 e4 HS HLG HLD
  go_wp2
  refine onlyNormal_mk ?_
  clear f3 f4 q3 q4
  generalize ((w4.setCell ⟨g, 3, none⟩ (.slice (some ⟨k1, 0, none⟩) D m1)).setCell ⟨g, 4, none⟩ (.slice (some ⟨k2, 0, none⟩) D m2)) = w5 at *
  have t0 := hT.cell 0
  have t1 := hT.cell 1
  have t3 := hT.cell 3
  simp at t0 t1 t3
  have x0 := fun x : Xt w5 => x.cell t0
  have x1 := fun x : Xt w5 => x.cell t1
  have x3 := fun x : Xt w5 => x.cell t3
  go_upto_region 6 with (fail)
  cases ei : inPlaceB T S pl <;> cases mv <;> cases al
  all_goals
    have EI := Lib.hid ei
    refine wp_region_cut [0] [1, 2, 3, 4, 5, 6, 7, 8, 9, 10, 11, 12, 13, 14, 15, 16, 17, 18, 19, 20, 21, 22, 23, 24, 25, 26, 27, 28, 29, 30, 31, 32, 33, 34, 35] 36 [37, 38, 39] (fun w' => ∃ x : Xt w5, w' = x.1) (by kernel_rfl) (by kernel_rfl) ⟨⟨w5.drew, (Below.refl _ _).drew⟩, rfl⟩ ?_
    simp only [opsAt_nil, opsAt_cons, consOpt_some, List.getElem?_toArray, List.getElem?_cons_zero, List.getElem?_cons_succ]
    repeat (go_big_quiet_step (fail))
    refine wpQuiet_nil ?_
    show wpQuiet _ _ _ _ _ _
    repeat (go_big_quiet_step (first | (go_at_call 143; exact Xt.calls_same (isOpen_any _ (by omega) (hT.below (xprop _)))) | (go_at_call 144; exact Xt.calls (inPlaceAt_val _ ei _ (hT.below (xprop _)) zp z3)) | (go_at_call 145; exact Xt.calls_same (ContainsBools_any _ _ _ _ gs true _ (by omega) hT.lenG (hT.below (xprop _)).rdG)) | (go_at_call 146; exact Xt.calls_same (bare_any _ (by omega) (hT.below (xprop _)))) | (go_at_call 92; exact Xt.calls_same (unless_any _ _ _))))
    refine wpQuiet_nil ?_
    intro w6 hx
    have hb6 := Xt.below hx
    clear hx x0 x1 x3
    have hT6 := hT.below hb6
    go_wp2_with (go_at_call 91; refine (first3 _ _ _ _).mono ?_; rintro e w' ⟨rfl, rfl⟩)
    refine onlyNormal_mk ?_
    go_wp2
    go_ret2
    exact ⟨g, k1, k2, m1, m2, by simp [postE, EI.out, isOpenB], hT6.alloc _, (hbF.trans (hb6.mono hbF.size)).alloc (Nat.le_trans hbF.size hb6.size) _⟩
end Go.Proofs.YtmcjnfghlpnghaaDoor

namespace Go.Proofs.YtmcjnfghlpnghaaDoor
open Go.RowKit

/-- the error of doors and a state -/
def chkE (D T S : Int) (s : Tr) : Int := if doorsE D T S = 0 then stateE D T S s else doorsE D T S

theorem preE_ne {D T S : Int} {s : Tr} {ng nd : Nat} (lg : s.gates.length = ng) (ld : s.doors.length = nd) (h : preE D T S s.place ng nd ≠ 0) : chkE D T S s = preE D T S s.place ng nd := by
  unfold chkE
  subst lg ld
  by_cases h1 : doorsE D T S = 0
  · rw [if_pos h1]
    unfold preE stateE at *
    simp only [firstE, h1, if_true] at *
    split at h
    · split at h
      · exact absurd rfl h
      · rename_i h2 h3
        simp only [h2, h3, if_true, if_false]
    · rename_i h2
      simp only [h2, if_false]
  · rw [if_neg h1]
    unfold preE
    simp only [firstE, h1, if_false]

theorem preE_zero {D : Nat} {T S : Int} {s : Tr} (lg : s.gates.length = D) (ld : s.doors.length = D) (h : preE D T S s.place D D = 0) : chkE D T S s = postE T S s := by
  unfold preE at h
  simp only [firstE_cons, firstE_nil, and_true] at h
  obtain ⟨h1, h2, h3⟩ := h
  unfold chkE
  rw [if_pos h1]
  unfold stateE postE
  have h4 : unlessE (decide ((s.gates.length : Int) = D) && decide ((s.doors.length : Int) = D)) 10 = 0 := by rw [lg, ld]; simpa using h3
  simp only [firstE, h2, h4, if_true]

theorem preE_len {D T S pl : Int} {ng nd : Nat} (h : preE D T S pl ng nd = 0) : ∃ d : Nat, D = (d : Int) ∧ d = ng ∧ d = nd := by
  unfold preE at h
  simp only [firstE_cons, firstE_nil, and_true] at h
  obtain ⟨h1, _, h3⟩ := h
  obtain ⟨⟨d1, _⟩, _⟩ := doorsE_zero h1
  rw [unlessE_zero (by omega)] at h3
  simp only [Bool.and_eq_true, decide_eq_true_eq] at h3
  exact ⟨ng, by omega, rfl, by omega⟩

set_option maxHeartbeats 2000000 in
theorem CheckState_any (w : World) (B : Nat) (D T S : Int) (Ag Ad : Option Addr) (ng nd cg cd : Nat) (s : Tr) (h : StAt w B Ag Ad ng nd s) (hB : B ≤ w.heap.size) :
    Calls Tryd.prog 41 #[.agg #[.int .i64 D, .int .i64 T, .int .i64 S], stV s Ag Ad ng nd cg cd] w (IntPost w (chkE D T S s)) := by
  have hb0 : Below w.heap.size w ((w.alloc (.cells #[.int .i64 D, .int .i64 T, .int .i64 S] 23)).alloc (.cells #[.bool s.mv, .bool s.al, .int .i64 s.place, .slice Ag ng cg, .slice Ad nd cd] 28)) :=
    ((Below.refl _ _).alloc (Nat.le_refl _) _).alloc (by simp) _
  have k0 : ((w.alloc (.cells #[.int .i64 D, .int .i64 T, .int .i64 S] 23)).alloc (.cells #[.bool s.mv, .bool s.al, .int .i64 s.place, .slice Ag ng cg, .slice Ad nd cd] 28)).heap[w.heap.size]? = some (.cells #[.int .i64 D, .int .i64 T, .int .i64 S] 23 (0, 0)) := by
    rw [heapq_alloc, if_neg (by simp), heapq_alloc, if_pos rfl]
  have k1 : ((w.alloc (.cells #[.int .i64 D, .int .i64 T, .int .i64 S] 23)).alloc (.cells #[.bool s.mv, .bool s.al, .int .i64 s.place, .slice Ag ng cg, .slice Ad nd cd] 28)).heap[w.heap.size + 1]? = some (.cells #[.bool s.mv, .bool s.al, .int .i64 s.place, .slice Ag ng cg, .slice Ad nd cd] 28 (0, 0)) := by
    rw [heapq_alloc, if_pos (by simp)]
  obtain ⟨d0, d1, d2⟩ := cells3w k0
  obtain ⟨c0, c1, c2, c3, c4⟩ := cells5 k1
  have h1 := h.below (hb0.mono hB)
  have hs1 : w.heap.size ≤ ((w.alloc (.cells #[.int .i64 D, .int .i64 T, .int .i64 S] 23)).alloc (.cells #[.bool s.mv, .bool s.al, .int .i64 s.place, .slice Ag ng cg, .slice Ad nd cd] 28)).heap.size := by simp; omega
  have HB := Lib.hid hb0
  have HS := Lib.hid h1
  have n1 := h.ng1
  have n2 := h.nd1
  have HG := Lib.hid h.lg
  have HD := Lib.hid h.ld
  clear k0 k1 hb0 h h1
  go_enter Tryd.func41, Tryd.ntmps41
  simp only [stV]
  go_upto_region 1 with (fail)
  generalize (w.alloc (.cells #[.int .i64 D, .int .i64 T, .int .i64 S] 23)).alloc (.cells #[.bool s.mv, .bool s.al, .int .i64 s.place, .slice Ag ng cg, .slice Ad nd cd] 28) = w0 at *
  by_cases h0 : preE D T S s.place ng nd = 0
  · obtain ⟨d, rfl, rfl, rfl⟩ := preE_len h0
    have C := openT_yes w0 B d T S Ag Ad cg cd s HS.out (by omega) h0
    simp only [stV] at C
    have HV := Lib.hid (preE_zero HG.out HD.out h0)
    clear h0
    go_wp2_with (go_at_call 108; refine C.mono ?_; rintro e w1 ⟨g, bg, bd, cg', cd', rfl, _, hb1⟩)
    go_ret
    exact ⟨by rw [HV.out]; rfl, HB.out.trans (hb1.mono hs1)⟩
  · have C := openT_no w0 D T S Ag Ad ng nd cg cd s n1 n2 h0
    simp only [stV] at C
    have HV := Lib.hid (preE_ne HG.out HD.out h0)
    clear h0
    go_wp2_with (go_at_call 108; refine C.mono ?_; rintro e w1 ⟨rfl, hb1⟩)
    go_ret
    exact ⟨by rw [HV.out]; rfl, HB.out.trans (hb1.mono hs1)⟩

end Go.Proofs.YtmcjnfghlpnghaaDoor
