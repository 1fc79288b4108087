/- The reference: what kinds of events use; the error of an event. -/
import Derived.Test.YtmcjnfghlpnghaaGreatDoorD3
namespace Go.Proofs.YtmcjnfghlpnghaaGreatDoor
open Go.RowKit
theorem uses_p (w : World) : Calls Tryz.prog 52 #[.int .i64 1] w fun e w' => e = .returned (.string ⟨#[112]⟩) ∧ w = w' := by
  go_enter Tryz.func52, Tryz.ntmps52
  go_wp2
  go_ret
  exact ⟨rfl, rfl⟩
theorem uses_d (k : Int) (w : World) (h : 2 ≤ k ∧ k ≤ 5) : Calls Tryz.prog 52 #[.int .i64 k] w fun e w' => e = .returned (.string ⟨#[100]⟩) ∧ w = w' := by
  have : k = 2 ∨ k = 3 ∨ k = 4 ∨ k = 5 := by omega
  rcases this with rfl | rfl | rfl | rfl
  all_goals
    go_enter Tryz.func52, Tryz.ntmps52
    go_wp2
    go_ret
    exact ⟨rfl, rfl⟩
theorem uses_no (k : Int) (w : World) (h : k ≠ 1) (h' : ¬ (2 ≤ k ∧ k ≤ 5)) : Calls Tryz.prog 52 #[.int .i64 k] w fun e w' => e = .returned (.string ⟨#[]⟩) ∧ w = w' := by
  have e1 : (k == 1) = false := beq_eq_false_iff_ne.2 h
  have e2 : (k == 2) = false := beq_eq_false_iff_ne.2 (by omega)
  have e3 : (k == 3) = false := beq_eq_false_iff_ne.2 (by omega)
  have e4 : (k == 4) = false := beq_eq_false_iff_ne.2 (by omega)
  have e5 : (k == 5) = false := beq_eq_false_iff_ne.2 (by omega)
  clear h h'
  go_enter Tryz.func52, Tryz.ntmps52
  go_wp2
  go_ret
  exact ⟨rfl, rfl⟩
theorem IsKind_val (n : Int) (b : Bool) (hb : withinB n 0 7 = b) (w : World) :
    Calls Tryz.prog 55 #[.int .i64 n] w fun e w' => e = .returned (.bool b) ∧ w = w' := by
  rw [← hb]
  exact IsKind_any n w
theorem PlaceErr_val (n x : Int) (hx : placeE n = x) (w : World) :
    Calls Tryz.prog 57 #[.int .i64 n] w fun e w' => e = .returned (.int .i64 x) ∧ w = w' := by
  rw [← hx]
  exact PlaceErr_any n w
def usesPB (k : Int) : Bool := decide (k = 1)
def usesDB (k : Int) : Bool := decide (2 ≤ k ∧ k ≤ 5)
/-- the error of an event -/
def evErrM (D : Nat) (k pl dr : Int) : Int := if withinB k 0 7 = true then evE D (usesPB k) (usesDB k) pl dr else 15
def EvPost (w : World) (x : Int) (e : Ending) (w' : World) : Prop := e = .returned (.int .i64 x) ∧ Below w.heap.size w w'
theorem placeE_0 : placeE 0 = 0 := by decide
theorem placeE_cases (n : Int) : isPlaceB n = true ∧ placeE n = 0 ∨ isPlaceB n = false ∧ placeE n = 2 := by
  unfold placeE
  cases isPlaceB n <;> simp [unlessE]
set_option maxHeartbeats 1000000 in
theorem EventErr_any (D : Nat) (T S k pl dr : Int) (w : World) (hD : 1 ≤ D) (hD' : D ≤ 1000000) :
    Calls Tryz.prog 15 #[.agg #[.int .i64 D, .int .i64 T, .int .i64 S], .agg #[.int .i64 k, .int .i64 pl, .int .i64 dr]] w (EvPost w (evErrM D k pl dr)) := by
  have hb0 : Below w.heap.size w ((w.alloc (.cells #[.int .i64 D, .int .i64 T, .int .i64 S] 40)).alloc (.cells #[.int .i64 k, .int .i64 pl, .int .i64 dr] 23)) :=
    ((Below.refl _ _).alloc (Nat.le_refl _) _).alloc (by simp) _
  have d0 : ((w.alloc (.cells #[.int .i64 D, .int .i64 T, .int .i64 S] 40)).alloc (.cells #[.int .i64 k, .int .i64 pl, .int .i64 dr] 23)).cell? ⟨w.heap.size, 0, none⟩ = some (.int .i64 D) := by simp
  have c0 : ((w.alloc (.cells #[.int .i64 D, .int .i64 T, .int .i64 S] 40)).alloc (.cells #[.int .i64 k, .int .i64 pl, .int .i64 dr] 23)).cell? ⟨w.heap.size + 1, 0, none⟩ = some (.int .i64 k) := by simp
  have c1 : ((w.alloc (.cells #[.int .i64 D, .int .i64 T, .int .i64 S] 40)).alloc (.cells #[.int .i64 k, .int .i64 pl, .int .i64 dr] 23)).cell? ⟨w.heap.size + 1, 1, none⟩ = some (.int .i64 pl) := by simp
  have c2 : ((w.alloc (.cells #[.int .i64 D, .int .i64 T, .int .i64 S] 40)).alloc (.cells #[.int .i64 k, .int .i64 pl, .int .i64 dr] 23)).cell? ⟨w.heap.size + 1, 2, none⟩ = some (.int .i64 dr) := by simp
  have HB := Lib.hid hb0
  clear hb0
  go_enter Tryz.func15, Tryz.ntmps15
  go_upto_region 1 with (fail)
  generalize (w.alloc (.cells #[.int .i64 D, .int .i64 T, .int .i64 S] 40)).alloc (.cells #[.int .i64 k, .int .i64 pl, .int .i64 dr] 23) = w0 at *
  cases hk : withinB k 0 7
  · have HV : Hid (evErrM D k pl dr = 15) := by simp [Hid, evErrM, hk]
    go_wp2_with (go_at_call 55; refine (IsKind_val _ _ hk _).mono ?_; rintro e w' ⟨rfl, rfl⟩)
    go_ret
    exact ⟨by rw [HV.out]; rfl, HB.out⟩
  · have HV0 : Hid (evErrM D k pl dr = evE D (usesPB k) (usesDB k) pl dr) := by simp [Hid, evErrM, hk]
    by_cases k1 : k = 1
    · subst k1
      have HV : Hid (evErrM D 1 pl dr = evE D true false pl dr) := HV0.out
      clear HV0
      by_cases e1 : dr = 0
      · subst e1
        have hw : withinB 0 0 ((D : Int) - 1) = true := by simp [withinB]; omega
        rcases placeE_cases pl with ⟨p1, p2⟩ | ⟨p1, p2⟩
        all_goals
          have HP1 := Lib.hid p1
          go_wp2_with (first | (go_at_call 55; refine (IsKind_val _ _ hk _).mono ?_; rintro e w' ⟨rfl, rfl⟩) | (go_at_call 52; refine (uses_p _).mono ?_; rintro e w' ⟨rfl, rfl⟩) | (go_at_call 57; refine (PlaceErr_val _ _ p2 _).mono ?_; rintro e w' ⟨rfl, rfl⟩) | (go_at_call 19; refine (Within_val _ _ _ _ hw _).mono ?_; rintro e w' ⟨rfl, rfl⟩))
          go_ret
          exact ⟨by rw [HV.out]; simp [evE, firstE, unlessE, HP1.out], HB.out⟩
      · have e1' : (dr != 0) = true := by simp [e1]
        have f1 : Hid ((dr == 0) = false) := beq_eq_false_iff_ne.2 e1
        go_wp2_with (first | (go_at_call 55; refine (IsKind_val _ _ hk _).mono ?_; rintro e w' ⟨rfl, rfl⟩) | (go_at_call 52; refine (uses_p _).mono ?_; rintro e w' ⟨rfl, rfl⟩))
        go_ret
        exact ⟨by rw [HV.out, show evE D true false pl dr = 3 by simp [evE, firstE, unlessE, f1.out]]; rfl, HB.out⟩
    · have u1 : usesPB k = false := by simp [usesPB, k1]
      by_cases k2 : 2 ≤ k ∧ k ≤ 5
      · have u2 : usesDB k = true := by simp [usesDB, k2]
        have HV : Hid (evErrM D k pl dr = evE D false true pl dr) := by rw [Hid, HV0.out, u1, u2]
        clear HV0
        by_cases e1 : pl = 0
        · subst e1
          cases hw : withinB dr 0 ((D : Int) - 1)
          all_goals
            have HW := Lib.hid hw
            go_wp2_with (first | (go_at_call 55; refine (IsKind_val _ _ hk _).mono ?_; rintro e w' ⟨rfl, rfl⟩) | (go_at_call 52; refine (uses_d _ _ k2).mono ?_; rintro e w' ⟨rfl, rfl⟩) | (go_at_call 57; refine (PlaceErr_val _ _ placeE_0 _).mono ?_; rintro e w' ⟨rfl, rfl⟩) | (go_at_call 19; refine (Within_val _ _ _ _ hw _).mono ?_; rintro e w' ⟨rfl, rfl⟩))
            go_ret
            exact ⟨by rw [HV.out]; simp [evE, firstE, unlessE, HW.out], HB.out⟩
        · have e1' : (pl != 0) = true := by simp [e1]
          have f1 : Hid ((pl == 0) = false) := beq_eq_false_iff_ne.2 e1
          go_wp2_with (first | (go_at_call 55; refine (IsKind_val _ _ hk _).mono ?_; rintro e w' ⟨rfl, rfl⟩) | (go_at_call 52; refine (uses_d _ _ k2).mono ?_; rintro e w' ⟨rfl, rfl⟩))
          go_ret
          exact ⟨by rw [HV.out, show evE D false true pl dr = 3 by simp [evE, firstE, unlessE, f1.out]]; rfl, HB.out⟩
      · have u2 : usesDB k = false := by simp only [usesDB, k2, decide_false]
        have HV : Hid (evErrM D k pl dr = evE D false false pl dr) := by rw [Hid, HV0.out, u1, u2]
        clear HV0
        by_cases e1 : pl = 0
        · subst e1
          by_cases e2 : dr = 0
          · subst e2
            have hw : withinB 0 0 ((D : Int) - 1) = true := by simp [withinB]; omega
            go_wp2_with (first | (go_at_call 55; refine (IsKind_val _ _ hk _).mono ?_; rintro e w' ⟨rfl, rfl⟩) | (go_at_call 52; refine (uses_no _ _ k1 k2).mono ?_; rintro e w' ⟨rfl, rfl⟩) | (go_at_call 57; refine (PlaceErr_val _ _ placeE_0 _).mono ?_; rintro e w' ⟨rfl, rfl⟩) | (go_at_call 19; refine (Within_val _ _ _ _ hw _).mono ?_; rintro e w' ⟨rfl, rfl⟩))
            go_ret
            exact ⟨by rw [HV.out]; simp [evE, firstE, unlessE], HB.out⟩
          · have e2' : (dr != 0) = true := by simp [e2]
            have f2 : Hid ((dr == 0) = false) := beq_eq_false_iff_ne.2 e2
            go_wp2_with (first | (go_at_call 55; refine (IsKind_val _ _ hk _).mono ?_; rintro e w' ⟨rfl, rfl⟩) | (go_at_call 52; refine (uses_no _ _ k1 k2).mono ?_; rintro e w' ⟨rfl, rfl⟩))
            go_ret
            exact ⟨by rw [HV.out, show evE D false false 0 dr = 3 by simp [evE, firstE, unlessE, f2.out]]; rfl, HB.out⟩
        · have e1' : (pl != 0) = true := by simp [e1]
          have f1 : Hid ((pl == 0) = false) := beq_eq_false_iff_ne.2 e1
          go_wp2_with (first | (go_at_call 55; refine (IsKind_val _ _ hk _).mono ?_; rintro e w' ⟨rfl, rfl⟩) | (go_at_call 52; refine (uses_no _ _ k1 k2).mono ?_; rintro e w' ⟨rfl, rfl⟩))
          go_ret
          exact ⟨by rw [HV.out, show evE D false false pl dr = 3 by simp [evE, firstE, unlessE, f1.out]]; rfl, HB.out⟩
end Go.Proofs.YtmcjnfghlpnghaaGreatDoor
