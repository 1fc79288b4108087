/- The reference's leaf functions: within, size, doors, places, kinds; whether two states are equal. -/
import Derived.Test.YtmcjnfghlpnghaaGreatDoorA4
namespace Go.Proofs.YtmcjnfghlpnghaaGreatDoor
open Go.RowKit
theorem Within_any (n lo hi : Int) (w : World) :
    Calls Tryz.prog 19 #[.int .i64 n, .int .i64 lo, .int .i64 hi] w fun e w' => e = .returned (.bool (withinB n lo hi)) ∧ w = w' := by
  by_cases h1 : lo ≤ n <;> by_cases h2 : n ≤ hi
  all_goals
    go_enter Tryz.func19, Tryz.ntmps19
    go_wp2
    go_ret
    exact ⟨by simp [withinB, h1, h2], rfl⟩
theorem Within_val (n lo hi : Int) (b : Bool) (hb : withinB n lo hi = b) (w : World) :
    Calls Tryz.prog 19 #[.int .i64 n, .int .i64 lo, .int .i64 hi] w fun e w' => e = .returned (.bool b) ∧ w = w' := by
  rw [← hb]
  exact Within_any n lo hi w
theorem Size_any (n : Int) (h : -2000000000 ≤ n ∧ n ≤ 2000000000) (w : World) :
    Calls Tryz.prog 96 #[.int .i64 n] w fun e w' => e = .returned (.int .i64 (sizeI n)) ∧ w = w' := by
  obtain ⟨h1, h2⟩ := h
  go_enter Tryz.func96, Tryz.ntmps96
  go_wp2
  all_goals
    go_ret
    refine ⟨?_, rfl⟩
    simp [sizeI]
    omega
theorem PlaceErr_any (n : Int) (w : World) :
    Calls Tryz.prog 57 #[.int .i64 n] w fun e w' => e = .returned (.int .i64 (placeE n)) ∧ w = w' := by
  cases hb : withinB n 0 1000000000
  all_goals
    go_enter Tryz.func57, Tryz.ntmps57
    go_wp2_with (go_at_call 19; refine (Within_val _ _ _ _ hb _).mono ?_; rintro e w' ⟨rfl, rfl⟩)
    go_ret
    exact ⟨by simp [placeE, isPlaceB, hb, unlessE], rfl⟩
theorem IsKind_any (n : Int) (w : World) :
    Calls Tryz.prog 55 #[.int .i64 n] w fun e w' => e = .returned (.bool (withinB n 0 7)) ∧ w = w' := by
  go_enter Tryz.func55, Tryz.ntmps55
  go_wp2_with (go_at_call 19; refine (Within_any _ _ _ _).mono ?_; rintro e w' ⟨rfl, rfl⟩)
  go_ret
  exact ⟨rfl, rfl⟩
theorem DoorsErr_any (d t s : Int) (w : World) :
    Calls Tryz.prog 18 #[.agg #[.int .i64 d, .int .i64 t, .int .i64 s]] w fun e w' => e = .returned (.int .i64 (doorsE d t s)) ∧ Below w.heap.size w w' := by
  have b0 := Below.refl w.heap.size w |>.alloc (Nat.le_refl _) (.cells #[.int .i64 d, .int .i64 t, .int .i64 s] 40)
  cases h1 : withinB d 1 6
  · go_enter Tryz.func18, Tryz.ntmps18
    go_wp2_with (go_at_call 19; refine (Within_val _ _ _ _ h1 _).mono ?_; rintro e w' ⟨rfl, rfl⟩)
    go_ret
    exact ⟨by unfold doorsE; rw [h1]; rfl, b0⟩
  · cases h2 : withinB t 0 1000000000
    · go_enter Tryz.func18, Tryz.ntmps18
      go_wp2_with (go_at_call 19; first | ((with_reducible refine (Within_val d _ _ _ h1 _).mono ?_); rintro e w' ⟨rfl, rfl⟩) | ((with_reducible refine (Within_val t _ _ _ h2 _).mono ?_); rintro e w' ⟨rfl, rfl⟩))
      go_ret
      exact ⟨by unfold doorsE isPlaceB; rw [h1, h2]; rfl, b0⟩
    · cases h3 : withinB s 0 5000
      all_goals
        go_enter Tryz.func18, Tryz.ntmps18
        go_wp2_with (go_at_call 19; first | ((with_reducible refine (Within_val d _ _ _ h1 _).mono ?_); rintro e w' ⟨rfl, rfl⟩) | ((with_reducible refine (Within_val t _ _ _ h2 _).mono ?_); rintro e w' ⟨rfl, rfl⟩) | ((with_reducible refine (Within_val s _ _ _ h3 _).mono ?_); rintro e w' ⟨rfl, rfl⟩))
        go_ret
        exact ⟨by unfold doorsE isPlaceB; rw [h1, h2, h3]; rfl, b0⟩
end Go.Proofs.YtmcjnfghlpnghaaGreatDoor
