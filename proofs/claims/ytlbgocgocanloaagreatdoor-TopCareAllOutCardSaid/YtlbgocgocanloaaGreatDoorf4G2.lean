/- Whole quotients, rounded up. -/
import Derived.Test.YtlbgocgocanloaaGreatDoorf4A1
namespace Go.Proofs.YtlbgocgocanloaaGreatDoor
open Go.RowKit
def ceilI (a d : Int) : Int := if 0 < a % d then a / d + 1 else a / d
theorem ceilI_ge (a d : Int) (hd : 1 ≤ d) : a ≤ d * ceilI a d := by
  have h1 := Int.mul_ediv_add_emod a d
  have h2 := Int.emod_lt_of_pos a (show 0 < d by omega)
  unfold ceilI
  split
  · rw [Int.mul_add]; omega
  · omega
theorem ceilI_nonneg (a d : Int) (h0 : 0 ≤ a) (hd : 1 ≤ d) : 0 ≤ ceilI a d := by
  have h1 : 0 ≤ a / d := Int.ediv_nonneg h0 (by omega)
  unfold ceilI
  split <;> omega
theorem Ceil_any (a d : Int) (h0 : 0 ≤ a) (h1 : a ≤ 1000000) (hd : 1 ≤ d) (hd1 : d ≤ 1000000) (w : World) :
    Calls Tryz.prog 20 #[.int .i64 a, .int .i64 d] w fun e w' => e = .returned (.int .i64 (ceilI a d)) ∧ w = w' := by
  have q1 : 0 ≤ a / d := Int.ediv_nonneg h0 (by omega)
  have q2 : a / d ≤ a := Int.ediv_le_self _ h0
  have m1 : 0 ≤ a % d := Int.emod_nonneg _ (by omega)
  have m2 : a % d < d := Int.emod_lt_of_pos _ (by omega)
  have q0 : ∀ W : World, Calls Tryz.prog 59 #[.int .i64 (-a), .int .i64 d] W fun e w' => e = .returned (.int .i64 (-(ceilI a d))) ∧ W = w' := by
    intro W
    have t1 : a.tdiv d = a / d := Int.tdiv_eq_ediv_of_nonneg h0
    have hb : 0 ≤ a.tdiv d ∧ a.tdiv d ≤ 1000000 := by omega
    have dz : d ≠ 0 := by omega
    by_cases hm : 0 < a % d
    · have hv : -(ceilI a d) = -(a.tdiv d) - 1 := by unfold ceilI; rw [if_pos hm]; omega
      rw [hv]
      clear hv t1
      go_enter Tryz.func59, Tryz.ntmps59
      go_wp2
      go_ret
      exact ⟨rfl, rfl⟩
    · have hv : -(ceilI a d) = -(a.tdiv d) := by unfold ceilI; rw [if_neg hm]; omega
      rw [hv]
      clear hv t1
      go_enter Tryz.func59, Tryz.ntmps59
      go_wp2
      go_ret
      exact ⟨rfl, rfl⟩
  have hb : 0 ≤ ceilI a d ∧ ceilI a d ≤ 1000001 := by unfold ceilI; split <;> omega
  generalize ceilI a d = q at *
  clear q1 q2 m1 m2
  go_enter Tryz.func20, Tryz.ntmps20
  go_wp2_with (go_at_call 59; refine (q0 _).mono ?_; rintro e w' ⟨rfl, rfl⟩)
  go_ret
  exact ⟨by simp, rfl⟩
end Go.Proofs.YtlbgocgocanloaaGreatDoor
