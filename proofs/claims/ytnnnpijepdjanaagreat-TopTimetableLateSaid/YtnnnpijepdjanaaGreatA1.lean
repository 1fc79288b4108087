/- Leaf functions: within, unless, first. -/
import Derived.Test.YtnnnpijepdjanaaGreatA0
namespace Go.Proofs.YtnnnpijepdjanaaGreat
open Go.RowKit

theorem within_any (n lo hi : Int) (w : World) :
    Calls Tryz.prog 53 #[.int .i64 n, .int .i64 lo, .int .i64 hi] w fun e w' => e = .returned (.bool (withinB n lo hi)) ∧ w = w' := by
  by_cases h1 : lo ≤ n <;> by_cases h2 : n ≤ hi
  all_goals
    go_enter Tryz.func53, Tryz.ntmps53
    go_wp2
    go_ret
    exact ⟨by simp [withinB, h1, h2], rfl⟩

theorem unless_any (b : Bool) (x : Int) (w : World) :
    Calls Tryz.prog 36 #[.bool b, .int .i64 x] w fun e w' => e = .returned (.int .i64 (unlessE b x)) ∧ w = w' := by
  cases b
  all_goals
    go_enter Tryz.func36, Tryz.ntmps36
    go_wp2
    go_ret
    exact ⟨by simp [unlessE], rfl⟩

theorem first_any (g n : Nat) (l : List Int) (w : World) (hn : n ≤ 1000) (hl : l.length = n)
    (h : ∀ k, k < n → w.cell? ⟨g, k, none⟩ = some (.int .i64 (l[k]?.getD 0))) :
    Calls Tryz.prog 28 #[.slice (some ⟨g, 0, none⟩) n n] w fun e w' => e = .returned (.int .i64 (firstE l)) ∧ w = w' := by
  have HL := Lib.hid hl; clear hl
  go_enter Tryz.func28, Tryz.ntmps28
  go_wp2
  go_loop [4, 7] (fun _ i => ∃ k : Nat, k ≤ n ∧ i = .int .i64 k ∧ firstE (l.drop k) = firstE l) (fun _ i => n - (intOf i).toNat)
  case atStart => exact ⟨0, Nat.zero_le _, rfl, rfl⟩
  case round =>
    obtain ⟨k, hk, rfl, he⟩ := hrel
    have HE := Lib.hid he; clear he
    by_cases hlt : k < n
    · have hc := h k hlt
      have hs : l.drop k = (l[k]?.getD 0) :: l.drop (k + 1) := by
        have : k < l.length := by rw [HL.out]; exact hlt
        rw [List.drop_eq_getElem_cons this]; simp [this]
      have HS := Lib.hid hs; clear hs
      by_cases hz : l[k]?.getD 0 = 0
      · have hz' : (l[k]?.getD 0 != 0) = false := by simp [hz]
        have HZ := Lib.hid hz; clear hz
        go_wp2
        go_round
        case rel => exact ⟨k + 1, by omega, by go_num, by rw [← HE.out, HS.out, firstE, if_pos HZ.out]⟩
        case measure => simp [intOf]; omega
      · have hz' : (l[k]?.getD 0 != 0) = true := by simp [hz]
        have HZ := Lib.hid hz; clear hz
        go_wp2
        go_ret
        exact ⟨by rw [← HE.out, HS.out, firstE, if_neg HZ.out]; rfl, rfl⟩
    · go_wp2
      go_ret
      have : l.drop k = [] := by rw [List.drop_eq_nil_iff]; rw [HL.out]; omega
      exact ⟨by rw [← HE.out, this]; rfl, rfl⟩

theorem first1 (w : World) (a : Int) :
    Calls Tryz.prog 28 #[.slice (some ⟨w.heap.size, 0, none⟩) 1 1] (w.alloc (.cells #[.int .i64 a] 35)) fun e w' =>
      e = .returned (.int .i64 (firstE [a])) ∧ w.alloc (.cells #[.int .i64 a] 35) = w' :=
  first_any _ 1 [a] _ (by decide) rfl (by
    intro k hk
    match k, hk with
    | 0, _ => simp)
theorem first2 (w : World) (a b : Int) :
    Calls Tryz.prog 28 #[.slice (some ⟨w.heap.size, 0, none⟩) 2 2] (w.alloc (.cells #[.int .i64 a, .int .i64 b] 35)) fun e w' =>
      e = .returned (.int .i64 (firstE [a, b])) ∧ w.alloc (.cells #[.int .i64 a, .int .i64 b] 35) = w' :=
  first_any _ 2 [a, b] _ (by decide) rfl (by
    intro k hk
    match k, hk with
    | 0, _ => simp
    | 1, _ => simp)
theorem first3 (w : World) (a b c : Int) :
    Calls Tryz.prog 28 #[.slice (some ⟨w.heap.size, 0, none⟩) 3 3] (w.alloc (.cells #[.int .i64 a, .int .i64 b, .int .i64 c] 35)) fun e w' =>
      e = .returned (.int .i64 (firstE [a, b, c])) ∧ w.alloc (.cells #[.int .i64 a, .int .i64 b, .int .i64 c] 35) = w' :=
  first_any _ 3 [a, b, c] _ (by decide) rfl (by
    intro k hk
    match k, hk with
    | 0, _ => simp
    | 1, _ => simp
    | 2, _ => simp)
theorem first4 (w : World) (a b c d : Int) :
    Calls Tryz.prog 28 #[.slice (some ⟨w.heap.size, 0, none⟩) 4 4] (w.alloc (.cells #[.int .i64 a, .int .i64 b, .int .i64 c, .int .i64 d] 35)) fun e w' =>
      e = .returned (.int .i64 (firstE [a, b, c, d])) ∧ w.alloc (.cells #[.int .i64 a, .int .i64 b, .int .i64 c, .int .i64 d] 35) = w' :=
  first_any _ 4 [a, b, c, d] _ (by decide) rfl (by
    intro k hk
    match k, hk with
    | 0, _ => simp
    | 1, _ => simp
    | 2, _ => simp
    | 3, _ => simp)
theorem first5 (w : World) (a b c d x5 : Int) :
    Calls Tryz.prog 28 #[.slice (some ⟨w.heap.size, 0, none⟩) 5 5] (w.alloc (.cells #[.int .i64 a, .int .i64 b, .int .i64 c, .int .i64 d, .int .i64 x5] 35)) fun e w' =>
      e = .returned (.int .i64 (firstE [a, b, c, d, x5])) ∧ w.alloc (.cells #[.int .i64 a, .int .i64 b, .int .i64 c, .int .i64 d, .int .i64 x5] 35) = w' :=
  first_any _ 5 [a, b, c, d, x5] _ (by decide) rfl (by
    intro k hk
    match k, hk with
    | 0, _ => simp
    | 1, _ => simp
    | 2, _ => simp
    | 3, _ => simp
    | 4, _ => simp)
theorem first6 (w : World) (a b c d x5 x6 : Int) :
    Calls Tryz.prog 28 #[.slice (some ⟨w.heap.size, 0, none⟩) 6 6] (w.alloc (.cells #[.int .i64 a, .int .i64 b, .int .i64 c, .int .i64 d, .int .i64 x5, .int .i64 x6] 35)) fun e w' =>
      e = .returned (.int .i64 (firstE [a, b, c, d, x5, x6])) ∧ w.alloc (.cells #[.int .i64 a, .int .i64 b, .int .i64 c, .int .i64 d, .int .i64 x5, .int .i64 x6] 35) = w' :=
  first_any _ 6 [a, b, c, d, x5, x6] _ (by decide) rfl (by
    intro k hk
    match k, hk with
    | 0, _ => simp
    | 1, _ => simp
    | 2, _ => simp
    | 3, _ => simp
    | 4, _ => simp
    | 5, _ => simp)
theorem Within_any (n lo hi : Int) (w : World) :
    Calls Tryz.prog 24 #[.int .i64 n, .int .i64 lo, .int .i64 hi] w fun e w' => e = .returned (.bool (withinB n lo hi)) ∧ w = w' := by
  by_cases h1 : lo ≤ n <;> by_cases h2 : n ≤ hi
  all_goals
    go_enter Tryz.func24, Tryz.ntmps24
    go_wp2
    go_ret
    exact ⟨by simp [withinB, h1, h2], rfl⟩


theorem Within_val (n lo hi : Int) (b : Bool) (h : withinB n lo hi = b) (w : World) :
    Calls Tryz.prog 24 #[.int .i64 n, .int .i64 lo, .int .i64 hi] w fun e w' => e = .returned (.bool b) ∧ w = w' := by
  rw [← h]
  exact Within_any n lo hi w
theorem within_val (n lo hi : Int) (b : Bool) (h : withinB n lo hi = b) (w : World) :
    Calls Tryz.prog 53 #[.int .i64 n, .int .i64 lo, .int .i64 hi] w fun e w' => e = .returned (.bool b) ∧ w = w' := by
  rw [← h]
  exact within_any n lo hi w
theorem isLeast_any (n : Int) (w : World) :
    Calls Tryz.prog 65 #[.int .i64 n] w fun e w' => e = .returned (.bool (withinB n 1 100000)) ∧ w = w' := by
  go_enter Tryz.func65, Tryz.ntmps65
  go_wp2_with (go_at_call 24; refine (Within_any _ _ _ _).mono ?_; rintro e w' ⟨rfl, rfl⟩)
  go_ret
  exact ⟨rfl, rfl⟩
theorem isLeast_val (n : Int) (b : Bool) (h : withinB n 1 100000 = b) (w : World) :
    Calls Tryz.prog 65 #[.int .i64 n] w fun e w' => e = .returned (.bool b) ∧ w = w' := by
  rw [← h]
  exact isLeast_any n w
end Go.Proofs.YtnnnpijepdjanaaGreat
