/- The code: a right activity. -/
import Derived.Test.YtnnnpijepdjanaaGreatA8
namespace Go.Proofs.YtnnnpijepdjanaaGreat
open Go.RowKit

theorem isEvent_val (n : Int) (x m : Nat) (b : Bool) (hb : withinB n 0 ((m : Int) - 1) = b) (hm : m ≤ 1000000000) (w : World) (hc : w.cell? ⟨x, 0, none⟩ = some (.int .i64 m)) :
    Calls Tryz.prog 100 #[.int .i64 n, .pointer (some ⟨x, 0, none⟩)] w fun e w' => e = .returned (.bool b) ∧ w = w' := by
  go_enter Tryz.func100, Tryz.ntmps100
  go_wp2_with (go_at_call 53; refine (within_val _ _ _ _ hb _).mono ?_; rintro e w' ⟨rfl, rfl⟩)
  go_ret
  exact ⟨rfl, rfl⟩
theorem isDuration_val (n : Int) (b : Bool) (hb : withinB n 1 100000 = b) (w : World) :
    Calls Tryz.prog 101 #[.int .i64 n] w fun e w' => e = .returned (.bool b) ∧ w = w' := by
  go_enter Tryz.func101, Tryz.ntmps101
  go_wp2_with (go_at_call 53; refine (within_val _ _ _ _ hb _).mono ?_; rintro e w' ⟨rfl, rfl⟩)
  go_ret
  exact ⟨rfl, rfl⟩
theorem withinB_true {n lo hi : Int} (h1 : lo ≤ n) (h2 : n ≤ hi) : withinB n lo hi = true := by
  simp [withinB, h1, h2]

set_option maxRecDepth 100000 in
set_option maxHeartbeats 8000000 in
theorem activityErr_right (w : World) (m : Nat) (a : Act) (hR : actR m a) (hm : m ≤ 1000000000) :
    Calls Tryz.prog 74 #[.int .i64 m, actV a] w fun e w' => e = .returned (.int .i64 0) ∧ Below w.heap.size w w' := by
  obtain ⟨k, s, d, l, x4, x⟩ := a
  obtain ⟨r1, r2, r3, r4, r5, r6, r7, r8⟩ := hR
  simp only at r1 r2 r3 r4 r5 r6 r7 r8
  have KW := fun W => within_val k 0 4 true (withinB_true r1.1 r1.2) W
  have XW := fun W => within_val x 0 100000 true (withinB_true r7.1 r7.2) W
  have SW := fun W h => isEvent_val s w.heap.size m true (withinB_true r2.1 (by omega)) hm W h
  have DW := fun W h => isEvent_val d w.heap.size m true (withinB_true r3.1 (by omega)) hm W h
  have LW := fun W => isDuration_val l true (withinB_true r5.1 r5.2) W
  have hsd : (s != d) = true := bne_iff_ne.2 r4
  obtain ⟨c0, c1, c2, c3, c4, c5⟩ := box6 (w.alloc (.cells #[.int .i64 m] 3)) 43 (.int .i64 k) (.int .i64 s) (.int .i64 d) (.int .i64 l) (.int .i64 x4) (.int .i64 x)
  have hz : (w.alloc (.cells #[.int .i64 m] 3)).heap.size = w.heap.size + 1 := by simp
  rw [hz] at c0 c1 c2 c3 c4 c5
  have hb0 : Below w.heap.size w ((w.alloc (.cells #[.int .i64 m] 3)).alloc (.cells #[.int .i64 k, .int .i64 s, .int .i64 d, .int .i64 l, .int .i64 x4, .int .i64 x] 43)) := ((Below.refl _ _).alloc (Nat.le_refl _) _).alloc (by simp) _
  have m0 : ((w.alloc (.cells #[.int .i64 m] 3)).alloc (.cells #[.int .i64 k, .int .i64 s, .int .i64 d, .int .i64 l, .int .i64 x4, .int .i64 x] 43)).cell? ⟨w.heap.size, 0, none⟩ = some (.int .i64 m) := by
    have h : ((w.alloc (.cells #[.int .i64 m] 3)).alloc (.cells #[.int .i64 k, .int .i64 s, .int .i64 d, .int .i64 l, .int .i64 x4, .int .i64 x] 43)).heap[w.heap.size]? = some (.cells #[.int .i64 m] 3 (0, 0)) := by
      rw [heapq_alloc, if_neg (by simp), heapq_alloc, if_pos rfl]
    rw [cell_of_row _ _ _ _ _ _ h]
    rfl
  have hs0 := hb0.size
  have HB := Lib.hid hb0
  clear hb0 hz r1 r2 r3 r4 r5 r7
  unfold actV
  go_enter Tryz.func74, Tryz.ntmps74
  go_upto_region 1 with (fail)
  generalize ((w.alloc (.cells #[.int .i64 m] 3)).alloc (.cells #[.int .i64 k, .int .i64 s, .int .i64 d, .int .i64 l, .int .i64 x4, .int .i64 x] 43)) = w0 at *
  by_cases hm1 : x4 = -1
  · subst hm1
    clear r6
    by_cases hk2 : k = 2
    · subst hk2
      clear r8
      go_upto_region 4 with (fail)
      have xm := fun y : Xt w0 => y.cell m0
      have x0 := fun y : Xt w0 => y.cell c0
      have x1 := fun y : Xt w0 => y.cell c1
      have x2 := fun y : Xt w0 => y.cell c2
      have x3 := fun y : Xt w0 => y.cell c3
      have y4 := fun y : Xt w0 => y.cell c4
      have x5 := fun y : Xt w0 => y.cell c5
      refine wp_region_cut [] [0, 1, 2, 3, 4, 5, 6, 7, 8, 9, 10, 11, 12, 13, 14, 15, 16, 17, 18, 19, 20, 21, 22, 23, 24, 25, 26, 27, 28, 29, 30, 31, 32, 33, 34, 35, 36, 37, 38, 39, 40, 41, 42, 43, 44, 45, 46, 47, 48, 49, 50, 51, 52, 53, 54, 55, 56, 57] 58 [59, 60] (fun w' => ∃ y : Xt w0, w' = y.1) (by kernel_rfl) (by kernel_rfl) ⟨⟨w0.drew, (Below.refl _ _).drew⟩, rfl⟩ ?_
      simp only [opsAt_nil, opsAt_cons, consOpt_some, List.getElem?_toArray, List.getElem?_cons_zero, List.getElem?_cons_succ]
      refine wpQuiet_nil ?_
      show wpQuiet _ _ _ _ _ _
      repeat (go_big_quiet_step (first | (go_at_call 36; exact Xt.calls_same (unless_any _ _ _)) | (go_at_call_of 53 (Value.int .i64 2); exact Xt.calls_same (KW _)) | (go_at_call_of 53 (Value.int .i64 x); exact Xt.calls_same (XW _)) | (go_at_call_of 100 (Value.int .i64 s); exact Xt.calls_same (SW _ (xm _))) | (go_at_call_of 100 (Value.int .i64 d); exact Xt.calls_same (DW _ (xm _))) | (go_at_call_of 101 (Value.int .i64 l); exact Xt.calls_same (LW _))))
      refine wpQuiet_nil ?_
      intro w1 hx
      have hbX := Xt.below hx
      clear hx xm x0 x1 x2 x3 y4 x5
      have F6 := fun a b c d e f => first6 w1 a b c d e f
      go_wp2_with (go_at_call 28; refine (F6 _ _ _ _ _ _).mono ?_; rintro e w' ⟨rfl, rfl⟩)
      refine onlyNormal_mk ?_
      clear F6
      generalize hE : firstE _ = E0
      have HE0 : Hid (E0 = 0) := by
        rw [Hid, ← hE]
        simp [firstE, unlessE]
      generalize hw2 : w1.alloc _ = w2
      have hbY : Below w0.heap.size w0 w2 := by rw [← hw2]; exact hbX.alloc hbX.size _
      clear hw2 hE hbX
      go_wp2
      go_ret
      exact ⟨by rw [HE0.out]; rfl, HB.out.trans (hbY.mono hs0)⟩
    · have hk : (k == 2) = false := beq_eq_false_iff_ne.2 hk2
      obtain rfl : x = 0 := by omega
      clear r8 hk2
      go_upto_region 4 with (fail)
      have xm := fun y : Xt w0 => y.cell m0
      have x0 := fun y : Xt w0 => y.cell c0
      have x1 := fun y : Xt w0 => y.cell c1
      have x2 := fun y : Xt w0 => y.cell c2
      have x3 := fun y : Xt w0 => y.cell c3
      have y4 := fun y : Xt w0 => y.cell c4
      have x5 := fun y : Xt w0 => y.cell c5
      refine wp_region_cut [] [0, 1, 2, 3, 4, 5, 6, 7, 8, 9, 10, 11, 12, 13, 14, 15, 16, 17, 18, 19, 20, 21, 22, 23, 24, 25, 26, 27, 28, 29, 30, 31, 32, 33, 34, 35, 36, 37, 38, 39, 40, 41, 42, 43, 44, 45, 46, 47, 48, 49, 50, 51, 52, 53, 54, 55, 56, 57] 58 [59, 60] (fun w' => ∃ y : Xt w0, w' = y.1) (by kernel_rfl) (by kernel_rfl) ⟨⟨w0.drew, (Below.refl _ _).drew⟩, rfl⟩ ?_
      simp only [opsAt_nil, opsAt_cons, consOpt_some, List.getElem?_toArray, List.getElem?_cons_zero, List.getElem?_cons_succ]
      refine wpQuiet_nil ?_
      show wpQuiet _ _ _ _ _ _
      repeat (go_big_quiet_step (first | (go_at_call 36; exact Xt.calls_same (unless_any _ _ _)) | (go_at_call_of 53 (Value.int .i64 k); exact Xt.calls_same (KW _)) | (go_at_call_of 53 (Value.int .i64 0); exact Xt.calls_same (XW _)) | (go_at_call_of 100 (Value.int .i64 s); exact Xt.calls_same (SW _ (xm _))) | (go_at_call_of 100 (Value.int .i64 d); exact Xt.calls_same (DW _ (xm _))) | (go_at_call_of 101 (Value.int .i64 l); exact Xt.calls_same (LW _))))
      refine wpQuiet_nil ?_
      intro w1 hx
      have hbX := Xt.below hx
      clear hx xm x0 x1 x2 x3 y4 x5
      have F6 := fun a b c d e f => first6 w1 a b c d e f
      go_wp2_with (go_at_call 28; refine (F6 _ _ _ _ _ _).mono ?_; rintro e w' ⟨rfl, rfl⟩)
      refine onlyNormal_mk ?_
      clear F6
      generalize hE : firstE _ = E0
      have HE0 : Hid (E0 = 0) := by
        rw [Hid, ← hE]
        simp [firstE, unlessE]
      generalize hw2 : w1.alloc _ = w2
      have hbY : Below w0.heap.size w0 w2 := by rw [← hw2]; exact hbX.alloc hbX.size _
      clear hw2 hE hbX
      go_wp2
      go_ret
      exact ⟨by rw [HE0.out]; rfl, HB.out.trans (hbY.mono hs0)⟩
  · have hm9 : (x4 == -1) = false := beq_eq_false_iff_ne.2 hm1
    have MW := fun W => isDuration_val x4 true (withinB_true (by omega) (by omega)) W
    have hlm : l ≤ x4 := by omega
    clear r6 hm1
    by_cases hk2 : k = 2
    · subst hk2
      clear r8
      go_upto_region 4 with (fail)
      have xm := fun y : Xt w0 => y.cell m0
      have x0 := fun y : Xt w0 => y.cell c0
      have x1 := fun y : Xt w0 => y.cell c1
      have x2 := fun y : Xt w0 => y.cell c2
      have x3 := fun y : Xt w0 => y.cell c3
      have y4 := fun y : Xt w0 => y.cell c4
      have x5 := fun y : Xt w0 => y.cell c5
      refine wp_region_cut [] [0, 1, 2, 3, 4, 5, 6, 7, 8, 9, 10, 11, 12, 13, 14, 15, 16, 17, 18, 19, 20, 21, 22, 23, 24, 25, 26, 27, 28, 29, 30, 31, 32, 33, 34, 35, 36, 37, 38, 39, 40, 41, 42, 43, 44, 45, 46, 47, 48, 49, 50, 51, 52, 53, 54, 55, 56, 57] 58 [59, 60] (fun w' => ∃ y : Xt w0, w' = y.1) (by kernel_rfl) (by kernel_rfl) ⟨⟨w0.drew, (Below.refl _ _).drew⟩, rfl⟩ ?_
      simp only [opsAt_nil, opsAt_cons, consOpt_some, List.getElem?_toArray, List.getElem?_cons_zero, List.getElem?_cons_succ]
      refine wpQuiet_nil ?_
      show wpQuiet _ _ _ _ _ _
      repeat (go_big_quiet_step (first | (go_at_call 36; exact Xt.calls_same (unless_any _ _ _)) | (go_at_call_of 53 (Value.int .i64 2); exact Xt.calls_same (KW _)) | (go_at_call_of 53 (Value.int .i64 x); exact Xt.calls_same (XW _)) | (go_at_call_of 100 (Value.int .i64 s); exact Xt.calls_same (SW _ (xm _))) | (go_at_call_of 100 (Value.int .i64 d); exact Xt.calls_same (DW _ (xm _))) | (go_at_call_of 101 (Value.int .i64 l); exact Xt.calls_same (LW _)) | (go_at_call_of 101 (Value.int .i64 x4); exact Xt.calls_same (MW _))))
      refine wpQuiet_nil ?_
      intro w1 hx
      have hbX := Xt.below hx
      clear hx xm x0 x1 x2 x3 y4 x5
      have F6 := fun a b c d e f => first6 w1 a b c d e f
      go_wp2_with (go_at_call 28; refine (F6 _ _ _ _ _ _).mono ?_; rintro e w' ⟨rfl, rfl⟩)
      refine onlyNormal_mk ?_
      clear F6
      generalize hE : firstE _ = E0
      have HE0 : Hid (E0 = 0) := by
        rw [Hid, ← hE]
        simp [firstE, unlessE]
      generalize hw2 : w1.alloc _ = w2
      have hbY : Below w0.heap.size w0 w2 := by rw [← hw2]; exact hbX.alloc hbX.size _
      clear hw2 hE hbX
      go_wp2
      go_ret
      exact ⟨by rw [HE0.out]; rfl, HB.out.trans (hbY.mono hs0)⟩
    · have hk : (k == 2) = false := beq_eq_false_iff_ne.2 hk2
      obtain rfl : x = 0 := by omega
      clear r8 hk2
      go_upto_region 4 with (fail)
      have xm := fun y : Xt w0 => y.cell m0
      have x0 := fun y : Xt w0 => y.cell c0
      have x1 := fun y : Xt w0 => y.cell c1
      have x2 := fun y : Xt w0 => y.cell c2
      have x3 := fun y : Xt w0 => y.cell c3
      have y4 := fun y : Xt w0 => y.cell c4
      have x5 := fun y : Xt w0 => y.cell c5
      refine wp_region_cut [] [0, 1, 2, 3, 4, 5, 6, 7, 8, 9, 10, 11, 12, 13, 14, 15, 16, 17, 18, 19, 20, 21, 22, 23, 24, 25, 26, 27, 28, 29, 30, 31, 32, 33, 34, 35, 36, 37, 38, 39, 40, 41, 42, 43, 44, 45, 46, 47, 48, 49, 50, 51, 52, 53, 54, 55, 56, 57] 58 [59, 60] (fun w' => ∃ y : Xt w0, w' = y.1) (by kernel_rfl) (by kernel_rfl) ⟨⟨w0.drew, (Below.refl _ _).drew⟩, rfl⟩ ?_
      simp only [opsAt_nil, opsAt_cons, consOpt_some, List.getElem?_toArray, List.getElem?_cons_zero, List.getElem?_cons_succ]
      refine wpQuiet_nil ?_
      show wpQuiet _ _ _ _ _ _
      repeat (go_big_quiet_step (first | (go_at_call 36; exact Xt.calls_same (unless_any _ _ _)) | (go_at_call_of 53 (Value.int .i64 k); exact Xt.calls_same (KW _)) | (go_at_call_of 53 (Value.int .i64 0); exact Xt.calls_same (XW _)) | (go_at_call_of 100 (Value.int .i64 s); exact Xt.calls_same (SW _ (xm _))) | (go_at_call_of 100 (Value.int .i64 d); exact Xt.calls_same (DW _ (xm _))) | (go_at_call_of 101 (Value.int .i64 l); exact Xt.calls_same (LW _)) | (go_at_call_of 101 (Value.int .i64 x4); exact Xt.calls_same (MW _))))
      refine wpQuiet_nil ?_
      intro w1 hx
      have hbX := Xt.below hx
      clear hx xm x0 x1 x2 x3 y4 x5
      have F6 := fun a b c d e f => first6 w1 a b c d e f
      go_wp2_with (go_at_call 28; refine (F6 _ _ _ _ _ _).mono ?_; rintro e w' ⟨rfl, rfl⟩)
      refine onlyNormal_mk ?_
      clear F6
      generalize hE : firstE _ = E0
      have HE0 : Hid (E0 = 0) := by
        rw [Hid, ← hE]
        simp [firstE, unlessE]
      generalize hw2 : w1.alloc _ = w2
      have hbY : Below w0.heap.size w0 w2 := by rw [← hw2]; exact hbX.alloc hbX.size _
      clear hw2 hE hbX
      go_wp2
      go_ret
      exact ⟨by rw [HE0.out]; rfl, HB.out.trans (hbY.mono hs0)⟩
end Go.Proofs.YtnnnpijepdjanaaGreat
