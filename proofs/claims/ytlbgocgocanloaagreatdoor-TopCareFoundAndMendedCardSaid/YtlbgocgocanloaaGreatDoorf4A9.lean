/- (alarm, calm) apply: an event of a train, the other kinds. -/
import Derived.Test.YtlbgocgocanloaaGreatDoorf4A7
namespace Go.Proofs.YtlbgocgocanloaaGreatDoor
open Go.RowKit
section
variable {B g bg bd cg cd D : Nat} {T S : Int} {s : Tr}
set_option maxHeartbeats 4000000 in
theorem apply_alarm (w : World) (pl dr : Int) (hB : B ≤ w.heap.size) (hD : D ≤ 1000000) (hk : KindsAt w) (h : TrainAt w B g bg bd cg cd D T S s) :
    Calls Tryz.prog 63 #[.pointer (some ⟨g, 0, none⟩), .agg #[.int .i64 6, .int .i64 pl, .int .i64 dr]] w fun e w' =>
      e = .returned (.int .i64 (applyE D T S s 6 pl dr)) ∧ (applyE D T S s 6 pl dr = 0 → TrainAt w' B g bg bd cg cd D T S (applyS s 6 pl dr)) ∧ Below B w w' := by
  have kw : withinB 6 0 7 = true := by decide
  have h0 := h.alloc (.cells #[.int .i64 6, .int .i64 pl, .int .i64 dr] 23)
  have hk0 := hk.below ((Below.refl _ _).alloc (Nat.le_refl _) (.cells #[.int .i64 6, .int .i64 pl, .int .i64 dr] 23))
  have hb0 : Below B w (w.alloc (.cells #[.int .i64 6, .int .i64 pl, .int .i64 dr] 23)) := (Below.refl _ _).alloc hB _
  have e0 : (w.alloc (.cells #[.int .i64 6, .int .i64 pl, .int .i64 dr] 23)).cell? ⟨w.heap.size, 0, none⟩ = some (.int .i64 6) := by simp
  have e1 : (w.alloc (.cells #[.int .i64 6, .int .i64 pl, .int .i64 dr] 23)).cell? ⟨w.heap.size, 1, none⟩ = some (.int .i64 pl) := by simp
  have e2 : (w.alloc (.cells #[.int .i64 6, .int .i64 pl, .int .i64 dr] 23)).cell? ⟨w.heap.size, 2, none⟩ = some (.int .i64 dr) := by simp
  have k0 := hk0 24 _ rfl
  have k1 := hk0 25 _ rfl
  have k2 := hk0 26 _ rfl
  have k3 := hk0 27 _ rfl
  have hF := hk0 _ _ (show kindCells[27]? = some (.func (.func 237) #[] #[]) from rfl)
  clear hF
  unfold strB at k0
  go_enter Tryz.func63, Tryz.ntmps63
  go_wp2_with fail
  generalize w.alloc (.cells #[.int .i64 6, .int .i64 pl, .int .i64 dr] 23) = w0 at *
  refine (within_any _ _ _ _).mono ?_
  rintro e w' ⟨rfl, rfl⟩
  go_wp2_with fail
  have e0' := cell_alloc_old (.cells #[.string ⟨#[97, 108, 97, 114, 109]⟩, .bool false, .bool false, .func (.func 237) #[] #[]] 100) e0
  have e1' := cell_alloc_old (.cells #[.string ⟨#[97, 108, 97, 114, 109]⟩, .bool false, .bool false, .func (.func 237) #[] #[]] 100) e1
  have e2' := cell_alloc_old (.cells #[.string ⟨#[97, 108, 97, 114, 109]⟩, .bool false, .bool false, .func (.func 237) #[] #[]] 100) e2
  have h1 := h0.alloc (.cells #[.string ⟨#[97, 108, 97, 114, 109]⟩, .bool false, .bool false, .func (.func 237) #[] #[]] 100)
  have hB1 : B ≤ w0.heap.size := Nat.le_trans hB hb0.size
  have hb1 : Below B w (w0.alloc (.cells #[.string ⟨#[97, 108, 97, 114, 109]⟩, .bool false, .bool false, .func (.func 237) #[] #[]] 100)) := hb0.alloc hB1 _
  have l1 : (w0.alloc (.cells #[.string ⟨#[97, 108, 97, 114, 109]⟩, .bool false, .bool false, .func (.func 237) #[] #[]] 100)).cell? ⟨w0.heap.size, 1, none⟩ = some (.bool false) := by simp
  have l2 : (w0.alloc (.cells #[.string ⟨#[97, 108, 97, 114, 109]⟩, .bool false, .bool false, .func (.func 237) #[] #[]] 100)).cell? ⟨w0.heap.size, 2, none⟩ = some (.bool false) := by simp
  have l3 : (w0.alloc (.cells #[.string ⟨#[97, 108, 97, 114, 109]⟩, .bool false, .bool false, .func (.func 237) #[] #[]] 100)).cell? ⟨w0.heap.size, 3, none⟩ = some (.func (.func 237) #[] #[]) := by simp
  have hB2 : B ≤ (w0.alloc (.cells #[.string ⟨#[97, 108, 97, 114, 109]⟩, .bool false, .bool false, .func (.func 237) #[] #[]] 100)).heap.size := Nat.le_trans hB hb1.size
  clear k0 k1 k2 k3 hk0 e0 e1 e2 h0 hb0
  generalize w0.alloc (.cells #[.string ⟨#[97, 108, 97, 114, 109]⟩, .bool false, .bool false, .func (.func 237) #[] #[]] 100) = w1 at *
  generalize w0.heap.size = gl at *
  have c5 := h1.cell 5
  simp at c5
  have x0 := fun x : Xt w1 => x.cell e0'
  have x1 := fun x : Xt w1 => x.cell e1'
  have x2 := fun x : Xt w1 => x.cell e2'
  have x3 := fun x : Xt w1 => x.cell l1
  have x4 := fun x : Xt w1 => x.cell l2
  have x5 := fun x : Xt w1 => x.cell c5
  cases hp0 : (pl == 0) <;> cases hd0 : (dr == 0)
  all_goals
    refine wp_region_cut [] [0, 1, 2, 3, 4, 5, 6, 7, 8, 9, 10, 11, 12, 13, 14, 15, 16, 17, 18, 19, 20, 21, 22, 23, 24, 25, 26, 27, 28, 29, 30, 31, 32, 33, 34, 35, 36, 37, 38, 39, 40] 41 [42, 43] (fun w' => ∃ x : Xt w1, w' = x.1) (by kernel_rfl) (by kernel_rfl) ⟨⟨w1.drew, (Below.refl _ _).drew⟩, rfl⟩ ?_
    simp only [opsAt_nil, opsAt_cons, consOpt_some, List.getElem?_toArray, List.getElem?_cons_zero, List.getElem?_cons_succ]
    refine wpQuiet_nil ?_
    show wpQuiet _ _ _ _ _ _
    repeat (go_big_quiet_step (first | (go_at_call 62; exact Xt.calls_same (unless_any _ _ _)) | (go_at_call 41; exact Xt.calls_same (within_any _ _ _ _)) | (go_at_call 99; exact Xt.calls_same (isPlace_any _ _))))
    refine wpQuiet_nil ?_
    intro w2 hx
    have hb2 := Xt.below hx
    clear hx
    have h2 := h1.below hb2
    have e0 := kept hb2 e0'
    have e1 := kept hb2 e1'
    have e2 := kept hb2 e2'
    have m3 := kept hb2 l3
    have q1 : gl < w2.heap.size := lt_of_cell m3
    have q2 : w.heap.size < w2.heap.size := lt_of_cell e0
    clear x0 x1 x2 x3 x4 x5 e0' e1' e2' l1 l2 l3 c5
    go_wp2_with (go_at_call 61; refine (first3 _ _ _ _).mono ?_; rintro e w' ⟨rfl, rfl⟩)
    refine onlyNormal_mk ?_
    generalize hE : firstE _ = E
    have hev : evE D false false pl dr = E := by rw [← hE]; simp [evE, hp0, hd0]
    have HEV := Lib.hid hev
    clear hev hE
    have hB3 : B ≤ w2.heap.size := Nat.le_trans hB2 hb2.size
    have hb2' : Below B w w2 := hb1.trans (hb2.mono hB2)
    have hb3 : ∀ o, Below B w (w2.alloc o) := fun o => hb2'.alloc hB3 o
    cases hz : (E != 0)
    · have hE0 : E = 0 := by simpa using hz
      have HE0 := Lib.hid hE0
      clear hE0
      go_wp2_with (go_at_call 237; refine (alarm_any _ _ _ _ (by have := (hb3 (.cells #[] 0)).size; simp at this ⊢; omega) (by omega) (h2.alloc _)).mono ?_; rintro e w' ⟨rfl, hT', hbm⟩)
      go_ret
      have hA : applyE D T S s 6 pl dr = alarmE s := by rw [apply_alarm_eq, HEV.out, HE0.out]; rfl
      exact ⟨by rw [hA]; rfl, fun h => hT' (by rw [← hA]; exact h), (hb3 _).trans hbm⟩
    · have hE0 : E ≠ 0 := by simpa using hz
      have HE0 := Lib.hid hE0
      clear hE0
      go_wp2
      go_ret
      have hA : applyE D T S s 6 pl dr = E := by rw [apply_alarm_eq, HEV.out, seqE, if_neg HE0.out]
      exact ⟨by rw [hA]; rfl, fun h => absurd (hA.symm.trans h) HE0.out, hb3 _⟩
set_option maxHeartbeats 4000000 in
theorem apply_calm (w : World) (pl dr : Int) (hB : B ≤ w.heap.size) (hD : D ≤ 1000000) (hk : KindsAt w) (h : TrainAt w B g bg bd cg cd D T S s) :
    Calls Tryz.prog 63 #[.pointer (some ⟨g, 0, none⟩), .agg #[.int .i64 7, .int .i64 pl, .int .i64 dr]] w fun e w' =>
      e = .returned (.int .i64 (applyE D T S s 7 pl dr)) ∧ (applyE D T S s 7 pl dr = 0 → TrainAt w' B g bg bd cg cd D T S (applyS s 7 pl dr)) ∧ Below B w w' := by
  have kw : withinB 7 0 7 = true := by decide
  have h0 := h.alloc (.cells #[.int .i64 7, .int .i64 pl, .int .i64 dr] 23)
  have hk0 := hk.below ((Below.refl _ _).alloc (Nat.le_refl _) (.cells #[.int .i64 7, .int .i64 pl, .int .i64 dr] 23))
  have hb0 : Below B w (w.alloc (.cells #[.int .i64 7, .int .i64 pl, .int .i64 dr] 23)) := (Below.refl _ _).alloc hB _
  have e0 : (w.alloc (.cells #[.int .i64 7, .int .i64 pl, .int .i64 dr] 23)).cell? ⟨w.heap.size, 0, none⟩ = some (.int .i64 7) := by simp
  have e1 : (w.alloc (.cells #[.int .i64 7, .int .i64 pl, .int .i64 dr] 23)).cell? ⟨w.heap.size, 1, none⟩ = some (.int .i64 pl) := by simp
  have e2 : (w.alloc (.cells #[.int .i64 7, .int .i64 pl, .int .i64 dr] 23)).cell? ⟨w.heap.size, 2, none⟩ = some (.int .i64 dr) := by simp
  have k0 := hk0 28 _ rfl
  have k1 := hk0 29 _ rfl
  have k2 := hk0 30 _ rfl
  have k3 := hk0 31 _ rfl
  have hF := hk0 _ _ (show kindCells[31]? = some (.func (.func 238) #[] #[]) from rfl)
  clear hF
  unfold strB at k0
  go_enter Tryz.func63, Tryz.ntmps63
  go_wp2_with fail
  generalize w.alloc (.cells #[.int .i64 7, .int .i64 pl, .int .i64 dr] 23) = w0 at *
  refine (within_any _ _ _ _).mono ?_
  rintro e w' ⟨rfl, rfl⟩
  go_wp2_with fail
  have e0' := cell_alloc_old (.cells #[.string ⟨#[99, 97, 108, 109]⟩, .bool false, .bool false, .func (.func 238) #[] #[]] 100) e0
  have e1' := cell_alloc_old (.cells #[.string ⟨#[99, 97, 108, 109]⟩, .bool false, .bool false, .func (.func 238) #[] #[]] 100) e1
  have e2' := cell_alloc_old (.cells #[.string ⟨#[99, 97, 108, 109]⟩, .bool false, .bool false, .func (.func 238) #[] #[]] 100) e2
  have h1 := h0.alloc (.cells #[.string ⟨#[99, 97, 108, 109]⟩, .bool false, .bool false, .func (.func 238) #[] #[]] 100)
  have hB1 : B ≤ w0.heap.size := Nat.le_trans hB hb0.size
  have hb1 : Below B w (w0.alloc (.cells #[.string ⟨#[99, 97, 108, 109]⟩, .bool false, .bool false, .func (.func 238) #[] #[]] 100)) := hb0.alloc hB1 _
  have l1 : (w0.alloc (.cells #[.string ⟨#[99, 97, 108, 109]⟩, .bool false, .bool false, .func (.func 238) #[] #[]] 100)).cell? ⟨w0.heap.size, 1, none⟩ = some (.bool false) := by simp
  have l2 : (w0.alloc (.cells #[.string ⟨#[99, 97, 108, 109]⟩, .bool false, .bool false, .func (.func 238) #[] #[]] 100)).cell? ⟨w0.heap.size, 2, none⟩ = some (.bool false) := by simp
  have l3 : (w0.alloc (.cells #[.string ⟨#[99, 97, 108, 109]⟩, .bool false, .bool false, .func (.func 238) #[] #[]] 100)).cell? ⟨w0.heap.size, 3, none⟩ = some (.func (.func 238) #[] #[]) := by simp
  have hB2 : B ≤ (w0.alloc (.cells #[.string ⟨#[99, 97, 108, 109]⟩, .bool false, .bool false, .func (.func 238) #[] #[]] 100)).heap.size := Nat.le_trans hB hb1.size
  clear k0 k1 k2 k3 hk0 e0 e1 e2 h0 hb0
  generalize w0.alloc (.cells #[.string ⟨#[99, 97, 108, 109]⟩, .bool false, .bool false, .func (.func 238) #[] #[]] 100) = w1 at *
  generalize w0.heap.size = gl at *
  have c5 := h1.cell 5
  simp at c5
  have x0 := fun x : Xt w1 => x.cell e0'
  have x1 := fun x : Xt w1 => x.cell e1'
  have x2 := fun x : Xt w1 => x.cell e2'
  have x3 := fun x : Xt w1 => x.cell l1
  have x4 := fun x : Xt w1 => x.cell l2
  have x5 := fun x : Xt w1 => x.cell c5
  cases hp0 : (pl == 0) <;> cases hd0 : (dr == 0)
  all_goals
    refine wp_region_cut [] [0, 1, 2, 3, 4, 5, 6, 7, 8, 9, 10, 11, 12, 13, 14, 15, 16, 17, 18, 19, 20, 21, 22, 23, 24, 25, 26, 27, 28, 29, 30, 31, 32, 33, 34, 35, 36, 37, 38, 39, 40] 41 [42, 43] (fun w' => ∃ x : Xt w1, w' = x.1) (by kernel_rfl) (by kernel_rfl) ⟨⟨w1.drew, (Below.refl _ _).drew⟩, rfl⟩ ?_
    simp only [opsAt_nil, opsAt_cons, consOpt_some, List.getElem?_toArray, List.getElem?_cons_zero, List.getElem?_cons_succ]
    refine wpQuiet_nil ?_
    show wpQuiet _ _ _ _ _ _
    repeat (go_big_quiet_step (first | (go_at_call 62; exact Xt.calls_same (unless_any _ _ _)) | (go_at_call 41; exact Xt.calls_same (within_any _ _ _ _)) | (go_at_call 99; exact Xt.calls_same (isPlace_any _ _))))
    refine wpQuiet_nil ?_
    intro w2 hx
    have hb2 := Xt.below hx
    clear hx
    have h2 := h1.below hb2
    have e0 := kept hb2 e0'
    have e1 := kept hb2 e1'
    have e2 := kept hb2 e2'
    have m3 := kept hb2 l3
    have q1 : gl < w2.heap.size := lt_of_cell m3
    have q2 : w.heap.size < w2.heap.size := lt_of_cell e0
    clear x0 x1 x2 x3 x4 x5 e0' e1' e2' l1 l2 l3 c5
    go_wp2_with (go_at_call 61; refine (first3 _ _ _ _).mono ?_; rintro e w' ⟨rfl, rfl⟩)
    refine onlyNormal_mk ?_
    generalize hE : firstE _ = E
    have hev : evE D false false pl dr = E := by rw [← hE]; simp [evE, hp0, hd0]
    have HEV := Lib.hid hev
    clear hev hE
    have hB3 : B ≤ w2.heap.size := Nat.le_trans hB2 hb2.size
    have hb2' : Below B w w2 := hb1.trans (hb2.mono hB2)
    have hb3 : ∀ o, Below B w (w2.alloc o) := fun o => hb2'.alloc hB3 o
    cases hz : (E != 0)
    · have hE0 : E = 0 := by simpa using hz
      have HE0 := Lib.hid hE0
      clear hE0
      go_wp2_with (go_at_call 238; refine (calm_any _ _ _ _ (by have := (hb3 (.cells #[] 0)).size; simp at this ⊢; omega) (by omega) (h2.alloc _)).mono ?_; rintro e w' ⟨rfl, hT', hbm⟩)
      go_ret
      have hA : applyE D T S s 7 pl dr = calmE s := by rw [apply_calm_eq, HEV.out, HE0.out]; rfl
      exact ⟨by rw [hA]; rfl, fun h => hT' (by rw [← hA]; exact h), (hb3 _).trans hbm⟩
    · have hE0 : E ≠ 0 := by simpa using hz
      have HE0 := Lib.hid hE0
      clear hE0
      go_wp2
      go_ret
      have hA : applyE D T S s 7 pl dr = E := by rw [apply_calm_eq, HEV.out, seqE, if_neg HE0.out]
      exact ⟨by rw [hA]; rfl, fun h => absurd (hA.symm.trans h) HE0.out, hb3 _⟩
end
end Go.Proofs.YtlbgocgocanloaaGreatDoor
