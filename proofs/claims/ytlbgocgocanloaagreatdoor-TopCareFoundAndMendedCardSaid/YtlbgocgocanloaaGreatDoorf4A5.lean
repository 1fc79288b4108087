/- The events of a train: leave, stop, gate, bar, open, shut, alarm, calm. -/
import Derived.Test.YtlbgocgocanloaaGreatDoorf4A4
namespace Go.Proofs.YtlbgocgocanloaaGreatDoor
open Go.RowKit
theorem xprop {w : World} (x : Xt w) : Below w.heap.size w x.1 := x.2
theorem below_setW {B : Nat} {w W : World} {p : Addr} {to : Bool} {err : Int} (h : Below B w W) (hp : B ≤ p.block) : Below B w (setW W p to err) := by
  unfold setW
  split
  · exact h.setCell hp _
  · exact h
theorem trainAt_setW {W : World} {B g bg bd cg cd D : Nat} {T S : Int} {s : Tr} {p : Addr} {to : Bool} {err : Int} (he : err = 0) (h : TrainAt (W.setCell p (.bool to)) B g bg bd cg cd D T S s) :
    TrainAt (setW W p to err) B g bg bd cg cd D T S s := by
  unfold setW
  rw [if_pos he]
  exact h
theorem below_tail {B : Nat} {w w0 w1 : World} (hb0 : Below B w w0) (hB : B ≤ w.heap.size) (hb1 : Below w0.heap.size w0 w1) (o : Obj) {p : Addr} (to : Bool) (err : Int) (hp : B ≤ p.block) :
    Below B w (setW (w1.alloc o) p to err) := by
  have h1 : B ≤ w0.heap.size := Nat.le_trans hB hb0.size
  exact below_setW ((hb0.trans (hb1.mono h1)).alloc (Nat.le_trans h1 hb1.size) o) hp
section
variable {B g bg bd cg cd D : Nat} {T S : Int} {s : Tr}
def leaveE (s : Tr) : Int := firstE [unlessE (!s.mv) 22, unlessE (!isOpenB s) 23]
theorem leave_any (w : World) (k pl dr : Int) (hB : B ≤ w.heap.size) (hD : D ≤ 1000000000) (h : TrainAt w B g bg bd cg cd D T S s) :
    Calls Tryz.prog 231 #[.pointer (some ⟨g, 0, none⟩), .agg #[.int .i64 k, .int .i64 pl, .int .i64 dr]] w fun e w' =>
      e = .returned (.int .i64 (leaveE s)) ∧ ((leaveE s) = 0 → TrainAt w' B g bg bd cg cd D T S { s with mv := true }) ∧ Below B w w' := by
  go_enter Tryz.func231, Tryz.ntmps231
  go_wp2
  have h0 := h.alloc (.cells #[.int .i64 k, .int .i64 pl, .int .i64 dr] 23)
  have hb0 : Below B w (w.alloc (.cells #[.int .i64 k, .int .i64 pl, .int .i64 dr] 23)) := (Below.refl _ _).alloc hB _
  have e1 : (w.alloc (.cells #[.int .i64 k, .int .i64 pl, .int .i64 dr] 23)).cell? ⟨w.heap.size, 1, none⟩ = some (.int .i64 pl) := by simp
  have e2 : (w.alloc (.cells #[.int .i64 k, .int .i64 pl, .int .i64 dr] 23)).cell? ⟨w.heap.size, 2, none⟩ = some (.int .i64 dr) := by simp
  generalize w.alloc (.cells #[.int .i64 k, .int .i64 pl, .int .i64 dr] 23) = w0 at *
  have c0 := h0.cell 0
  simp at c0
  have x0 := fun x : Xt w0 => x.cell c0
  refine wp_region_cut [0, 1, 2, 3] [4, 5, 6, 7, 8, 9, 10, 11, 12, 13, 14] 15 [16, 17] (fun w' => ∃ x : Xt w0, w' = x.1) (by kernel_rfl) (by kernel_rfl) ⟨⟨w0.drew, (Below.refl _ _).drew⟩, rfl⟩ ?_
  simp only [opsAt_nil, opsAt_cons, consOpt_some, List.getElem?_toArray, List.getElem?_cons_zero, List.getElem?_cons_succ]
  repeat (go_big_quiet_step (fail))
  refine wpQuiet_nil ?_
  show wpQuiet _ _ _ _ _ _
  repeat (go_big_quiet_step (first | (go_at_call 62; exact Xt.calls_same (unless_any _ _ _)) | (go_at_call 101; exact Xt.calls_same (isOpen_any _ hD (h0.below (xprop _))))))
  refine wpQuiet_nil ?_
  intro w1 hx
  have hb1 := Xt.below hx
  clear hx
  have h1 := h0.below hb1
  go_wp2_with (go_at_call 239; refine (set2 w1 g 0 _ s.mv _ _ (kept hb1 c0) (h1.frozen 0)).mono ?_; rintro e w' ⟨rfl, hw2⟩)
  refine onlyNormal_mk ?_
  go_wp2
  go_ret
  exact ⟨rfl, fun hE => (by rw [← hw2]; exact trainAt_setW hE ((h1.alloc _).setMv true)), (by rw [← hw2]; exact below_tail hb0 hB hb1 _ _ _ h.hB)⟩
def alarmE (s : Tr) : Int := firstE [unlessE (!s.al) 26]
theorem alarm_any (w : World) (k pl dr : Int) (hB : B ≤ w.heap.size) (_hD : D ≤ 1000000000) (h : TrainAt w B g bg bd cg cd D T S s) :
    Calls Tryz.prog 237 #[.pointer (some ⟨g, 0, none⟩), .agg #[.int .i64 k, .int .i64 pl, .int .i64 dr]] w fun e w' =>
      e = .returned (.int .i64 (alarmE s)) ∧ ((alarmE s) = 0 → TrainAt w' B g bg bd cg cd D T S { s with al := true }) ∧ Below B w w' := by
  go_enter Tryz.func237, Tryz.ntmps237
  go_wp2
  have h0 := h.alloc (.cells #[.int .i64 k, .int .i64 pl, .int .i64 dr] 23)
  have hb0 : Below B w (w.alloc (.cells #[.int .i64 k, .int .i64 pl, .int .i64 dr] 23)) := (Below.refl _ _).alloc hB _
  have e1 : (w.alloc (.cells #[.int .i64 k, .int .i64 pl, .int .i64 dr] 23)).cell? ⟨w.heap.size, 1, none⟩ = some (.int .i64 pl) := by simp
  have e2 : (w.alloc (.cells #[.int .i64 k, .int .i64 pl, .int .i64 dr] 23)).cell? ⟨w.heap.size, 2, none⟩ = some (.int .i64 dr) := by simp
  generalize w.alloc (.cells #[.int .i64 k, .int .i64 pl, .int .i64 dr] 23) = w0 at *
  have c1 := h0.cell 1
  simp at c1
  have x1 := fun x : Xt w0 => x.cell c1
  refine wp_region_cut [0, 1, 2, 3] [4, 5, 6, 7, 8, 9, 10] 11 [12, 13] (fun w' => ∃ x : Xt w0, w' = x.1) (by kernel_rfl) (by kernel_rfl) ⟨⟨w0.drew, (Below.refl _ _).drew⟩, rfl⟩ ?_
  simp only [opsAt_nil, opsAt_cons, consOpt_some, List.getElem?_toArray, List.getElem?_cons_zero, List.getElem?_cons_succ]
  repeat (go_big_quiet_step (fail))
  refine wpQuiet_nil ?_
  show wpQuiet _ _ _ _ _ _
  repeat (go_big_quiet_step (first | (go_at_call 62; exact Xt.calls_same (unless_any _ _ _))))
  refine wpQuiet_nil ?_
  intro w1 hx
  have hb1 := Xt.below hx
  clear hx
  have h1 := h0.below hb1
  go_wp2_with (go_at_call 239; refine (set1 w1 g 1 _ s.al _ (kept hb1 c1) (h1.frozen 1)).mono ?_; rintro e w' ⟨rfl, hw2⟩)
  refine onlyNormal_mk ?_
  go_wp2
  go_ret
  exact ⟨rfl, fun hE => (by rw [← hw2]; exact trainAt_setW hE ((h1.alloc _).setAl true)), (by rw [← hw2]; exact below_tail hb0 hB hb1 _ _ _ h.hB)⟩
def calmE (s : Tr) : Int := firstE [unlessE s.al 12, unlessE (!bareB s) 23]
theorem calm_any (w : World) (k pl dr : Int) (hB : B ≤ w.heap.size) (hD : D ≤ 1000000000) (h : TrainAt w B g bg bd cg cd D T S s) :
    Calls Tryz.prog 238 #[.pointer (some ⟨g, 0, none⟩), .agg #[.int .i64 k, .int .i64 pl, .int .i64 dr]] w fun e w' =>
      e = .returned (.int .i64 (calmE s)) ∧ ((calmE s) = 0 → TrainAt w' B g bg bd cg cd D T S { s with al := false }) ∧ Below B w w' := by
  go_enter Tryz.func238, Tryz.ntmps238
  go_wp2
  have h0 := h.alloc (.cells #[.int .i64 k, .int .i64 pl, .int .i64 dr] 23)
  have hb0 : Below B w (w.alloc (.cells #[.int .i64 k, .int .i64 pl, .int .i64 dr] 23)) := (Below.refl _ _).alloc hB _
  have e1 : (w.alloc (.cells #[.int .i64 k, .int .i64 pl, .int .i64 dr] 23)).cell? ⟨w.heap.size, 1, none⟩ = some (.int .i64 pl) := by simp
  have e2 : (w.alloc (.cells #[.int .i64 k, .int .i64 pl, .int .i64 dr] 23)).cell? ⟨w.heap.size, 2, none⟩ = some (.int .i64 dr) := by simp
  generalize w.alloc (.cells #[.int .i64 k, .int .i64 pl, .int .i64 dr] 23) = w0 at *
  have c1 := h0.cell 1
  simp at c1
  have x1 := fun x : Xt w0 => x.cell c1
  refine wp_region_cut [0, 1, 2, 3] [4, 5, 6, 7, 8, 9, 10, 11, 12, 13] 14 [15, 16] (fun w' => ∃ x : Xt w0, w' = x.1) (by kernel_rfl) (by kernel_rfl) ⟨⟨w0.drew, (Below.refl _ _).drew⟩, rfl⟩ ?_
  simp only [opsAt_nil, opsAt_cons, consOpt_some, List.getElem?_toArray, List.getElem?_cons_zero, List.getElem?_cons_succ]
  repeat (go_big_quiet_step (fail))
  refine wpQuiet_nil ?_
  show wpQuiet _ _ _ _ _ _
  repeat (go_big_quiet_step (first | (go_at_call 62; exact Xt.calls_same (unless_any _ _ _)) | (go_at_call 104; exact Xt.calls_same (bare_any _ hD (h0.below (xprop _))))))
  refine wpQuiet_nil ?_
  intro w1 hx
  have hb1 := Xt.below hx
  clear hx
  have h1 := h0.below hb1
  go_wp2_with (go_at_call 239; refine (set2 w1 g 1 _ s.al _ _ (kept hb1 c1) (h1.frozen 1)).mono ?_; rintro e w' ⟨rfl, hw2⟩)
  refine onlyNormal_mk ?_
  go_wp2
  go_ret
  exact ⟨rfl, fun hE => (by rw [← hw2]; exact trainAt_setW hE ((h1.alloc _).setAl false)), (by rw [← hw2]; exact below_tail hb0 hB hb1 _ _ _ h.hB)⟩
def gateE (T S : Int) (s : Tr) (d : Nat) : Int := firstE [unlessE (!s.mv) 22, unlessE (inPlaceB T S s.place) 9, unlessE (!(s.gates[d]?.getD false)) 26]
theorem gate_any (w : World) (k pl : Int) (d : Nat) (hB : B ≤ w.heap.size) (_hD : D ≤ 1000000000) (h : TrainAt w B g bg bd cg cd D T S s) (hp : 0 ≤ s.place ∧ s.place ≤ 1000000000) (hT : 0 ≤ T ∧ T ≤ 1000000000) (hd : d < D) :
    Calls Tryz.prog 233 #[.pointer (some ⟨g, 0, none⟩), .agg #[.int .i64 k, .int .i64 pl, .int .i64 (d : Int)]] w fun e w' =>
      e = .returned (.int .i64 (gateE T S s d)) ∧ ((gateE T S s d) = 0 → TrainAt w' B g bg bd cg cd D T S { s with gates := s.gates.set d true }) ∧ Below B w w' := by
  go_enter Tryz.func233, Tryz.ntmps233
  go_wp2
  have h0 := h.alloc (.cells #[.int .i64 k, .int .i64 pl, .int .i64 (d : Int)] 23)
  have hb0 : Below B w (w.alloc (.cells #[.int .i64 k, .int .i64 pl, .int .i64 (d : Int)] 23)) := (Below.refl _ _).alloc hB _
  have e1 : (w.alloc (.cells #[.int .i64 k, .int .i64 pl, .int .i64 (d : Int)] 23)).cell? ⟨w.heap.size, 1, none⟩ = some (.int .i64 pl) := by simp
  have e2 : (w.alloc (.cells #[.int .i64 k, .int .i64 pl, .int .i64 (d : Int)] 23)).cell? ⟨w.heap.size, 2, none⟩ = some (.int .i64 (d : Int)) := by simp
  generalize w.alloc (.cells #[.int .i64 k, .int .i64 pl, .int .i64 (d : Int)] 23) = w0 at *
  have hd1 : (0 : Int) ≤ (d : Int) := Int.natCast_nonneg _
  have hd2 : (d : Int) < (D : Int) := by omega
  have c0 := h0.cell 0
  have c3 := h0.cell 3
  simp at c0 c3
  have x0 := fun x : Xt w0 => x.cell c0
  have x3 := fun x : Xt w0 => x.cell c3
  have y2 := fun x : Xt w0 => x.cell e2
  have hB0 : B ≤ w0.heap.size := Nat.le_trans hB hb0.size
  refine wp_region_xt (by kernel_rfl) (by kernel_rfl) ?_
  repeat (go_big_quiet_step (fail))
  refine wpQuiet_nil ?_
  intro wq hx
  have hbq := Xt.below hx
  clear hx
  replace hb0 : Below B w wq := hb0.trans (hbq.mono hB0)
  replace h0 := h0.below hbq
  have hg := h0.gateCell hd
  have hdr := h0.doorCell hd
  replace e2 := kept hbq e2
  clear hB0 e1
  clear y2 x0 x3
  replace c0 := kept hbq c0
  have x0 := fun x : Xt wq => x.cell c0
  replace c3 := kept hbq c3
  have x3 := fun x : Xt wq => x.cell c3
  have y2 := fun x : Xt wq => x.cell e2
  have yg := fun x : Xt wq => x.cell hg
  have yd := fun x : Xt wq => x.cell hdr
  clear hbq
  go_wp2
  refine wp_region_cut [0] [1, 2, 3, 4, 5, 6, 7, 8, 9, 10, 11, 12, 13, 14, 15] 16 [17, 18] (fun w' => ∃ x : Xt wq, w' = x.1) (by kernel_rfl) (by kernel_rfl) ⟨⟨wq.drew, (Below.refl _ _).drew⟩, rfl⟩ ?_
  simp only [opsAt_nil, opsAt_cons, consOpt_some, List.getElem?_toArray, List.getElem?_cons_zero, List.getElem?_cons_succ]
  repeat (go_big_quiet_step (fail))
  refine wpQuiet_nil ?_
  show wpQuiet _ _ _ _ _ _
  repeat (go_big_quiet_step (first | (go_at_call 62; exact Xt.calls_same (unless_any _ _ _)) | (go_at_call 102; exact Xt.calls (inPlace_any _ (h0.below (xprop _)) hp hT))))
  refine wpQuiet_nil ?_
  intro w1 hx
  have hb1 := Xt.below hx
  clear hx
  have h1 := h0.below hb1
  go_wp2_with (go_at_call 239; refine (set3 w1 bg d _ (s.gates[d]?.getD false) _ _ _ (kept hb1 hg) (h1.gates.frozenAt d)).mono ?_; rintro e w' ⟨rfl, hw2⟩)
  refine onlyNormal_mk ?_
  go_wp2
  go_ret
  exact ⟨rfl, fun hE => (by rw [← hw2]; exact trainAt_setW hE ((h1.alloc _).setGate d true)), (by rw [← hw2]; exact below_tail hb0 hB hb1 _ _ _ h.bgLt.1)⟩
def barE (s : Tr) (d : Nat) : Int := firstE [unlessE (s.gates[d]?.getD false) 22, unlessE (s.al || !(s.doors[d]?.getD false)) 23]
theorem bar_any (w : World) (k pl : Int) (d : Nat) (hB : B ≤ w.heap.size) (_hD : D ≤ 1000000000) (h : TrainAt w B g bg bd cg cd D T S s) (hd : d < D) :
    Calls Tryz.prog 234 #[.pointer (some ⟨g, 0, none⟩), .agg #[.int .i64 k, .int .i64 pl, .int .i64 (d : Int)]] w fun e w' =>
      e = .returned (.int .i64 (barE s d)) ∧ ((barE s d) = 0 → TrainAt w' B g bg bd cg cd D T S { s with gates := s.gates.set d false }) ∧ Below B w w' := by
  go_enter Tryz.func234, Tryz.ntmps234
  go_wp2
  have h0 := h.alloc (.cells #[.int .i64 k, .int .i64 pl, .int .i64 (d : Int)] 23)
  have hb0 : Below B w (w.alloc (.cells #[.int .i64 k, .int .i64 pl, .int .i64 (d : Int)] 23)) := (Below.refl _ _).alloc hB _
  have e1 : (w.alloc (.cells #[.int .i64 k, .int .i64 pl, .int .i64 (d : Int)] 23)).cell? ⟨w.heap.size, 1, none⟩ = some (.int .i64 pl) := by simp
  have e2 : (w.alloc (.cells #[.int .i64 k, .int .i64 pl, .int .i64 (d : Int)] 23)).cell? ⟨w.heap.size, 2, none⟩ = some (.int .i64 (d : Int)) := by simp
  generalize w.alloc (.cells #[.int .i64 k, .int .i64 pl, .int .i64 (d : Int)] 23) = w0 at *
  have hd1 : (0 : Int) ≤ (d : Int) := Int.natCast_nonneg _
  have hd2 : (d : Int) < (D : Int) := by omega
  have c1 := h0.cell 1
  have c3 := h0.cell 3
  have c4 := h0.cell 4
  simp at c1 c3 c4
  cases hz : s.al
  all_goals
    simp only [hz] at c1
    have x1 := fun x : Xt w0 => x.cell c1
    have x3 := fun x : Xt w0 => x.cell c3
    have x4 := fun x : Xt w0 => x.cell c4
    have y2 := fun x : Xt w0 => x.cell e2
    have hB0 : B ≤ w0.heap.size := Nat.le_trans hB hb0.size
    refine wp_region_xt (by kernel_rfl) (by kernel_rfl) ?_
    repeat (go_big_quiet_step (fail))
    refine wpQuiet_nil ?_
    intro wq hx
    have hbq := Xt.below hx
    clear hx
    replace hb0 : Below B w wq := hb0.trans (hbq.mono hB0)
    replace h0 := h0.below hbq
    have hg := h0.gateCell hd
    have hdr := h0.doorCell hd
    replace e2 := kept hbq e2
    clear hB0 e1
    clear y2 x1 x3 x4
    replace c1 := kept hbq c1
    have x1 := fun x : Xt wq => x.cell c1
    replace c3 := kept hbq c3
    have x3 := fun x : Xt wq => x.cell c3
    replace c4 := kept hbq c4
    have x4 := fun x : Xt wq => x.cell c4
    have y2 := fun x : Xt wq => x.cell e2
    have yg := fun x : Xt wq => x.cell hg
    have yd := fun x : Xt wq => x.cell hdr
    clear hbq
    go_wp2
    refine wp_region_cut [0] [1, 2, 3, 4, 5, 6, 7, 8, 9, 10, 11, 12, 13, 14, 15, 16, 17, 18, 19, 20, 21, 22] 23 [24, 25] (fun w' => ∃ x : Xt wq, w' = x.1) (by kernel_rfl) (by kernel_rfl) ⟨⟨wq.drew, (Below.refl _ _).drew⟩, rfl⟩ ?_
    simp only [opsAt_nil, opsAt_cons, consOpt_some, List.getElem?_toArray, List.getElem?_cons_zero, List.getElem?_cons_succ]
    repeat (go_big_quiet_step (fail))
    refine wpQuiet_nil ?_
    show wpQuiet _ _ _ _ _ _
    repeat (go_big_quiet_step (first | (go_at_call 62; exact Xt.calls_same (unless_any _ _ _))))
    refine wpQuiet_nil ?_
    intro w1 hx
    have hb1 := Xt.below hx
    clear hx
    have h1 := h0.below hb1
    go_wp2_with (go_at_call 239; refine (set2 w1 bg d _ (s.gates[d]?.getD false) _ _ (kept hb1 hg) (h1.gates.frozenAt d)).mono ?_; rintro e w' ⟨rfl, hw2⟩)
    refine onlyNormal_mk ?_
    go_wp2
    go_ret
    have hz' := hz
    refine ⟨by rw [barE, hz]; rfl, fun hE => (by rw [← hw2]; refine trainAt_setW ?_ ((h1.alloc _).setGate d false); rw [barE, hz] at hE; exact hE), (by rw [← hw2]; exact below_tail hb0 hB hb1 _ _ _ h.bgLt.1)⟩
def openE (T S : Int) (s : Tr) (d : Nat) : Int := firstE [unlessE (!s.mv) 22, unlessE (s.al || inPlaceB T S s.place) 9, unlessE (s.al || s.gates[d]?.getD false) 17, unlessE (!(s.doors[d]?.getD false)) 26]
theorem open_any (w : World) (k pl : Int) (d : Nat) (hB : B ≤ w.heap.size) (_hD : D ≤ 1000000000) (h : TrainAt w B g bg bd cg cd D T S s) (hp : 0 ≤ s.place ∧ s.place ≤ 1000000000) (hT : 0 ≤ T ∧ T ≤ 1000000000) (hd : d < D) :
    Calls Tryz.prog 235 #[.pointer (some ⟨g, 0, none⟩), .agg #[.int .i64 k, .int .i64 pl, .int .i64 (d : Int)]] w fun e w' =>
      e = .returned (.int .i64 (openE T S s d)) ∧ ((openE T S s d) = 0 → TrainAt w' B g bg bd cg cd D T S { s with doors := s.doors.set d true }) ∧ Below B w w' := by
  go_enter Tryz.func235, Tryz.ntmps235
  go_wp2
  have h0 := h.alloc (.cells #[.int .i64 k, .int .i64 pl, .int .i64 (d : Int)] 23)
  have hb0 : Below B w (w.alloc (.cells #[.int .i64 k, .int .i64 pl, .int .i64 (d : Int)] 23)) := (Below.refl _ _).alloc hB _
  have e1 : (w.alloc (.cells #[.int .i64 k, .int .i64 pl, .int .i64 (d : Int)] 23)).cell? ⟨w.heap.size, 1, none⟩ = some (.int .i64 pl) := by simp
  have e2 : (w.alloc (.cells #[.int .i64 k, .int .i64 pl, .int .i64 (d : Int)] 23)).cell? ⟨w.heap.size, 2, none⟩ = some (.int .i64 (d : Int)) := by simp
  generalize w.alloc (.cells #[.int .i64 k, .int .i64 pl, .int .i64 (d : Int)] 23) = w0 at *
  have hd1 : (0 : Int) ≤ (d : Int) := Int.natCast_nonneg _
  have hd2 : (d : Int) < (D : Int) := by omega
  have c0 := h0.cell 0
  have c1 := h0.cell 1
  have c3 := h0.cell 3
  have c4 := h0.cell 4
  simp at c0 c1 c3 c4
  cases hz : s.al
  all_goals
    simp only [hz] at c0 c1
    have x0 := fun x : Xt w0 => x.cell c0
    have x1 := fun x : Xt w0 => x.cell c1
    have x3 := fun x : Xt w0 => x.cell c3
    have x4 := fun x : Xt w0 => x.cell c4
    have y2 := fun x : Xt w0 => x.cell e2
    have hB0 : B ≤ w0.heap.size := Nat.le_trans hB hb0.size
    refine wp_region_xt (by kernel_rfl) (by kernel_rfl) ?_
    repeat (go_big_quiet_step (fail))
    refine wpQuiet_nil ?_
    intro wq hx
    have hbq := Xt.below hx
    clear hx
    replace hb0 : Below B w wq := hb0.trans (hbq.mono hB0)
    replace h0 := h0.below hbq
    have hg := h0.gateCell hd
    have hdr := h0.doorCell hd
    replace e2 := kept hbq e2
    clear hB0 e1
    clear y2 x0 x1 x3 x4
    replace c0 := kept hbq c0
    have x0 := fun x : Xt wq => x.cell c0
    replace c1 := kept hbq c1
    have x1 := fun x : Xt wq => x.cell c1
    replace c3 := kept hbq c3
    have x3 := fun x : Xt wq => x.cell c3
    replace c4 := kept hbq c4
    have x4 := fun x : Xt wq => x.cell c4
    have y2 := fun x : Xt wq => x.cell e2
    have yg := fun x : Xt wq => x.cell hg
    have yd := fun x : Xt wq => x.cell hdr
    clear hbq
    go_wp2
    refine wp_region_cut [0] [1, 2, 3, 4, 5, 6, 7, 8, 9, 10, 11, 12, 13, 14, 15, 16, 17, 18, 19, 20, 21, 22, 23, 24, 25, 26, 27, 28, 29, 30, 31, 32, 33, 34, 35, 36, 37, 38, 39] 40 [41, 42] (fun w' => ∃ x : Xt wq, w' = x.1) (by kernel_rfl) (by kernel_rfl) ⟨⟨wq.drew, (Below.refl _ _).drew⟩, rfl⟩ ?_
    simp only [opsAt_nil, opsAt_cons, consOpt_some, List.getElem?_toArray, List.getElem?_cons_zero, List.getElem?_cons_succ]
    repeat (go_big_quiet_step (fail))
    refine wpQuiet_nil ?_
    show wpQuiet _ _ _ _ _ _
    repeat (go_big_quiet_step (first | (go_at_call 62; exact Xt.calls_same (unless_any _ _ _)) | (go_at_call 102; exact Xt.calls (inPlace_any _ (h0.below (xprop _)) hp hT))))
    refine wpQuiet_nil ?_
    intro w1 hx
    have hb1 := Xt.below hx
    clear hx
    have h1 := h0.below hb1
    go_wp2_with (go_at_call 239; refine (set4 w1 bd d _ (s.doors[d]?.getD false) _ _ _ _ (kept hb1 hdr) (h1.doors.frozenAt d)).mono ?_; rintro e w' ⟨rfl, hw2⟩)
    refine onlyNormal_mk ?_
    go_wp2
    go_ret
    refine ⟨by rw [openE, hz]; rfl, fun hE => (by rw [← hw2]; refine trainAt_setW ?_ ((h1.alloc _).setDoor d true); rw [openE, hz] at hE; exact hE), (by rw [← hw2]; exact below_tail hb0 hB hb1 _ _ _ h.bdLt.1)⟩
def shutE (s : Tr) (d : Nat) : Int := firstE [unlessE (s.doors[d]?.getD false) 22]
theorem shut_any (w : World) (k pl : Int) (d : Nat) (hB : B ≤ w.heap.size) (_hD : D ≤ 1000000000) (h : TrainAt w B g bg bd cg cd D T S s) (hd : d < D) :
    Calls Tryz.prog 236 #[.pointer (some ⟨g, 0, none⟩), .agg #[.int .i64 k, .int .i64 pl, .int .i64 (d : Int)]] w fun e w' =>
      e = .returned (.int .i64 (shutE s d)) ∧ ((shutE s d) = 0 → TrainAt w' B g bg bd cg cd D T S { s with doors := s.doors.set d false }) ∧ Below B w w' := by
  go_enter Tryz.func236, Tryz.ntmps236
  go_wp2
  have h0 := h.alloc (.cells #[.int .i64 k, .int .i64 pl, .int .i64 (d : Int)] 23)
  have hb0 : Below B w (w.alloc (.cells #[.int .i64 k, .int .i64 pl, .int .i64 (d : Int)] 23)) := (Below.refl _ _).alloc hB _
  have e1 : (w.alloc (.cells #[.int .i64 k, .int .i64 pl, .int .i64 (d : Int)] 23)).cell? ⟨w.heap.size, 1, none⟩ = some (.int .i64 pl) := by simp
  have e2 : (w.alloc (.cells #[.int .i64 k, .int .i64 pl, .int .i64 (d : Int)] 23)).cell? ⟨w.heap.size, 2, none⟩ = some (.int .i64 (d : Int)) := by simp
  generalize w.alloc (.cells #[.int .i64 k, .int .i64 pl, .int .i64 (d : Int)] 23) = w0 at *
  have hd1 : (0 : Int) ≤ (d : Int) := Int.natCast_nonneg _
  have hd2 : (d : Int) < (D : Int) := by omega
  have c4 := h0.cell 4
  simp at c4
  have x4 := fun x : Xt w0 => x.cell c4
  have y2 := fun x : Xt w0 => x.cell e2
  have hB0 : B ≤ w0.heap.size := Nat.le_trans hB hb0.size
  refine wp_region_xt (by kernel_rfl) (by kernel_rfl) ?_
  repeat (go_big_quiet_step (fail))
  refine wpQuiet_nil ?_
  intro wq hx
  have hbq := Xt.below hx
  clear hx
  replace hb0 : Below B w wq := hb0.trans (hbq.mono hB0)
  replace h0 := h0.below hbq
  have hg := h0.gateCell hd
  have hdr := h0.doorCell hd
  replace e2 := kept hbq e2
  clear hB0 e1
  clear y2 x4
  replace c4 := kept hbq c4
  clear hbq
  go_wp2_with (first | (go_at_call 62; refine (unless_any _ _ _).mono ?_; rintro e w' ⟨rfl, rfl⟩) | (go_at_call 239; refine (set1 wq bd d _ (s.doors[d]?.getD false) _ hdr (h0.doors.frozenAt d)).mono ?_; rintro e w' ⟨rfl, hw2⟩))
  go_ret
  exact ⟨rfl, fun hE => (by rw [← hw2]; exact trainAt_setW hE ((h0.alloc _).setDoor d false)), (by rw [← hw2]; exact below_tail hb0 hB (Below.refl _ _) _ _ _ h.bdLt.1)⟩
def stopE (s : Tr) : Int := firstE [unlessE s.mv 22]
theorem stop_any (w : World) (k pl dr : Int) (hB : B ≤ w.heap.size) (_hD : D ≤ 1000000000) (h : TrainAt w B g bg bd cg cd D T S s) :
    Calls Tryz.prog 232 #[.pointer (some ⟨g, 0, none⟩), .agg #[.int .i64 k, .int .i64 pl, .int .i64 dr]] w fun e w' =>
      e = .returned (.int .i64 (stopE s)) ∧ ((stopE s) = 0 → TrainAt w' B g bg bd cg cd D T S { s with mv := false, place := pl }) ∧ Below B w w' := by
  go_enter Tryz.func232, Tryz.ntmps232
  go_wp2
  have h0 := h.alloc (.cells #[.int .i64 k, .int .i64 pl, .int .i64 dr] 23)
  have hb0 : Below B w (w.alloc (.cells #[.int .i64 k, .int .i64 pl, .int .i64 dr] 23)) := (Below.refl _ _).alloc hB _
  have e1 : (w.alloc (.cells #[.int .i64 k, .int .i64 pl, .int .i64 dr] 23)).cell? ⟨w.heap.size, 1, none⟩ = some (.int .i64 pl) := by simp
  have e2 : (w.alloc (.cells #[.int .i64 k, .int .i64 pl, .int .i64 dr] 23)).cell? ⟨w.heap.size, 2, none⟩ = some (.int .i64 dr) := by simp
  generalize w.alloc (.cells #[.int .i64 k, .int .i64 pl, .int .i64 dr] 23) = w0 at *
  have c0 := h0.cell 0
  simp at c0
  have x0 := fun x : Xt w0 => x.cell c0
  refine wp_region_cut [0, 1, 2, 3] [4, 5, 6, 7, 8, 9] 10 [11, 12] (fun w' => ∃ x : Xt w0, w' = x.1) (by kernel_rfl) (by kernel_rfl) ⟨⟨w0.drew, (Below.refl _ _).drew⟩, rfl⟩ ?_
  simp only [opsAt_nil, opsAt_cons, consOpt_some, List.getElem?_toArray, List.getElem?_cons_zero, List.getElem?_cons_succ]
  repeat (go_big_quiet_step (fail))
  refine wpQuiet_nil ?_
  show wpQuiet _ _ _ _ _ _
  repeat (go_big_quiet_step (first | (go_at_call 62; exact Xt.calls_same (unless_any _ _ _))))
  refine wpQuiet_nil ?_
  intro w1 hx
  have hb1 := Xt.below hx
  clear hx
  have h1 := h0.below hb1
  have e1' := kept hb1 e1
  go_wp2_with (go_at_call 239; refine (set1 w1 g 0 _ s.mv _ (kept hb1 c0) (h1.frozen 0)).mono ?_; rintro e w' ⟨rfl, hw2⟩)
  refine onlyNormal_mk ?_
  have hb2 : Below B w w' := by rw [← hw2]; exact below_tail hb0 hB hb1 _ _ _ h.hB
  cases hz : (firstE [unlessE s.mv 22] == 0)
  · go_wp2
    go_ret
    exact ⟨rfl, fun hE => (by have : firstE [unlessE s.mv 22] = 0 := hE; simp [this] at hz), hb2⟩
  · have hE : firstE [unlessE s.mv 22] = 0 := by simpa using hz
    have HE := Lib.hid hE
    have h2 : TrainAt w' B g bg bd cg cd D T S { s with mv := false } := by rw [← hw2]; exact trainAt_setW hE ((h1.alloc _).setMv false)
    have e3 : w'.cell? ⟨w.heap.size, 1, none⟩ = some (.int .i64 pl) := by
      rw [← hw2]
      unfold setW
      rw [if_pos hE, World.cell?_setCell_other _ _ _ _ (by simp), cell_alloc_old _ e1']
    clear hE e1 e1' x0 c0
    have c2 := h2.cell 2
    have f2 := h2.frozen 2
    simp at c2
    clear hw2
    go_wp2
    go_ret
    exact ⟨rfl, fun _ => h2.setPlace pl, hb2.setCell (by exact h.hB) _⟩
end
end Go.Proofs.YtlbgocgocanloaaGreatDoor
