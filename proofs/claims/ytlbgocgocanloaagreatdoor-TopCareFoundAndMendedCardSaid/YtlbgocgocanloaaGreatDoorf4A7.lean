/- apply: an event of a train, kind by kind. -/
import Derived.Test.YtlbgocgocanloaaGreatDoorf4A6
import Derived.Laws.EntriesVeiled
namespace Go.Proofs.YtlbgocgocanloaaGreatDoor
open Go.RowKit
def strB (l : List UInt8) : Value := .string ⟨l.toArray⟩
/-- the cells of the table of kinds -/
def kindCells : List Value := [
  strB [103, 111], .bool false, .bool false, .func (.func 231) #[] #[],
  strB [115, 116, 111, 112], .bool true, .bool false, .func (.func 232) #[] #[],
  strB [103, 97, 116, 101], .bool false, .bool true, .func (.func 233) #[] #[],
  strB [98, 97, 114], .bool false, .bool true, .func (.func 234) #[] #[],
  strB [111, 112, 101, 110], .bool false, .bool true, .func (.func 235) #[] #[],
  strB [115, 104, 117, 116], .bool false, .bool true, .func (.func 236) #[] #[],
  strB [97, 108, 97, 114, 109], .bool false, .bool false, .func (.func 237) #[] #[],
  strB [99, 97, 108, 109], .bool false, .bool false, .func (.func 238) #[] #[]]
/-- the table of kinds lies in block 0 -/
def KindsAt (w : World) : Prop := ∀ k u, kindCells[k]? = some u → w.cell? ⟨0, k, none⟩ = some u
theorem KindsAt.below {w w' : World} (h : KindsAt w) (hb : Below w.heap.size w w') : KindsAt w' := fun k u hk => kept hb (h k u hk)
theorem KindsAt.belowB {B : Nat} {w w' : World} (h : KindsAt w) (hb : Below B w w') (hB : 0 < B) : KindsAt w' := fun k u hk => keptB hb hB (h k u hk)
def evE (D : Nat) (p d : Bool) (pl dr : Int) : Int :=
  firstE [unlessE ((p || pl == 0) && (d || dr == 0)) 3, unlessE (!p || isPlaceB pl) 2, unlessE (!d || withinB dr 0 ((D : Int) - 1)) 6]
def seqE (a b : Int) : Int := if a = 0 then b else a
/-- the error of an event -/
def applyE (D : Nat) (T S : Int) (s : Tr) (k pl dr : Int) : Int :=
  match k with
  | 0 => seqE (evE D false false pl dr) (leaveE s)
  | 1 => seqE (evE D true false pl dr) (stopE s)
  | 2 => seqE (evE D false true pl dr) (gateE T S s dr.toNat)
  | 3 => seqE (evE D false true pl dr) (barE s dr.toNat)
  | 4 => seqE (evE D false true pl dr) (openE T S s dr.toNat)
  | 5 => seqE (evE D false true pl dr) (shutE s dr.toNat)
  | 6 => seqE (evE D false false pl dr) (alarmE s)
  | 7 => seqE (evE D false false pl dr) (calmE s)
  | _ => 15
/-- the state behind an event without an error -/
def applyS (s : Tr) (k pl dr : Int) : Tr :=
  match k with
  | 0 => { s with mv := true }
  | 1 => { s with mv := false, place := pl }
  | 2 => { s with gates := s.gates.set dr.toNat true }
  | 3 => { s with gates := s.gates.set dr.toNat false }
  | 4 => { s with doors := s.doors.set dr.toNat true }
  | 5 => { s with doors := s.doors.set dr.toNat false }
  | 6 => { s with al := true }
  | 7 => { s with al := false }
  | _ => s
theorem apply_leave_eq (D : Nat) (T S : Int) (s : Tr) (pl dr : Int) : applyE D T S s 0 pl dr = seqE (evE D false false pl dr) (leaveE s) := rfl
theorem apply_stop_eq (D : Nat) (T S : Int) (s : Tr) (pl dr : Int) : applyE D T S s 1 pl dr = seqE (evE D true false pl dr) (stopE s) := rfl
theorem apply_gate_eq (D : Nat) (T S : Int) (s : Tr) (pl dr : Int) : applyE D T S s 2 pl dr = seqE (evE D false true pl dr) (gateE T S s dr.toNat) := rfl
theorem apply_bar_eq (D : Nat) (T S : Int) (s : Tr) (pl dr : Int) : applyE D T S s 3 pl dr = seqE (evE D false true pl dr) (barE s dr.toNat) := rfl
theorem apply_open_eq (D : Nat) (T S : Int) (s : Tr) (pl dr : Int) : applyE D T S s 4 pl dr = seqE (evE D false true pl dr) (openE T S s dr.toNat) := rfl
theorem apply_shut_eq (D : Nat) (T S : Int) (s : Tr) (pl dr : Int) : applyE D T S s 5 pl dr = seqE (evE D false true pl dr) (shutE s dr.toNat) := rfl
theorem apply_alarm_eq (D : Nat) (T S : Int) (s : Tr) (pl dr : Int) : applyE D T S s 6 pl dr = seqE (evE D false false pl dr) (alarmE s) := rfl
theorem apply_calm_eq (D : Nat) (T S : Int) (s : Tr) (pl dr : Int) : applyE D T S s 7 pl dr = seqE (evE D false false pl dr) (calmE s) := rfl
theorem firstE3 (a b c : Int) : firstE [a, b, c] = if a = 0 then (if b = 0 then c else b) else a := by
  simp only [firstE]
  split
  · split
    · split
      · omega
      · rfl
    · rfl
  · rfl
section
variable {B g bg bd cg cd D : Nat} {T S : Int} {s : Tr}
set_option maxHeartbeats 4000000 in
theorem apply_leave (w : World) (pl dr : Int) (hB : B ≤ w.heap.size) (hD : D ≤ 1000000) (hk : KindsAt w) (h : TrainAt w B g bg bd cg cd D T S s) :
    Calls Tryz.prog 63 #[.pointer (some ⟨g, 0, none⟩), .agg #[.int .i64 0, .int .i64 pl, .int .i64 dr]] w fun e w' =>
      e = .returned (.int .i64 (applyE D T S s 0 pl dr)) ∧ (applyE D T S s 0 pl dr = 0 → TrainAt w' B g bg bd cg cd D T S (applyS s 0 pl dr)) ∧ Below B w w' := by
  have kw : withinB 0 0 7 = true := by decide
  have h0 := h.alloc (.cells #[.int .i64 0, .int .i64 pl, .int .i64 dr] 23)
  have hk0 := hk.below ((Below.refl _ _).alloc (Nat.le_refl _) (.cells #[.int .i64 0, .int .i64 pl, .int .i64 dr] 23))
  have hb0 : Below B w (w.alloc (.cells #[.int .i64 0, .int .i64 pl, .int .i64 dr] 23)) := (Below.refl _ _).alloc hB _
  have e0 : (w.alloc (.cells #[.int .i64 0, .int .i64 pl, .int .i64 dr] 23)).cell? ⟨w.heap.size, 0, none⟩ = some (.int .i64 0) := by simp
  have e1 : (w.alloc (.cells #[.int .i64 0, .int .i64 pl, .int .i64 dr] 23)).cell? ⟨w.heap.size, 1, none⟩ = some (.int .i64 pl) := by simp
  have e2 : (w.alloc (.cells #[.int .i64 0, .int .i64 pl, .int .i64 dr] 23)).cell? ⟨w.heap.size, 2, none⟩ = some (.int .i64 dr) := by simp
  have k0 := hk0 0 _ rfl
  have k1 := hk0 1 _ rfl
  have k2 := hk0 2 _ rfl
  have k3 := hk0 3 _ rfl
  have hF := hk0 _ _ (show kindCells[3]? = some (.func (.func 231) #[] #[]) from rfl)
  clear hF
  unfold strB at k0
  go_enter Tryz.func63, Tryz.ntmps63
  go_wp2_with fail
  generalize w.alloc (.cells #[.int .i64 0, .int .i64 pl, .int .i64 dr] 23) = w0 at *
  refine (within_any _ _ _ _).mono ?_
  rintro e w' ⟨rfl, rfl⟩
  go_wp2_with fail
  have e0' := cell_alloc_old (.cells #[.string ⟨#[103, 111]⟩, .bool false, .bool false, .func (.func 231) #[] #[]] 100) e0
  have e1' := cell_alloc_old (.cells #[.string ⟨#[103, 111]⟩, .bool false, .bool false, .func (.func 231) #[] #[]] 100) e1
  have e2' := cell_alloc_old (.cells #[.string ⟨#[103, 111]⟩, .bool false, .bool false, .func (.func 231) #[] #[]] 100) e2
  have h1 := h0.alloc (.cells #[.string ⟨#[103, 111]⟩, .bool false, .bool false, .func (.func 231) #[] #[]] 100)
  have hB1 : B ≤ w0.heap.size := Nat.le_trans hB hb0.size
  have hb1 : Below B w (w0.alloc (.cells #[.string ⟨#[103, 111]⟩, .bool false, .bool false, .func (.func 231) #[] #[]] 100)) := hb0.alloc hB1 _
  have l1 : (w0.alloc (.cells #[.string ⟨#[103, 111]⟩, .bool false, .bool false, .func (.func 231) #[] #[]] 100)).cell? ⟨w0.heap.size, 1, none⟩ = some (.bool false) := by simp
  have l2 : (w0.alloc (.cells #[.string ⟨#[103, 111]⟩, .bool false, .bool false, .func (.func 231) #[] #[]] 100)).cell? ⟨w0.heap.size, 2, none⟩ = some (.bool false) := by simp
  have l3 : (w0.alloc (.cells #[.string ⟨#[103, 111]⟩, .bool false, .bool false, .func (.func 231) #[] #[]] 100)).cell? ⟨w0.heap.size, 3, none⟩ = some (.func (.func 231) #[] #[]) := by simp
  have hB2 : B ≤ (w0.alloc (.cells #[.string ⟨#[103, 111]⟩, .bool false, .bool false, .func (.func 231) #[] #[]] 100)).heap.size := Nat.le_trans hB hb1.size
  clear k0 k1 k2 k3 hk0 e0 e1 e2 h0 hb0
  generalize w0.alloc (.cells #[.string ⟨#[103, 111]⟩, .bool false, .bool false, .func (.func 231) #[] #[]] 100) = w1 at *
  generalize w0.heap.size = gl at *
  have c5 := h1.cell 5
  simp at c5
  have x0 := fun x : Xt w1 => x.cell e0'
  have x1 := fun x : Xt w1 => x.cell e1'
  have x2 := fun x : Xt w1 => x.cell e2'
  have x3 := fun x : Xt w1 => x.cell l1
  have x4 := fun x : Xt w1 => x.cell l2
  have x5 := fun x : Xt w1 => x.cell c5
  cases hp0 : (pl == 0) <;> cases hd0 : (dr == 0)
  all_goals
    refine wp_region_cut [] [0, 1, 2, 3, 4, 5, 6, 7, 8, 9, 10, 11, 12, 13, 14, 15, 16, 17, 18, 19, 20, 21, 22, 23, 24, 25, 26, 27, 28, 29, 30, 31, 32, 33, 34, 35, 36, 37, 38, 39, 40] 41 [42, 43] (fun w' => ∃ x : Xt w1, w' = x.1) (by kernel_rfl) (by kernel_rfl) ⟨⟨w1.drew, (Below.refl _ _).drew⟩, rfl⟩ ?_
    simp only [opsAt_nil, opsAt_cons, consOpt_some, List.getElem?_toArray, List.getElem?_cons_zero, List.getElem?_cons_succ]
    refine wpQuiet_nil ?_
    show wpQuiet _ _ _ _ _ _
    repeat (go_big_quiet_step (first | (go_at_call 62; exact Xt.calls_same (unless_any _ _ _)) | (go_at_call 41; exact Xt.calls_same (within_any _ _ _ _)) | (go_at_call 99; exact Xt.calls_same (isPlace_any _ _))))
    refine wpQuiet_nil ?_
    intro w2 hx
    have hb2 := Xt.below hx
    clear hx
    have h2 := h1.below hb2
    have e0 := kept hb2 e0'
    have e1 := kept hb2 e1'
    have e2 := kept hb2 e2'
    have m3 := kept hb2 l3
    have q1 : gl < w2.heap.size := lt_of_cell m3
    have q2 : w.heap.size < w2.heap.size := lt_of_cell e0
    clear x0 x1 x2 x3 x4 x5 e0' e1' e2' l1 l2 l3 c5
    go_wp2_with (go_at_call 61; refine (first3 _ _ _ _).mono ?_; rintro e w' ⟨rfl, rfl⟩)
    refine onlyNormal_mk ?_
    generalize hE : firstE _ = E
    have hev : evE D false false pl dr = E := by rw [← hE]; simp [evE, hp0, hd0]
    have HEV := Lib.hid hev
    clear hev hE
    have hB3 : B ≤ w2.heap.size := Nat.le_trans hB2 hb2.size
    have hb2' : Below B w w2 := hb1.trans (hb2.mono hB2)
    have hb3 : ∀ o, Below B w (w2.alloc o) := fun o => hb2'.alloc hB3 o
    cases hz : (E != 0)
    · have hE0 : E = 0 := by simpa using hz
      have HE0 := Lib.hid hE0
      clear hE0
      go_wp2_with (go_at_call 231; refine (leave_any _ _ _ _ (by have := (hb3 (.cells #[] 0)).size; simp at this ⊢; omega) (by omega) (h2.alloc _)).mono ?_; rintro e w' ⟨rfl, hT', hbm⟩)
      go_ret
      have hA : applyE D T S s 0 pl dr = leaveE s := by rw [apply_leave_eq, HEV.out, HE0.out]; rfl
      exact ⟨by rw [hA]; rfl, fun h => hT' (by rw [← hA]; exact h), (hb3 _).trans hbm⟩
    · have hE0 : E ≠ 0 := by simpa using hz
      have HE0 := Lib.hid hE0
      clear hE0
      go_wp2
      go_ret
      have hA : applyE D T S s 0 pl dr = E := by rw [apply_leave_eq, HEV.out, seqE, if_neg HE0.out]
      exact ⟨by rw [hA]; rfl, fun h => absurd (hA.symm.trans h) HE0.out, hb3 _⟩
set_option maxHeartbeats 4000000 in
theorem apply_stop (w : World) (pl dr : Int) (hB : B ≤ w.heap.size) (hD : D ≤ 1000000) (hk : KindsAt w) (h : TrainAt w B g bg bd cg cd D T S s) :
    Calls Tryz.prog 63 #[.pointer (some ⟨g, 0, none⟩), .agg #[.int .i64 1, .int .i64 pl, .int .i64 dr]] w fun e w' =>
      e = .returned (.int .i64 (applyE D T S s 1 pl dr)) ∧ (applyE D T S s 1 pl dr = 0 → TrainAt w' B g bg bd cg cd D T S (applyS s 1 pl dr)) ∧ Below B w w' := by
  have kw : withinB 1 0 7 = true := by decide
  have h0 := h.alloc (.cells #[.int .i64 1, .int .i64 pl, .int .i64 dr] 23)
  have hk0 := hk.below ((Below.refl _ _).alloc (Nat.le_refl _) (.cells #[.int .i64 1, .int .i64 pl, .int .i64 dr] 23))
  have hb0 : Below B w (w.alloc (.cells #[.int .i64 1, .int .i64 pl, .int .i64 dr] 23)) := (Below.refl _ _).alloc hB _
  have e0 : (w.alloc (.cells #[.int .i64 1, .int .i64 pl, .int .i64 dr] 23)).cell? ⟨w.heap.size, 0, none⟩ = some (.int .i64 1) := by simp
  have e1 : (w.alloc (.cells #[.int .i64 1, .int .i64 pl, .int .i64 dr] 23)).cell? ⟨w.heap.size, 1, none⟩ = some (.int .i64 pl) := by simp
  have e2 : (w.alloc (.cells #[.int .i64 1, .int .i64 pl, .int .i64 dr] 23)).cell? ⟨w.heap.size, 2, none⟩ = some (.int .i64 dr) := by simp
  have k0 := hk0 4 _ rfl
  have k1 := hk0 5 _ rfl
  have k2 := hk0 6 _ rfl
  have k3 := hk0 7 _ rfl
  have hF := hk0 _ _ (show kindCells[7]? = some (.func (.func 232) #[] #[]) from rfl)
  clear hF
  unfold strB at k0
  go_enter Tryz.func63, Tryz.ntmps63
  go_wp2_with fail
  generalize w.alloc (.cells #[.int .i64 1, .int .i64 pl, .int .i64 dr] 23) = w0 at *
  refine (within_any _ _ _ _).mono ?_
  rintro e w' ⟨rfl, rfl⟩
  go_wp2_with fail
  have e0' := cell_alloc_old (.cells #[.string ⟨#[115, 116, 111, 112]⟩, .bool true, .bool false, .func (.func 232) #[] #[]] 100) e0
  have e1' := cell_alloc_old (.cells #[.string ⟨#[115, 116, 111, 112]⟩, .bool true, .bool false, .func (.func 232) #[] #[]] 100) e1
  have e2' := cell_alloc_old (.cells #[.string ⟨#[115, 116, 111, 112]⟩, .bool true, .bool false, .func (.func 232) #[] #[]] 100) e2
  have h1 := h0.alloc (.cells #[.string ⟨#[115, 116, 111, 112]⟩, .bool true, .bool false, .func (.func 232) #[] #[]] 100)
  have hB1 : B ≤ w0.heap.size := Nat.le_trans hB hb0.size
  have hb1 : Below B w (w0.alloc (.cells #[.string ⟨#[115, 116, 111, 112]⟩, .bool true, .bool false, .func (.func 232) #[] #[]] 100)) := hb0.alloc hB1 _
  have l1 : (w0.alloc (.cells #[.string ⟨#[115, 116, 111, 112]⟩, .bool true, .bool false, .func (.func 232) #[] #[]] 100)).cell? ⟨w0.heap.size, 1, none⟩ = some (.bool true) := by simp
  have l2 : (w0.alloc (.cells #[.string ⟨#[115, 116, 111, 112]⟩, .bool true, .bool false, .func (.func 232) #[] #[]] 100)).cell? ⟨w0.heap.size, 2, none⟩ = some (.bool false) := by simp
  have l3 : (w0.alloc (.cells #[.string ⟨#[115, 116, 111, 112]⟩, .bool true, .bool false, .func (.func 232) #[] #[]] 100)).cell? ⟨w0.heap.size, 3, none⟩ = some (.func (.func 232) #[] #[]) := by simp
  have hB2 : B ≤ (w0.alloc (.cells #[.string ⟨#[115, 116, 111, 112]⟩, .bool true, .bool false, .func (.func 232) #[] #[]] 100)).heap.size := Nat.le_trans hB hb1.size
  clear k0 k1 k2 k3 hk0 e0 e1 e2 h0 hb0
  generalize w0.alloc (.cells #[.string ⟨#[115, 116, 111, 112]⟩, .bool true, .bool false, .func (.func 232) #[] #[]] 100) = w1 at *
  generalize w0.heap.size = gl at *
  have c5 := h1.cell 5
  simp at c5
  have x0 := fun x : Xt w1 => x.cell e0'
  have x1 := fun x : Xt w1 => x.cell e1'
  have x2 := fun x : Xt w1 => x.cell e2'
  have x3 := fun x : Xt w1 => x.cell l1
  have x4 := fun x : Xt w1 => x.cell l2
  have x5 := fun x : Xt w1 => x.cell c5
  cases hd0 : (dr == 0)
  all_goals
    refine wp_region_cut [] [0, 1, 2, 3, 4, 5, 6, 7, 8, 9, 10, 11, 12, 13, 14, 15, 16, 17, 18, 19, 20, 21, 22, 23, 24, 25, 26, 27, 28, 29, 30, 31, 32, 33, 34, 35, 36, 37, 38, 39, 40] 41 [42, 43] (fun w' => ∃ x : Xt w1, w' = x.1) (by kernel_rfl) (by kernel_rfl) ⟨⟨w1.drew, (Below.refl _ _).drew⟩, rfl⟩ ?_
    simp only [opsAt_nil, opsAt_cons, consOpt_some, List.getElem?_toArray, List.getElem?_cons_zero, List.getElem?_cons_succ]
    refine wpQuiet_nil ?_
    show wpQuiet _ _ _ _ _ _
    repeat (go_big_quiet_step (first | (go_at_call 62; exact Xt.calls_same (unless_any _ _ _)) | (go_at_call 41; exact Xt.calls_same (within_any _ _ _ _)) | (go_at_call 99; exact Xt.calls_same (isPlace_any _ _))))
    refine wpQuiet_nil ?_
    intro w2 hx
    have hb2 := Xt.below hx
    clear hx
    have h2 := h1.below hb2
    have e0 := kept hb2 e0'
    have e1 := kept hb2 e1'
    have e2 := kept hb2 e2'
    have m3 := kept hb2 l3
    have q1 : gl < w2.heap.size := lt_of_cell m3
    have q2 : w.heap.size < w2.heap.size := lt_of_cell e0
    clear x0 x1 x2 x3 x4 x5 e0' e1' e2' l1 l2 l3 c5
    go_wp2_with (go_at_call 61; refine (first3 _ _ _ _).mono ?_; rintro e w' ⟨rfl, rfl⟩)
    refine onlyNormal_mk ?_
    generalize hE : firstE _ = E
    have hev : evE D true false pl dr = E := by rw [← hE]; simp [evE, hd0]
    have HEV := Lib.hid hev
    clear hev hE
    have hB3 : B ≤ w2.heap.size := Nat.le_trans hB2 hb2.size
    have hb2' : Below B w w2 := hb1.trans (hb2.mono hB2)
    have hb3 : ∀ o, Below B w (w2.alloc o) := fun o => hb2'.alloc hB3 o
    cases hz : (E != 0)
    · have hE0 : E = 0 := by simpa using hz
      have HE0 := Lib.hid hE0
      clear hE0
      go_wp2_with (go_at_call 232; refine (stop_any _ _ _ _ (by have := (hb3 (.cells #[] 0)).size; simp at this ⊢; omega) (by omega) (h2.alloc _)).mono ?_; rintro e w' ⟨rfl, hT', hbm⟩)
      go_ret
      have hA : applyE D T S s 1 pl dr = stopE s := by rw [apply_stop_eq, HEV.out, HE0.out]; rfl
      exact ⟨by rw [hA]; rfl, fun h => hT' (by rw [← hA]; exact h), (hb3 _).trans hbm⟩
    · have hE0 : E ≠ 0 := by simpa using hz
      have HE0 := Lib.hid hE0
      clear hE0
      go_wp2
      go_ret
      have hA : applyE D T S s 1 pl dr = E := by rw [apply_stop_eq, HEV.out, seqE, if_neg HE0.out]
      exact ⟨by rw [hA]; rfl, fun h => absurd (hA.symm.trans h) HE0.out, hb3 _⟩
set_option maxHeartbeats 4000000 in
theorem apply_gate (w : World) (pl dr : Int) (hB : B ≤ w.heap.size) (hD : D ≤ 1000000) (hk : KindsAt w) (h : TrainAt w B g bg bd cg cd D T S s) (hp : 0 ≤ s.place ∧ s.place ≤ 1000000000) (hT : 0 ≤ T ∧ T ≤ 1000000000) :
    Calls Tryz.prog 63 #[.pointer (some ⟨g, 0, none⟩), .agg #[.int .i64 2, .int .i64 pl, .int .i64 dr]] w fun e w' =>
      e = .returned (.int .i64 (applyE D T S s 2 pl dr)) ∧ (applyE D T S s 2 pl dr = 0 → TrainAt w' B g bg bd cg cd D T S (applyS s 2 pl dr)) ∧ Below B w w' := by
  have kw : withinB 2 0 7 = true := by decide
  have h0 := h.alloc (.cells #[.int .i64 2, .int .i64 pl, .int .i64 dr] 23)
  have hk0 := hk.below ((Below.refl _ _).alloc (Nat.le_refl _) (.cells #[.int .i64 2, .int .i64 pl, .int .i64 dr] 23))
  have hb0 : Below B w (w.alloc (.cells #[.int .i64 2, .int .i64 pl, .int .i64 dr] 23)) := (Below.refl _ _).alloc hB _
  have e0 : (w.alloc (.cells #[.int .i64 2, .int .i64 pl, .int .i64 dr] 23)).cell? ⟨w.heap.size, 0, none⟩ = some (.int .i64 2) := by simp
  have e1 : (w.alloc (.cells #[.int .i64 2, .int .i64 pl, .int .i64 dr] 23)).cell? ⟨w.heap.size, 1, none⟩ = some (.int .i64 pl) := by simp
  have e2 : (w.alloc (.cells #[.int .i64 2, .int .i64 pl, .int .i64 dr] 23)).cell? ⟨w.heap.size, 2, none⟩ = some (.int .i64 dr) := by simp
  have k0 := hk0 8 _ rfl
  have k1 := hk0 9 _ rfl
  have k2 := hk0 10 _ rfl
  have k3 := hk0 11 _ rfl
  have hF := hk0 _ _ (show kindCells[11]? = some (.func (.func 233) #[] #[]) from rfl)
  clear hF
  unfold strB at k0
  go_enter Tryz.func63, Tryz.ntmps63
  go_wp2_with fail
  generalize w.alloc (.cells #[.int .i64 2, .int .i64 pl, .int .i64 dr] 23) = w0 at *
  refine (within_any _ _ _ _).mono ?_
  rintro e w' ⟨rfl, rfl⟩
  go_wp2_with fail
  have e0' := cell_alloc_old (.cells #[.string ⟨#[103, 97, 116, 101]⟩, .bool false, .bool true, .func (.func 233) #[] #[]] 100) e0
  have e1' := cell_alloc_old (.cells #[.string ⟨#[103, 97, 116, 101]⟩, .bool false, .bool true, .func (.func 233) #[] #[]] 100) e1
  have e2' := cell_alloc_old (.cells #[.string ⟨#[103, 97, 116, 101]⟩, .bool false, .bool true, .func (.func 233) #[] #[]] 100) e2
  have h1 := h0.alloc (.cells #[.string ⟨#[103, 97, 116, 101]⟩, .bool false, .bool true, .func (.func 233) #[] #[]] 100)
  have hB1 : B ≤ w0.heap.size := Nat.le_trans hB hb0.size
  have hb1 : Below B w (w0.alloc (.cells #[.string ⟨#[103, 97, 116, 101]⟩, .bool false, .bool true, .func (.func 233) #[] #[]] 100)) := hb0.alloc hB1 _
  have l1 : (w0.alloc (.cells #[.string ⟨#[103, 97, 116, 101]⟩, .bool false, .bool true, .func (.func 233) #[] #[]] 100)).cell? ⟨w0.heap.size, 1, none⟩ = some (.bool false) := by simp
  have l2 : (w0.alloc (.cells #[.string ⟨#[103, 97, 116, 101]⟩, .bool false, .bool true, .func (.func 233) #[] #[]] 100)).cell? ⟨w0.heap.size, 2, none⟩ = some (.bool true) := by simp
  have l3 : (w0.alloc (.cells #[.string ⟨#[103, 97, 116, 101]⟩, .bool false, .bool true, .func (.func 233) #[] #[]] 100)).cell? ⟨w0.heap.size, 3, none⟩ = some (.func (.func 233) #[] #[]) := by simp
  have hB2 : B ≤ (w0.alloc (.cells #[.string ⟨#[103, 97, 116, 101]⟩, .bool false, .bool true, .func (.func 233) #[] #[]] 100)).heap.size := Nat.le_trans hB hb1.size
  clear k0 k1 k2 k3 hk0 e0 e1 e2 h0 hb0
  generalize w0.alloc (.cells #[.string ⟨#[103, 97, 116, 101]⟩, .bool false, .bool true, .func (.func 233) #[] #[]] 100) = w1 at *
  generalize w0.heap.size = gl at *
  have c5 := h1.cell 5
  simp at c5
  have x0 := fun x : Xt w1 => x.cell e0'
  have x1 := fun x : Xt w1 => x.cell e1'
  have x2 := fun x : Xt w1 => x.cell e2'
  have x3 := fun x : Xt w1 => x.cell l1
  have x4 := fun x : Xt w1 => x.cell l2
  have x5 := fun x : Xt w1 => x.cell c5
  cases hp0 : (pl == 0)
  all_goals
    refine wp_region_cut [] [0, 1, 2, 3, 4, 5, 6, 7, 8, 9, 10, 11, 12, 13, 14, 15, 16, 17, 18, 19, 20, 21, 22, 23, 24, 25, 26, 27, 28, 29, 30, 31, 32, 33, 34, 35, 36, 37, 38, 39, 40] 41 [42, 43] (fun w' => ∃ x : Xt w1, w' = x.1) (by kernel_rfl) (by kernel_rfl) ⟨⟨w1.drew, (Below.refl _ _).drew⟩, rfl⟩ ?_
    simp only [opsAt_nil, opsAt_cons, consOpt_some, List.getElem?_toArray, List.getElem?_cons_zero, List.getElem?_cons_succ]
    refine wpQuiet_nil ?_
    show wpQuiet _ _ _ _ _ _
    repeat (go_big_quiet_step (first | (go_at_call 62; exact Xt.calls_same (unless_any _ _ _)) | (go_at_call 41; exact Xt.calls_same (within_any _ _ _ _)) | (go_at_call 99; exact Xt.calls_same (isPlace_any _ _))))
    refine wpQuiet_nil ?_
    intro w2 hx
    have hb2 := Xt.below hx
    clear hx
    have h2 := h1.below hb2
    have e0 := kept hb2 e0'
    have e1 := kept hb2 e1'
    have e2 := kept hb2 e2'
    have m3 := kept hb2 l3
    have q1 : gl < w2.heap.size := lt_of_cell m3
    have q2 : w.heap.size < w2.heap.size := lt_of_cell e0
    clear x0 x1 x2 x3 x4 x5 e0' e1' e2' l1 l2 l3 c5
    go_wp2_with (go_at_call 61; refine (first3 _ _ _ _).mono ?_; rintro e w' ⟨rfl, rfl⟩)
    refine onlyNormal_mk ?_
    generalize hE : firstE _ = E
    have hev : evE D false true pl dr = E := by rw [← hE]; simp [evE, hp0]
    have HEV := Lib.hid hev
    clear hev hE
    have hB3 : B ≤ w2.heap.size := Nat.le_trans hB2 hb2.size
    have hb2' : Below B w w2 := hb1.trans (hb2.mono hB2)
    have hb3 : ∀ o, Below B w (w2.alloc o) := fun o => hb2'.alloc hB3 o
    cases hz : (E != 0)
    · have hE0 : E = 0 := by simpa using hz
      have HE0 := Lib.hid hE0
      clear hE0
      have hdr : withinB dr 0 ((D : Int) - 1) = true := by
        have h1 := HEV.out
        rw [HE0.out, evE, firstE3] at h1
        cases h5 : withinB dr 0 ((D : Int) - 1)
        · rw [h5] at h1
          simp [unlessE] at h1
          split at h1 <;> simp_all
        · rfl
      have hdr2 := hdr
      simp only [withinB, Bool.and_eq_true, decide_eq_true_eq] at hdr2
      obtain ⟨dd, rfl⟩ := Int.eq_ofNat_of_zero_le hdr2.1
      have hdD : dd < D := by omega
      clear hdr hdr2
      go_wp2_with (go_at_call 233; refine (gate_any _ _ _ _ (by have := (hb3 (.cells #[] 0)).size; simp at this ⊢; omega) (by omega) (h2.alloc _) hp hT hdD).mono ?_; rintro e w' ⟨rfl, hT', hbm⟩)
      go_ret
      have hA : applyE D T S s 2 pl (dd : Int) = gateE T S s dd := by rw [apply_gate_eq, HEV.out, HE0.out]; rfl
      exact ⟨by rw [hA]; rfl, fun h => hT' (by rw [← hA]; exact h), (hb3 _).trans hbm⟩
    · have hE0 : E ≠ 0 := by simpa using hz
      have HE0 := Lib.hid hE0
      clear hE0
      go_wp2
      go_ret
      have hA : applyE D T S s 2 pl dr = E := by rw [apply_gate_eq, HEV.out, seqE, if_neg HE0.out]
      exact ⟨by rw [hA]; rfl, fun h => absurd (hA.symm.trans h) HE0.out, hb3 _⟩
end
end Go.Proofs.YtlbgocgocanloaaGreatDoor
