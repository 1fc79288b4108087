/- apply at every event; told; Replay. -/
import Derived.Test.YtlbgocgocanloaaGreatDoorf4A8
import Derived.Test.YtlbgocgocanloaaGreatDoorf4A9
namespace Go.Proofs.YtlbgocgocanloaaGreatDoor
open Go.RowKit
section
variable {B g bg bd cg cd D : Nat} {T S : Int} {s : Tr}
theorem applyE_out (D : Nat) (T S : Int) (s : Tr) (k pl dr : Int) (h : withinB k 0 7 = false) : applyE D T S s k pl dr = 15 := by
  simp only [withinB, Bool.and_eq_false_iff, decide_eq_false_iff_not] at h
  unfold applyE
  split <;> first | rfl | (exfalso; omega)
theorem apply_any (w : World) (k pl dr : Int) (hB : B ≤ w.heap.size) (hD : D ≤ 1000000) (hk : KindsAt w) (h : TrainAt w B g bg bd cg cd D T S s)
    (hp : 0 ≤ s.place ∧ s.place ≤ 1000000000) (hT : 0 ≤ T ∧ T ≤ 1000000000) :
    Calls Tryz.prog 63 #[.pointer (some ⟨g, 0, none⟩), .agg #[.int .i64 k, .int .i64 pl, .int .i64 dr]] w fun e w' =>
      e = .returned (.int .i64 (applyE D T S s k pl dr)) ∧ (applyE D T S s k pl dr = 0 → TrainAt w' B g bg bd cg cd D T S (applyS s k pl dr)) ∧ Below B w w' := by
  by_cases hw : 0 ≤ k ∧ k ≤ 7
  · obtain ⟨n, rfl⟩ := Int.eq_ofNat_of_zero_le hw.1
    have hn : n ≤ 7 := by omega
    match n, hn with
    | 0, _ => exact apply_leave w pl dr hB hD hk h
    | 1, _ => exact apply_stop w pl dr hB hD hk h
    | 2, _ => exact apply_gate w pl dr hB hD hk h hp hT
    | 3, _ => exact apply_bar w pl dr hB hD hk h
    | 4, _ => exact apply_open w pl dr hB hD hk h hp hT
    | 5, _ => exact apply_shut w pl dr hB hD hk h
    | 6, _ => exact apply_alarm w pl dr hB hD hk h
    | 7, _ => exact apply_calm w pl dr hB hD hk h
  · have kw : withinB k 0 7 = false := by
      simp only [withinB, Bool.and_eq_false_iff, decide_eq_false_iff_not]
      omega
    have hA := applyE_out D T S s k pl dr kw
    have HA := Lib.hid hA
    clear hw hA
    go_enter Tryz.func63, Tryz.ntmps63
    go_wp2_with (go_at_call 41; refine (within_any _ _ _ _).mono ?_; rintro e w' ⟨rfl, rfl⟩)
    go_ret
    exact ⟨by rw [HA.out]; rfl, fun h => absurd (HA.out.symm.trans h) (by decide), (Below.refl _ _).alloc hB _⟩
def zeroSt : Value := .agg #[.bool false, .bool false, .int .i64 0, .slice none 0 0, .slice none 0 0]
theorem told_err (w : World) (p : Value) (e : Int) (he : e ≠ 0) :
    Calls Tryz.prog 69 #[p, .int .i64 e] w fun x w' => x = .returned (.tuple #[zeroSt, .int .i64 e]) ∧ Below w.heap.size w w' := by
  have hz : (e != 0) = true := by simp [he]
  clear he
  go_enter Tryz.func69, Tryz.ntmps69
  go_wp2
  refine bodyPost_ret (v := .tuple #[zeroSt, .int .i64 e]) (by simp [results, Tryz.results69, go_sem, zeroSt]) rfl ⟨rfl, ?_⟩
  exact (Below.refl _ _).alloc (Nat.le_refl _) _
def trSt (s : Tr) (bg bd cg cd D : Nat) : Value := .agg #[.bool s.mv, .bool s.al, .int .i64 s.place, .slice (some ⟨bg, 0, none⟩) D cg, .slice (some ⟨bd, 0, none⟩) D cd]
theorem told_ok (w : World) (h : TrainAt w B g bg bd cg cd D T S s) :
    Calls Tryz.prog 69 #[.pointer (some ⟨g, 0, none⟩), .int .i64 0] w fun x w' => x = .returned (.tuple #[trSt s bg bd cg cd D, .int .i64 0]) ∧ Below w.heap.size w w' := by
  have c0 := h.cell 0
  have c1 := h.cell 1
  have c2 := h.cell 2
  have c3 := h.cell 3
  have c4 := h.cell 4
  simp at c0 c1 c2 c3 c4
  have hg := h.gLt
  go_enter Tryz.func69, Tryz.ntmps69
  go_wp2
  refine bodyPost_ret (v := .tuple #[trSt s bg bd cg cd D, .int .i64 0]) (by simp [results, Tryz.results69, go_sem, trSt]) rfl ⟨rfl, ?_⟩
  exact (Below.refl _ _).alloc (Nat.le_refl _) _
end
end Go.Proofs.YtlbgocgocanloaaGreatDoor
