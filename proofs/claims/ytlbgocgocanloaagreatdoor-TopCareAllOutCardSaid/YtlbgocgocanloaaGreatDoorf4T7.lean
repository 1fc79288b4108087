/- The texts of events and findings: the code's and the reference's. -/
import Derived.Test.YtlbgocgocanloaaGreatDoorf4T6
namespace Go.Proofs.YtlbgocgocanloaaGreatDoor
open Go.RowKit
def blank : ByteArray := ⟨#[32]⟩
theorem blank_ba : blank = ba [32] := rfl
def I64 (n : Int) : Prop := -9223372036854775808 ≤ n ∧ n ≤ 9223372036854775807
theorem fmtE_place (pl dr : Int) : ba (wordL 1) ++ blank ++ ba (Lib.itoa pl) = ba (fmtE 1 pl dr) := by
  rw [blank_ba, ba_app, ba_app, fmtE, if_pos rfl]
  simp
theorem fmtE_door (k : Nat) (pl dr : Int) (h : 2 ≤ k ∧ k ≤ 5) : ba (wordL k) ++ blank ++ ba (Lib.itoa dr) = ba (fmtE k pl dr) := by
  rw [blank_ba, ba_app, ba_app, fmtE, if_neg (by omega), if_pos (by omega), Int.toNat_natCast]
  simp
theorem fmtE_bare (k : Nat) (pl dr : Int) (h : k < 8) (h1 : k ≠ 1) (h2 : ¬ (2 ≤ k ∧ k ≤ 5)) : ba (wordL k) = ba (fmtE k pl dr) := by
  rw [fmtE, if_neg (by omega), if_neg (by omega), if_pos (by omega), Int.toNat_natCast]
theorem fmtE_no (k pl dr : Int) (h : withinB k 0 7 = false) : (⟨#[]⟩ : ByteArray) = ba (fmtE k pl dr) := by
  have : ¬ (0 ≤ k ∧ k ≤ 7) := by
    intro ⟨h1, h2⟩
    unfold withinB at h
    rw [decide_eq_true h1, decide_eq_true h2] at h
    cases h
  rw [fmtE, if_neg (by omega), if_neg (by omega), if_neg this]
  rfl
theorem within_nat {k : Int} (h : withinB k 0 7 = true) : ∃ j : Nat, k = j ∧ j < 8 := by
  unfold withinB at h
  simp only [Bool.and_eq_true, decide_eq_true_eq] at h
  exact ⟨k.toNat, by omega, by omega⟩
set_option maxRecDepth 100000 in
set_option maxHeartbeats 4000000 in
theorem FormatEvent_any (k pl dr : Int) (hp : I64 pl) (hd : I64 dr) (w : World) (ht : TxtAt w) :
    Calls Tryz.prog 7 #[.agg #[.int .i64 k, .int .i64 pl, .int .i64 dr]] w (StrPost w (ba (fmtE k pl dr))) := by
  have hb0 : Below w.heap.size w (w.alloc (.cells #[.int .i64 k, .int .i64 pl, .int .i64 dr] 23)) := (Below.refl _ _).alloc (Nat.le_refl _) _
  have k0 : (w.alloc (.cells #[.int .i64 k, .int .i64 pl, .int .i64 dr] 23)).heap[w.heap.size]? = some (.cells #[.int .i64 k, .int .i64 pl, .int .i64 dr] 23 (0, 0)) := by rw [heapq_alloc, if_pos rfl]
  have e0 := (cell_of_row _ _ 0 _ _ _ k0).trans (by rfl : _ = some (.int .i64 k))
  have e1 := (cell_of_row _ _ 1 _ _ _ k0).trans (by rfl : _ = some (.int .i64 pl))
  have e2 := (cell_of_row _ _ 2 _ _ _ k0).trans (by rfl : _ = some (.int .i64 dr))
  cases hk : withinB k 0 7 with
  | false =>
    have HV := Lib.hid (fmtE_no k pl dr hk)
    have V := fun W => within_val k 0 7 _ hk W
    clear hk k0
    generalize fmtE k pl dr = F at *
    go_enter Tryz.func7, Tryz.ntmps7
    go_upto_region 1 with (fail)
    generalize (w.alloc (.cells #[.int .i64 k, .int .i64 pl, .int .i64 dr] 23)) = w0 at *
    go_wp2_with (go_at_call 41; refine (V _).mono ?_; rintro e w' ⟨rfl, rfl⟩)
    go_ret
    exact ⟨by rw [← HV.out]; rfl, hb0⟩
  | true =>
    have V := fun W => within_val k 0 7 _ hk W
    obtain ⟨j, rfl, hj⟩ := within_nat hk
    have ht0 := ht.below hb0
    obtain ⟨fn, c0, c1, c2, c3⟩ := kind_cells ht0.kinds j hj
    have hji : (j : Int) < 8 := by omega
    have hnl : (ba (wordL j)).size ≤ 5 := by rw [ba_size]; exact word_len j
    have hspl : (ba (Lib.itoa pl)).size ≤ 21 := by rw [ba_size]; exact Lib.itoa_length_le pl hp.1 hp.2
    have hsdl : (ba (Lib.itoa dr)).size ≤ 21 := by rw [ba_size]; exact Lib.itoa_length_le dr hd.1 hd.2
    have HFP := Lib.hid (fun h : j = 1 => (by subst h; exact fmtE_place pl dr : ba (wordL j) ++ blank ++ ba (Lib.itoa pl) = ba (fmtE j pl dr)))
    have HFD := Lib.hid (fun h : 2 ≤ j ∧ j ≤ 5 => fmtE_door j pl dr h)
    have HFB := Lib.hid (fun h1 : j ≠ 1 => fun h2 : ¬ (2 ≤ j ∧ j ≤ 5) => fmtE_bare j pl dr hj h1 h2)
    have IP := Itoa_any pl hp.1 hp.2
    have ID := Itoa_any dr hd.1 hd.2
    generalize fmtE (j : Int) pl dr = F at *
    have HTT := Lib.hid ht0
    clear hk k0 ht ht0 hp hd
    obtain ⟨nm, hnm⟩ : ∃ nm, ba (wordL j) = nm := ⟨_, rfl⟩
    rw [hnm] at c0
    rw [hnm] at HFP HFD HFB hnl
    clear hnm
    generalize ba (Lib.itoa pl) = sp at *
    generalize ba (Lib.itoa dr) = sd at *
    have z1 : ¬ 9223372036854775807 < nm.size + 1 := by omega
    have z2 : ¬ 9223372036854775807 < nm.size + 1 + sp.size := by omega
    have z3 : ¬ 9223372036854775807 < nm.size + 1 + sd.size := by omega
    clear hnl hspl hsdl
    generalize hP : decide (j = 1) = p at *
    generalize hD : (decide (2 ≤ j) && decide (j ≤ 5)) = d at *
    have HP := Lib.hid hP
    have HD := Lib.hid hD
    clear hP hD
    go_enter Tryz.func7, Tryz.ntmps7
    go_upto_region 1 with (fail)
    generalize (w.alloc (.cells #[.int .i64 (j : Int), .int .i64 pl, .int .i64 dr] 23)) = w0 at *
    go_upto_region 5 with (go_at_call 41; refine (V _).mono ?_; rintro e w' ⟨rfl, rfl⟩)
    have hb1 : Below w.heap.size w (w0.alloc (.cells #[.string nm, .bool p, .bool d, .func (.func fn) #[] #[]] 100)) := hb0.alloc hb0.size _
    have r0 : (w0.alloc (.cells #[.string nm, .bool p, .bool d, .func (.func fn) #[] #[]] 100)).heap[w0.heap.size]? = some (.cells #[.string nm, .bool p, .bool d, .func (.func fn) #[] #[]] 100 (0, 0)) := by rw [heapq_alloc, if_pos rfl]
    have l0 := (cell_of_row _ _ 0 _ _ _ r0).trans (by rfl : _ = some (.string nm))
    have l1 := (cell_of_row _ _ 1 _ _ _ r0).trans (by rfl : _ = some (.bool p))
    have l2 := (cell_of_row _ _ 2 _ _ _ r0).trans (by rfl : _ = some (.bool d))
    have e1' := cell_alloc_old (.cells #[.string nm, .bool p, .bool d, .func (.func fn) #[] #[]] 100) e1
    have e2' := cell_alloc_old (.cells #[.string nm, .bool p, .bool d, .func (.func fn) #[] #[]] 100) e2
    have HT1 := Lib.hid (HTT.out.below ((Below.refl _ _).alloc (Nat.le_refl _) (.cells #[.string nm, .bool p, .bool d, .func (.func fn) #[] #[]] 100)))
    clear c0 c1 c2 c3 e0 e1 e2 r0 HTT
    generalize (w0.alloc (.cells #[.string nm, .bool p, .bool d, .func (.func fn) #[] #[]] 100)) = w1 at *
    generalize w0.heap.size = gl at *
    have HB1 := Lib.hid hb1
    have hsz := hb1.size
    have x0 := fun x : Xt w1 => x.cell l0
    cases p with
    | true =>
      have x1 := fun x : Xt w1 => x.cell e1'
      go_upto_region 6 with (fail)
      refine wp_region_xt (by kernel_rfl) (by kernel_rfl) ?_
      repeat (go_big_quiet_step ((go_at_call 42; exact Xt.calls (IP _ (HT1.out.below (xprop _))))))
      refine wpQuiet_nil ?_
      intro w2 hx
      have hb2 := Xt.below hx
      clear hx x0 x1 l0 l1 l2 e1' e2' hb0 hb1
      go_wp2
      go_ret
      exact ⟨by rw [← HFP.out (by simpa using HP.out)]; rfl, HB1.out.trans (hb2.mono hsz)⟩
    | false =>
      cases d with
      | true =>
        have x1 := fun x : Xt w1 => x.cell e2'
        go_upto_region 8 with (fail)
        refine wp_region_xt (by kernel_rfl) (by kernel_rfl) ?_
        repeat (go_big_quiet_step ((go_at_call 42; exact Xt.calls (ID _ (HT1.out.below (xprop _))))))
        refine wpQuiet_nil ?_
        intro w2 hx
        have hb2 := Xt.below hx
        clear hx x0 x1 l0 l1 l2 e1' e2' hb0 hb1
        go_wp2
        go_ret
        exact ⟨by rw [← HFD.out (by simpa using HD.out)]; rfl, HB1.out.trans (hb2.mono hsz)⟩
      | false =>
        clear x0
        go_wp2
        go_ret
        exact ⟨by rw [← HFB.out (by simpa using HP.out) (by simpa using HD.out)]; rfl, HB1.out⟩
end Go.Proofs.YtlbgocgocanloaaGreatDoor
