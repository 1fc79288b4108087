/- The texts of events and findings: the code's and the reference's. -/
import Derived.Test.YtmcjnfghlpnghaaGreatDoorT6
namespace Go.Proofs.YtmcjnfghlpnghaaGreatDoor
open Go.RowKit

def blank : ByteArray := ⟨#[32]⟩
theorem blank_ba : blank = ba [32] := rfl
def I64 (n : Int) : Prop := -9223372036854775808 ≤ n ∧ n ≤ 9223372036854775807

theorem fmtE_place (pl dr : Int) : ba (wordL 1) ++ blank ++ ba (Lib.itoa pl) = ba (fmtE 1 pl dr) := by
  rw [blank_ba, ba_app, ba_app, fmtE, if_pos rfl]
  simp
theorem fmtE_door (k : Nat) (pl dr : Int) (h : 2 ≤ k ∧ k ≤ 5) : ba (wordL k) ++ blank ++ ba (Lib.itoa dr) = ba (fmtE k pl dr) := by
  rw [blank_ba, ba_app, ba_app, fmtE, if_neg (by omega), if_pos (by omega), Int.toNat_natCast]
  simp
theorem fmtE_bare (k : Nat) (pl dr : Int) (h : k < 8) (h1 : k ≠ 1) (h2 : ¬ (2 ≤ k ∧ k ≤ 5)) : ba (wordL k) = ba (fmtE k pl dr) := by
  rw [fmtE, if_neg (by omega), if_neg (by omega), if_pos (by omega), Int.toNat_natCast]
theorem fmtE_no (k pl dr : Int) (h : withinB k 0 7 = false) : (⟨#[]⟩ : ByteArray) = ba (fmtE k pl dr) := by
  have : ¬ (0 ≤ k ∧ k ≤ 7) := by
    intro ⟨h1, h2⟩
    unfold withinB at h
    rw [decide_eq_true h1, decide_eq_true h2] at h
    cases h
  rw [fmtE, if_neg (by omega), if_neg (by omega), if_neg this]
  rfl
theorem within_nat {k : Int} (h : withinB k 0 7 = true) : ∃ j : Nat, k = j ∧ j < 8 := by
  unfold withinB at h
  simp only [Bool.and_eq_true, decide_eq_true_eq] at h
  exact ⟨k.toNat, by omega, by omega⟩

set_option maxRecDepth 100000 in
set_option maxHeartbeats 4000000 in
theorem FormatEvent_any (k pl dr : Int) (hp : I64 pl) (hd : I64 dr) (w : World) (ht : TxtAt w) :
    Calls Tryz.prog 7 #[.agg #[.int .i64 k, .int .i64 pl, .int .i64 dr]] w (StrPost w (ba (fmtE k pl dr))) := by
  have hb0 : Below w.heap.size w (w.alloc (.cells #[.int .i64 k, .int .i64 pl, .int .i64 dr] 23)) := (Below.refl _ _).alloc (Nat.le_refl _) _
  have k0 : (w.alloc (.cells #[.int .i64 k, .int .i64 pl, .int .i64 dr] 23)).heap[w.heap.size]? = some (.cells #[.int .i64 k, .int .i64 pl, .int .i64 dr] 23 (0, 0)) := by rw [heapq_alloc, if_pos rfl]
  have e0 := (cell_of_row _ _ 0 _ _ _ k0).trans (by rfl : _ = some (.int .i64 k))
  have e1 := (cell_of_row _ _ 1 _ _ _ k0).trans (by rfl : _ = some (.int .i64 pl))
  have e2 := (cell_of_row _ _ 2 _ _ _ k0).trans (by rfl : _ = some (.int .i64 dr))
  cases hk : withinB k 0 7 with
  | false =>
    have HV := Lib.hid (fmtE_no k pl dr hk)
    have V := fun W => within_val k 0 7 _ hk W
    clear hk k0
    generalize fmtE k pl dr = F at *
    go_enter Tryz.func7, Tryz.ntmps7
    go_upto_region 1 with (fail)
    generalize (w.alloc (.cells #[.int .i64 k, .int .i64 pl, .int .i64 dr] 23)) = w0 at *
    go_wp2_with (go_at_call 41; refine (V _).mono ?_; rintro e w' ⟨rfl, rfl⟩)
    go_ret
    exact ⟨by rw [← HV.out]; rfl, hb0⟩
  | true =>
    have V := fun W => within_val k 0 7 _ hk W
    obtain ⟨j, rfl, hj⟩ := within_nat hk
    have ht0 := ht.below hb0
    obtain ⟨fn, c0, c1, c2, c3⟩ := kind_cells ht0.kinds j hj
    have hji : (j : Int) < 8 := by omega
    have hnl : (ba (wordL j)).size ≤ 5 := by rw [ba_size]; exact word_len j
    have hspl : (ba (Lib.itoa pl)).size ≤ 21 := by rw [ba_size]; exact Lib.itoa_length_le pl hp.1 hp.2
    have hsdl : (ba (Lib.itoa dr)).size ≤ 21 := by rw [ba_size]; exact Lib.itoa_length_le dr hd.1 hd.2
    have HFP := Lib.hid (fun h : j = 1 => (by subst h; exact fmtE_place pl dr : ba (wordL j) ++ blank ++ ba (Lib.itoa pl) = ba (fmtE j pl dr)))
    have HFD := Lib.hid (fun h : 2 ≤ j ∧ j ≤ 5 => fmtE_door j pl dr h)
    have HFB := Lib.hid (fun h1 : j ≠ 1 => fun h2 : ¬ (2 ≤ j ∧ j ≤ 5) => fmtE_bare j pl dr hj h1 h2)
    have IP := Itoa_any pl hp.1 hp.2
    have ID := Itoa_any dr hd.1 hd.2
    generalize fmtE (j : Int) pl dr = F at *
    have HTT := Lib.hid ht0
    clear hk k0 ht ht0 hp hd
    obtain ⟨nm, hnm⟩ : ∃ nm, ba (wordL j) = nm := ⟨_, rfl⟩
    rw [hnm] at c0
    rw [hnm] at HFP HFD HFB hnl
    clear hnm
    generalize ba (Lib.itoa pl) = sp at *
    generalize ba (Lib.itoa dr) = sd at *
    have z1 : ¬ 9223372036854775807 < nm.size + 1 := by omega
    have z2 : ¬ 9223372036854775807 < nm.size + 1 + sp.size := by omega
    have z3 : ¬ 9223372036854775807 < nm.size + 1 + sd.size := by omega
    clear hnl hspl hsdl
    generalize hP : decide (j = 1) = p at *
    generalize hD : (decide (2 ≤ j) && decide (j ≤ 5)) = d at *
    have HP := Lib.hid hP
    have HD := Lib.hid hD
    clear hP hD
    go_enter Tryz.func7, Tryz.ntmps7
    go_upto_region 1 with (fail)
    generalize (w.alloc (.cells #[.int .i64 (j : Int), .int .i64 pl, .int .i64 dr] 23)) = w0 at *
    go_upto_region 5 with (go_at_call 41; refine (V _).mono ?_; rintro e w' ⟨rfl, rfl⟩)
    have hb1 : Below w.heap.size w (w0.alloc (.cells #[.string nm, .bool p, .bool d, .func (.func fn) #[] #[]] 100)) := hb0.alloc hb0.size _
    have r0 : (w0.alloc (.cells #[.string nm, .bool p, .bool d, .func (.func fn) #[] #[]] 100)).heap[w0.heap.size]? = some (.cells #[.string nm, .bool p, .bool d, .func (.func fn) #[] #[]] 100 (0, 0)) := by rw [heapq_alloc, if_pos rfl]
    have l0 := (cell_of_row _ _ 0 _ _ _ r0).trans (by rfl : _ = some (.string nm))
    have l1 := (cell_of_row _ _ 1 _ _ _ r0).trans (by rfl : _ = some (.bool p))
    have l2 := (cell_of_row _ _ 2 _ _ _ r0).trans (by rfl : _ = some (.bool d))
    have e1' := cell_alloc_old (.cells #[.string nm, .bool p, .bool d, .func (.func fn) #[] #[]] 100) e1
    have e2' := cell_alloc_old (.cells #[.string nm, .bool p, .bool d, .func (.func fn) #[] #[]] 100) e2
    have HT1 := Lib.hid (HTT.out.below ((Below.refl _ _).alloc (Nat.le_refl _) (.cells #[.string nm, .bool p, .bool d, .func (.func fn) #[] #[]] 100)))
    clear c0 c1 c2 c3 e0 e1 e2 r0 HTT
    generalize (w0.alloc (.cells #[.string nm, .bool p, .bool d, .func (.func fn) #[] #[]] 100)) = w1 at *
    generalize w0.heap.size = gl at *
    have HB1 := Lib.hid hb1
    have hsz := hb1.size
    have x0 := fun x : Xt w1 => x.cell l0
    cases p with
    | true =>
      have x1 := fun x : Xt w1 => x.cell e1'
      go_upto_region 6 with (fail)
      refine wp_region_xt (by kernel_rfl) (by kernel_rfl) ?_
      repeat (go_big_quiet_step ((go_at_call 42; exact Xt.calls (IP _ (HT1.out.below (xprop _))))))
      refine wpQuiet_nil ?_
      intro w2 hx
      have hb2 := Xt.below hx
      clear hx x0 x1 l0 l1 l2 e1' e2' hb0 hb1
      go_wp2
      go_ret
      exact ⟨by rw [← HFP.out (by simpa using HP.out)]; rfl, HB1.out.trans (hb2.mono hsz)⟩
    | false =>
      cases d with
      | true =>
        have x1 := fun x : Xt w1 => x.cell e2'
        go_upto_region 8 with (fail)
        refine wp_region_xt (by kernel_rfl) (by kernel_rfl) ?_
        repeat (go_big_quiet_step ((go_at_call 42; exact Xt.calls (ID _ (HT1.out.below (xprop _))))))
        refine wpQuiet_nil ?_
        intro w2 hx
        have hb2 := Xt.below hx
        clear hx x0 x1 l0 l1 l2 e1' e2' hb0 hb1
        go_wp2
        go_ret
        exact ⟨by rw [← HFD.out (by simpa using HD.out)]; rfl, HB1.out.trans (hb2.mono hsz)⟩
      | false =>
        clear x0
        go_wp2
        go_ret
        exact ⟨by rw [← HFB.out (by simpa using HP.out) (by simpa using HD.out)]; rfl, HB1.out⟩

set_option maxRecDepth 100000 in
set_option maxHeartbeats 4000000 in
theorem refFormatEvent_any (k pl dr : Int) (hp : I64 pl) (hd : I64 dr) (w : World) :
    Calls Tryz.prog 13 #[.agg #[.int .i64 k, .int .i64 pl, .int .i64 dr]] w (StrPost w (ba (fmtE k pl dr))) := by
  have hb0 : Below w.heap.size w (w.alloc (.cells #[.int .i64 k, .int .i64 pl, .int .i64 dr] 23)) := (Below.refl _ _).alloc (Nat.le_refl _) _
  have k0 : (w.alloc (.cells #[.int .i64 k, .int .i64 pl, .int .i64 dr] 23)).heap[w.heap.size]? = some (.cells #[.int .i64 k, .int .i64 pl, .int .i64 dr] 23 (0, 0)) := by rw [heapq_alloc, if_pos rfl]
  have e0 := (cell_of_row _ _ 0 _ _ _ k0).trans (by rfl : _ = some (.int .i64 k))
  have e1 := (cell_of_row _ _ 1 _ _ _ k0).trans (by rfl : _ = some (.int .i64 pl))
  have e2 := (cell_of_row _ _ 2 _ _ _ k0).trans (by rfl : _ = some (.int .i64 dr))
  cases hk : withinB k 0 7 with
  | false =>
    have HV := Lib.hid (fmtE_no k pl dr hk)
    have V := fun W => IsKind_val k _ hk W
    clear hk k0
    generalize fmtE k pl dr = F at *
    go_enter Tryz.func13, Tryz.ntmps13
    go_upto_region 1 with (fail)
    generalize (w.alloc (.cells #[.int .i64 k, .int .i64 pl, .int .i64 dr] 23)) = w0 at *
    go_wp2_with (go_at_call 55; refine (V _).mono ?_; rintro e w' ⟨rfl, rfl⟩)
    go_ret
    exact ⟨by rw [← HV.out]; rfl, hb0⟩
  | true =>
    have V := fun W => IsKind_val k _ hk W
    obtain ⟨j, rfl, hj⟩ := within_nat hk
    have WD := word_any j hj
    have US := uses_any j
    have IP := Decimal_any pl hp.1 hp.2
    have ID := Decimal_any dr hd.1 hd.2
    have hnl : (ba (wordL j)).size ≤ 5 := by rw [ba_size]; exact word_len j
    have hspl : (ba (Lib.itoa pl)).size ≤ 21 := by rw [ba_size]; exact Lib.itoa_length_le pl hp.1 hp.2
    have hsdl : (ba (Lib.itoa dr)).size ≤ 21 := by rw [ba_size]; exact Lib.itoa_length_le dr hd.1 hd.2
    have HFP := Lib.hid (fun h : j = 1 => (by subst h; exact fmtE_place pl dr : ba (wordL j) ++ blank ++ ba (Lib.itoa pl) = ba (fmtE j pl dr)))
    have HFD := Lib.hid (fun h : 2 ≤ j ∧ j ≤ 5 => fmtE_door j pl dr h)
    have HFB := Lib.hid (fun h1 : j ≠ 1 => fun h2 : ¬ (2 ≤ j ∧ j ≤ 5) => fmtE_bare j pl dr hj h1 h2)
    generalize fmtE (j : Int) pl dr = F at *
    generalize ba (wordL j) = nm at *
    generalize ba (Lib.itoa pl) = sp at *
    generalize ba (Lib.itoa dr) = sd at *
    have z1 : ¬ 9223372036854775807 < nm.size + 1 := by omega
    have z2 : ¬ 9223372036854775807 < nm.size + 1 + sp.size := by omega
    have z3 : ¬ 9223372036854775807 < nm.size + 1 + sd.size := by omega
    clear hnl hspl hsdl
    clear hk k0 hp hd hj
    have x0 := fun x : Xt (w.alloc (.cells #[.int .i64 (j : Int), .int .i64 pl, .int .i64 dr] 23)) => x.cell e0
    have x1 := fun x : Xt (w.alloc (.cells #[.int .i64 (j : Int), .int .i64 pl, .int .i64 dr] 23)) => x.cell e1
    have x2 := fun x : Xt (w.alloc (.cells #[.int .i64 (j : Int), .int .i64 pl, .int .i64 dr] 23)) => x.cell e2
    go_enter Tryz.func13, Tryz.ntmps13
    go_upto_region 1 with (fail)
    generalize (w.alloc (.cells #[.int .i64 (j : Int), .int .i64 pl, .int .i64 dr] 23)) = w0 at *
    by_cases h1 : j = 1
    · have HF := Lib.hid (HFP.out h1)
      have hU : usesS j = ⟨#[112]⟩ := by subst h1; rfl
      rw [hU] at US
      clear HFP HFD HFB h1 hU x2 ID
      go_upto_region 5 with (first | (go_at_call 55; refine (V _).mono ?_; rintro e w' ⟨rfl, rfl⟩) | (go_at_call 52; refine (US _).mono ?_; rintro e w' ⟨rfl, rfl⟩))
      refine wp_region_xt (by kernel_rfl) (by kernel_rfl) ?_
      repeat (go_big_quiet_step (first | (go_at_call 51; exact Xt.calls_same (WD _)) | (go_at_call 56; exact Xt.calls (IP _))))
      refine wpQuiet_nil ?_
      intro w2 hx
      have hb2 := Xt.below hx
      clear hx x0 x1 e0 e1 e2
      go_wp2
      go_ret
      exact ⟨by rw [← HF.out]; rfl, hb0.trans (hb2.mono hb0.size)⟩
    · by_cases h2 : 2 ≤ j ∧ j ≤ 5
      · have HF := Lib.hid (HFD.out h2)
        have hU : usesS j = ⟨#[100]⟩ := by unfold usesS; rw [if_neg h1, if_pos h2]
        rw [hU] at US
        clear HFP HFD HFB h1 h2 hU x1 IP
        go_upto_region 7 with (first | (go_at_call 55; refine (V _).mono ?_; rintro e w' ⟨rfl, rfl⟩) | (go_at_call 52; refine (US _).mono ?_; rintro e w' ⟨rfl, rfl⟩))
        refine wp_region_xt (by kernel_rfl) (by kernel_rfl) ?_
        repeat (go_big_quiet_step (first | (go_at_call 51; exact Xt.calls_same (WD _)) | (go_at_call 56; exact Xt.calls (ID _))))
        refine wpQuiet_nil ?_
        intro w2 hx
        have hb2 := Xt.below hx
        clear hx x0 x2 e0 e1 e2
        go_wp2
        go_ret
        exact ⟨by rw [← HF.out]; rfl, hb0.trans (hb2.mono hb0.size)⟩
      · have HF := Lib.hid (HFB.out h1 h2)
        have hU : usesS j = ⟨#[]⟩ := by unfold usesS; rw [if_neg h1, if_neg h2]
        rw [hU] at US
        clear HFP HFD HFB h1 h2 hU x0 x1 x2 IP ID
        go_wp2_with (first | (go_at_call 55; refine (V _).mono ?_; rintro e w' ⟨rfl, rfl⟩) | (go_at_call 52; refine (US _).mono ?_; rintro e w' ⟨rfl, rfl⟩) | (go_at_call 51; refine (WD _).mono ?_; rintro e w' ⟨rfl, rfl⟩))
        go_ret
        exact ⟨by rw [← HF.out]; rfl, hb0⟩

theorem fmtF_ba (a : ByteArray) (d b o : Int) : a ++ blank ++ ba (Lib.itoa d) ++ blank ++ ba (Lib.itoa b) ++ blank ++ ba (Lib.itoa o) = ba (fmtF a.data.toList d b o) := by
  conv => lhs; rw [← ba_of a]
  rw [blank_ba, ba_app, ba_app, ba_app, ba_app, ba_app, ba_app, fmtF]
  simp

set_option maxRecDepth 100000 in
set_option maxHeartbeats 4000000 in
theorem refFormatFinding_any (a : ByteArray) (d b o : Int) (ha : a.size ≤ 1000000) (hd : I64 d) (hb : I64 b) (ho : I64 o) (w : World) :
    Calls Tryz.prog 14 #[.agg #[.string a, .int .i64 d, .int .i64 b, .int .i64 o]] w (StrPost w (ba (fmtF a.data.toList d b o))) := by
  have hb0 : Below w.heap.size w (w.alloc (.cells #[.string a, .int .i64 d, .int .i64 b, .int .i64 o] 25)) := (Below.refl _ _).alloc (Nat.le_refl _) _
  have k0 : (w.alloc (.cells #[.string a, .int .i64 d, .int .i64 b, .int .i64 o] 25)).heap[w.heap.size]? = some (.cells #[.string a, .int .i64 d, .int .i64 b, .int .i64 o] 25 (0, 0)) := by rw [heapq_alloc, if_pos rfl]
  have e0 := (cell_of_row _ _ 0 _ _ _ k0).trans (by rfl : _ = some (.string a))
  have e1 := (cell_of_row _ _ 1 _ _ _ k0).trans (by rfl : _ = some (.int .i64 d))
  have e2 := (cell_of_row _ _ 2 _ _ _ k0).trans (by rfl : _ = some (.int .i64 b))
  have e3 := (cell_of_row _ _ 3 _ _ _ k0).trans (by rfl : _ = some (.int .i64 o))
  have D1 := Decimal_any d hd.1 hd.2
  have D2 := Decimal_any b hb.1 hb.2
  have D3 := Decimal_any o ho.1 ho.2
  have l1 : (ba (Lib.itoa d)).size ≤ 21 := by rw [ba_size]; exact Lib.itoa_length_le d hd.1 hd.2
  have l2 : (ba (Lib.itoa b)).size ≤ 21 := by rw [ba_size]; exact Lib.itoa_length_le b hb.1 hb.2
  have l3 : (ba (Lib.itoa o)).size ≤ 21 := by rw [ba_size]; exact Lib.itoa_length_le o ho.1 ho.2
  have HF := Lib.hid (fmtF_ba a d b o)
  generalize fmtF a.data.toList d b o = F at *
  generalize ba (Lib.itoa d) = s1 at *
  generalize ba (Lib.itoa b) = s2 at *
  generalize ba (Lib.itoa o) = s3 at *
  have z1 : ¬ 9223372036854775807 < a.size + 1 := by omega
  have z2 : ¬ 9223372036854775807 < a.size + 1 + s1.size := by omega
  have z3 : ¬ 9223372036854775807 < a.size + 1 + s1.size + 1 := by omega
  have z4 : ¬ 9223372036854775807 < a.size + 1 + s1.size + 1 + s2.size := by omega
  have z5 : ¬ 9223372036854775807 < a.size + 1 + s1.size + 1 + s2.size + 1 := by omega
  have z6 : ¬ 9223372036854775807 < a.size + 1 + s1.size + 1 + s2.size + 1 + s3.size := by omega
  clear l1 l2 l3
  clear k0 hd hb ho
  have x0 := fun x : Xt (w.alloc (.cells #[.string a, .int .i64 d, .int .i64 b, .int .i64 o] 25)) => x.cell e0
  have x1 := fun x : Xt (w.alloc (.cells #[.string a, .int .i64 d, .int .i64 b, .int .i64 o] 25)) => x.cell e1
  have x2 := fun x : Xt (w.alloc (.cells #[.string a, .int .i64 d, .int .i64 b, .int .i64 o] 25)) => x.cell e2
  have x3 := fun x : Xt (w.alloc (.cells #[.string a, .int .i64 d, .int .i64 b, .int .i64 o] 25)) => x.cell e3
  clear e0 e1 e2 e3
  go_enter Tryz.func14, Tryz.ntmps14
  go_upto_region 1 with (fail)
  generalize (w.alloc (.cells #[.string a, .int .i64 d, .int .i64 b, .int .i64 o] 25)) = w0 at *
  refine wp_region_xt (by kernel_rfl) (by kernel_rfl) ?_
  repeat (go_big_quiet_step (first | (go_at_call_of 56 (Value.int .i64 d); exact Xt.calls (D1 _)) | (go_at_call_of 56 (Value.int .i64 b); exact Xt.calls (D2 _)) | (go_at_call_of 56 (Value.int .i64 o); exact Xt.calls (D3 _))))
  refine wpQuiet_nil ?_
  intro w2 hx
  have hb2 := Xt.below hx
  clear hx x0 x1 x2 x3
  go_wp2
  go_ret
  exact ⟨by rw [← HF.out]; rfl, hb0.trans (hb2.mono hb0.size)⟩

theorem Join_any (a : ByteArray) (d b o : Int) (ha : a.size ≤ 1000000) (hd : I64 d) (hb : I64 b) (ho : I64 o) (w : World) (g : Nat) (h : w.heap[g]? = some (.cells #[.string a, .string (ba (Lib.itoa d)), .string (ba (Lib.itoa b)), .string (ba (Lib.itoa o))] 9 (0, 0))) :
    Calls Tryz.prog 43 #[.slice (some ⟨g, 0, none⟩) 4 4, .string ⟨#[32]⟩] w (StrPost w (ba (fmtF a.data.toList d b o))) := by
  have hlen : (Lib.join ([a, ba (Lib.itoa d), ba (Lib.itoa b), ba (Lib.itoa o)].map (·.data.toList)) (⟨#[32]⟩ : ByteArray).data.toList) = fmtF a.data.toList d b o := by
    simp only [List.map_cons, List.map_nil, ba_data]
    exact fmtF_join _ _ _ _
  have C := Tryz.strings_Join g 0 4 [a, ba (Lib.itoa d), ba (Lib.itoa b), ba (Lib.itoa o)] ⟨#[32]⟩ w (fun j x hj => by
    rw [Nat.zero_add, cell_of_row _ _ _ _ _ _ h]
    match j, hj with
    | 0, hj => simp at hj; subst hj; rfl
    | 1, hj => simp at hj; subst hj; rfl
    | 2, hj => simp at hj; subst hj; rfl
    | 3, hj => simp at hj; subst hj; rfl
    | j + 4, hj => simp at hj) (by
      rcases Nat.lt_or_ge g w.heap.size with h' | h'
      · exact h'
      · rw [Array.getElem?_eq_none h'] at h; cases h) (by simp) (by simp) (by
        rw [hlen]
        have := fmtF_len a.data.toList d b o hd hb ho
        rw [← Lib.size_eq] at this
        omega)
  rw [hlen] at C
  exact C

set_option maxRecDepth 100000 in
set_option maxHeartbeats 4000000 in
theorem FormatFinding_any (a : ByteArray) (d b o : Int) (ha : a.size ≤ 1000000) (hd : I64 d) (hb : I64 b) (ho : I64 o) (w : World) (ht : TxtAt w) :
    Calls Tryz.prog 8 #[.agg #[.string a, .int .i64 d, .int .i64 b, .int .i64 o]] w (StrPost w (ba (fmtF a.data.toList d b o))) := by
  have hb0 : Below w.heap.size w (w.alloc (.cells #[.string a, .int .i64 d, .int .i64 b, .int .i64 o] 25)) := (Below.refl _ _).alloc (Nat.le_refl _) _
  have k0 : (w.alloc (.cells #[.string a, .int .i64 d, .int .i64 b, .int .i64 o] 25)).heap[w.heap.size]? = some (.cells #[.string a, .int .i64 d, .int .i64 b, .int .i64 o] 25 (0, 0)) := by rw [heapq_alloc, if_pos rfl]
  have e0 := (cell_of_row _ _ 0 _ _ _ k0).trans (by rfl : _ = some (.string a))
  have e1 := (cell_of_row _ _ 1 _ _ _ k0).trans (by rfl : _ = some (.int .i64 d))
  have e2 := (cell_of_row _ _ 2 _ _ _ k0).trans (by rfl : _ = some (.int .i64 b))
  have e3 := (cell_of_row _ _ 3 _ _ _ k0).trans (by rfl : _ = some (.int .i64 o))
  have D1 := Itoa_any d hd.1 hd.2
  have D2 := Itoa_any b hb.1 hb.2
  have D3 := Itoa_any o ho.1 ho.2
  have HT := Lib.hid (ht.below hb0)
  have JN := Join_any a d b o ha hd hb ho
  generalize fmtF a.data.toList d b o = F at *
  generalize ba (Lib.itoa d) = s1 at *
  generalize ba (Lib.itoa b) = s2 at *
  generalize ba (Lib.itoa o) = s3 at *
  clear k0 hd hb ho ht
  have x0 := fun x : Xt (w.alloc (.cells #[.string a, .int .i64 d, .int .i64 b, .int .i64 o] 25)) => x.cell e0
  have x1 := fun x : Xt (w.alloc (.cells #[.string a, .int .i64 d, .int .i64 b, .int .i64 o] 25)) => x.cell e1
  have x2 := fun x : Xt (w.alloc (.cells #[.string a, .int .i64 d, .int .i64 b, .int .i64 o] 25)) => x.cell e2
  have x3 := fun x : Xt (w.alloc (.cells #[.string a, .int .i64 d, .int .i64 b, .int .i64 o] 25)) => x.cell e3
  clear e0 e1 e2 e3
  go_enter Tryz.func8, Tryz.ntmps8
  go_upto_region 1 with (fail)
  generalize (w.alloc (.cells #[.string a, .int .i64 d, .int .i64 b, .int .i64 o] 25)) = w0 at *
  refine wp_region_cut [] [0, 1, 2, 3, 4, 5, 6, 7, 8, 9, 10] 11 [12, 13] (fun w' => ∃ x : Xt w0, w' = x.1) (by kernel_rfl) (by kernel_rfl) ⟨⟨w0.drew, (Below.refl _ _).drew⟩, rfl⟩ ?_
  simp only [opsAt_nil, opsAt_cons, consOpt_some, List.getElem?_toArray, List.getElem?_cons_zero, List.getElem?_cons_succ]
  refine wpQuiet_nil ?_
  show wpQuiet _ _ _ _ _ _
  repeat (go_big_quiet_step (first | (go_at_call_of 42 (Value.int .i64 d); exact Xt.calls (D1 _ (HT.out.below (xprop _)))) | (go_at_call_of 42 (Value.int .i64 b); exact Xt.calls (D2 _ (HT.out.below (xprop _)))) | (go_at_call_of 42 (Value.int .i64 o); exact Xt.calls (D3 _ (HT.out.below (xprop _))))))
  refine wpQuiet_nil ?_
  intro w2 hx
  have hb2 := Xt.below hx
  clear hx x0 x1 x2 x3
  have hb3 : Below w.heap.size w w2 := hb0.trans (hb2.mono hb0.size)
  have HB3 := Lib.hid hb3
  have hs3 := hb3.size
  clear hb0 hb2 hb3
  have JN2 := fun C => JN (w2.alloc (.cells C 9)) w2.heap.size
  have hrow : ∀ C : Array Value, (w2.alloc (.cells C 9)).heap[w2.heap.size]? = some (.cells C 9 (0, 0)) := fun C => by rw [heapq_alloc, if_pos rfl]
  go_wp2_with (go_at_call 43; refine (JN2 _ (hrow _)).mono ?_; rintro e w' ⟨rfl, hb4⟩)
  refine onlyNormal_mk ?_
  go_wp2
  go_ret
  exact ⟨rfl, (HB3.out.alloc hs3 _).trans (hb4.mono (by simp; omega))⟩
end Go.Proofs.YtmcjnfghlpnghaaGreatDoor
