/- Rooms and ways: copies, sums, ticks. -/
import Derived.Test.YtlbgocgocanloaaGreatDoorf4X1
import Derived.Test.YtlbgocgocanloaaGreatDoorf5C11
import Derived.Test.YtlbgocgocanloaaGreatDoorf4D4
import Derived.Test.YtlbgocgocanloaaGreatDoorf4R7
import Derived.Test.YtlbgocgocanloaaGreatDoorf4W1
namespace Go.Proofs.YtlbgocgocanloaaGreatDoor
open Go.RowKit
theorem intCells_len (l : List Int) : (intCells l).length = l.length := by simp [intCells]
theorem intCells_one (l : List Int) : ∀ u ∈ intCells l, u.oneCell' = true := by
  intro u hu
  simp only [intCells, List.mem_map] at hu
  obtain ⟨n, _, rfl⟩ := hu
  rfl
def IntsPost (w : World) (l : List Int) (n : Nat) (e : Ending) (w' : World) : Prop :=
  ∃ A c, e = .returned (.slice A n c) ∧ Rd w' w'.heap.size A (intCells l) ∧ Below w.heap.size w w'
end Go.Proofs.YtlbgocgocanloaaGreatDoor

/- Records: the error of a record. -/
namespace Go.Proofs.YtlbgocgocanloaaGreatDoor
open Go.RowKit
/-- a reading: its first and its last beam, and whether something was wrong -/
abbrev Rg := Int × Int × Bool
def rgVals (x : Rg) : List Value := [.int .i64 x.1, .int .i64 x.2.1, .bool x.2.2]
def rgCells (l : List Rg) : List Value := l.flatMap rgVals
theorem rgCells_cons (x : Rg) (l : List Rg) : rgCells (x :: l) = rgVals x ++ rgCells l := by simp [rgCells]
theorem rgCells_len : ∀ l : List Rg, (rgCells l).length = l.length * 3
  | [] => rfl
  | x :: l => by
    rw [rgCells_cons, List.length_append, rgCells_len l]
    simp [rgVals]
    omega
theorem rgCells_at : ∀ (l : List Rg) (k : Nat) (x : Rg), l[k]? = some x → (rgCells l)[k * 3]? = some (.int .i64 x.1) ∧ (rgCells l)[k * 3 + 1]? = some (.int .i64 x.2.1) ∧ (rgCells l)[k * 3 + 2]? = some (.bool x.2.2)
  | [], k, x, h => by simp at h
  | y :: l, 0, x, h => by
    obtain rfl : y = x := by simpa using h
    simp [rgCells_cons, rgVals]
  | y :: l, k + 1, x, h => by
    have ih := rgCells_at l k x (by simpa using h)
    rw [rgCells_cons, show (k + 1) * 3 = k * 3 + 3 by omega, show k * 3 + 3 + 1 = k * 3 + 1 + 3 by omega, show k * 3 + 3 + 2 = k * 3 + 2 + 3 by omega]
    rw [List.getElem?_append_right (by simp [rgVals]), List.getElem?_append_right (by simp [rgVals]), List.getElem?_append_right (by simp [rgVals])]
    simpa [rgVals] using ih
theorem rgCells_one (l : List Rg) : ∀ u ∈ rgCells l, u.oneCell' = true := by
  intro u hu
  simp only [rgCells, List.mem_flatMap] at hu
  obtain ⟨x, _, hx⟩ := hu
  simp [rgVals] at hx
  rcases hx with rfl | rfl | rfl <;> rfl
/-- the error of a reading -/
def rdE (bm : Int) (x : Rg) : Int := if (withinB x.1 0 (bm - 1) && withinB x.2.1 0 (bm - 1)) = true then (if x.1 ≤ x.2.1 then 0 else 9) else 6
def rdGo (bm : Int) : List Rg → Int
  | [] => 0
  | x :: l => if rdE bm x = 0 then rdGo bm l else rdE bm x
/-- the error of a record -/
def recM (bm : Int) (l : List Rg) : Int := if withinB bm 1 40 = true then (if l.length ≤ 40 then rdGo bm l else 8) else 2
theorem isBeam_val (n bm : Int) (x : Nat) (b : Bool) (hb : withinB n 0 (bm - 1) = b) (h0 : 1 ≤ bm) (h1 : bm ≤ 40) (w : World) (hc : w.cell? ⟨x, 0, none⟩ = some (.int .i64 bm)) :
    Calls Tryz.prog 108 #[.int .i64 n, .pointer (some ⟨x, 0, none⟩)] w fun e w' => e = .returned (.bool b) ∧ w = w' := by
  go_enter Tryz.func108, Tryz.ntmps108
  go_wp2_with (go_at_call 41; refine (within_val _ _ _ _ hb _).mono ?_; rintro e w' ⟨rfl, rfl⟩)
  go_ret
  exact ⟨rfl, rfl⟩
def RecRel (w0 : World) (bm : Int) (l : List Rg) (n : Nat) (V : Int) (u : Value) (wr : World) : Prop := ∃ k : Nat, k ≤ n ∧ u = .int .i64 k ∧ rdGo bm (l.drop k) = V ∧ Below w0.heap.size w0 wr
theorem drop_cons' {α : Type} {l : List α} {k : Nat} {a : α} (h : l[k]? = some a) : l.drop k = a :: l.drop (k + 1) := by
  obtain ⟨hk, rfl⟩ := List.getElem?_eq_some_iff.1 h
  exact List.drop_eq_getElem_cons hk
set_option maxRecDepth 100000 in
set_option maxHeartbeats 8000000 in
theorem recordErr_any (w : World) (B : Nat) (bm : Int) (A : Option Addr) (n c : Nat) (l : List Rg) (hl : l.length = n) (h : Rd w B A (rgCells l)) (hB : B ≤ w.heap.size) (hn : n ≤ 1000000000) :
    Calls Tryz.prog 74 #[.agg #[.int .i64 bm, .slice A n c]] w (ErrVal w (recM bm l)) := by
  have hb0 : Below w.heap.size w (w.alloc (.cells #[.int .i64 bm, .slice A n c] 70)) := (Below.refl _ _).alloc (Nat.le_refl _) _
  have h0 := h.below (hb0.mono hB)
  have k0 : (w.alloc (.cells #[.int .i64 bm, .slice A n c] 70)).heap[w.heap.size]? = some (.cells #[.int .i64 bm, .slice A n c] 70 (0, 0)) := by rw [heapq_alloc, if_pos rfl]
  have c0 : (w.alloc (.cells #[.int .i64 bm, .slice A n c] 70)).cell? ⟨w.heap.size, 0, none⟩ = some (.int .i64 bm) := (cell_of_row _ _ 0 _ _ _ k0).trans rfl
  have c1 : (w.alloc (.cells #[.int .i64 bm, .slice A n c] 70)).cell? ⟨w.heap.size, 1, none⟩ = some (.slice A n c) := (cell_of_row _ _ 1 _ _ _ k0).trans rfl
  have hs0 : w.heap.size ≤ (w.alloc (.cells #[.int .i64 bm, .slice A n c] 70)).heap.size := hb0.size
  have hB0 := Nat.le_trans hB hs0
  have HL := Lib.hid hl
  have HB := Lib.hid hb0
  obtain ⟨b1, hb1⟩ : ∃ b, withinB bm 1 40 = b := ⟨_, rfl⟩
  have HB1 := Lib.hid hb1
  clear h hl hb0 k0 hb1
  go_enter Tryz.func74, Tryz.ntmps74
  go_upto_region 1 with (fail)
  generalize w.alloc (.cells #[.int .i64 bm, .slice A n c] 70) = w0 at *
  have x0 := fun y : Xt w0 => y.cell c0
  have x1 := fun y : Xt w0 => y.cell c1
  have V1 := fun W => within_val bm 1 40 b1 HB1.out W
  refine wp_region_cut [] [0, 1, 2, 3, 4, 5, 6, 7, 8] 9 [10, 11] (fun w' => ∃ y : Xt w0, w' = y.1) (by kernel_rfl) (by kernel_rfl) ⟨⟨w0.drew, (Below.refl _ _).drew⟩, rfl⟩ ?_
  simp only [opsAt_nil, opsAt_cons, consOpt_some, List.getElem?_toArray, List.getElem?_cons_zero, List.getElem?_cons_succ]
  refine wpQuiet_nil ?_
  show wpQuiet _ _ _ _ _ _
  repeat (go_big_quiet_step (first | (go_at_call 41; exact Xt.calls_same (V1 _)) | (go_at_call 62; exact Xt.calls_same (unless_any _ _ _))))
  refine wpQuiet_nil ?_
  intro w1 hx
  have hbX := Xt.below hx
  clear hx x0 x1 V1
  have hbY := hbX.alloc hbX.size (.cells #[.int .i64 (unlessE b1 2), .int .i64 (unlessE (decide ((n : Int) ≤ 40)) 8)] 29)
  replace c0 := kept hbY c0
  replace c1 := kept hbY c1
  replace h0 := h0.below (hbY.mono hB0)
  replace HB := Lib.hid (HB.out.trans (hbY.mono hs0))
  replace hs0 := Nat.le_trans hs0 hbY.size
  replace hB0 := Nat.le_trans hB0 hbY.size
  have F2 := first2 w1 (unlessE b1 2) (unlessE (decide ((n : Int) ≤ 40)) 8)
  clear hbX hbY
  go_wp2_with (go_at_call 61; refine F2.mono ?_; rintro e w' ⟨rfl, rfl⟩)
  refine onlyNormal_mk ?_
  clear F2
  generalize w1.alloc (.cells #[.int .i64 (unlessE b1 2), .int .i64 (unlessE (decide ((n : Int) ≤ 40)) 8)] 29) = w2 at *
  cases b1 with
  | false =>
    have HV : Hid (recM bm l = 2) := by rw [Hid, recM, HB1.out, if_neg (by decide)]
    have e1 : firstE [unlessE false 2, unlessE (decide ((n : Int) ≤ 40)) 8] = 2 := by simp [firstE, unlessE]
    rw [e1]
    clear e1
    go_wp2
    go_ret
    exact ⟨by rw [HV.out]; rfl, HB.out⟩
  | true =>
    by_cases hn40 : n ≤ 40
    · have HV : Hid (recM bm l = rdGo bm l) := by rw [Hid, recM, HB1.out, if_pos rfl, if_pos (by rw [HL.out]; exact hn40)]
      have e1 : firstE [unlessE true 2, unlessE (decide ((n : Int) ≤ 40)) 8] = 0 := by
        have : decide ((n : Int) ≤ 40) = true := by simp; omega
        rw [this]
        rfl
      rw [e1]
      have hbm : 1 ≤ bm ∧ bm ≤ 40 := by simpa [withinB] using HB1.out
      obtain ⟨hbm0, hbm1⟩ := hbm
      clear e1
      go_wp2
      go_loopw [26] (fun u wr => RecRel w2 bm l n (rdGo bm l) u wr) (fun u _ => n - (intOf u).toNat)
      case atStart => exact ⟨0, Nat.zero_le _, rfl, by simp, Below.refl _ _⟩
      case round =>
        obtain ⟨k, hk, rfl, hgo, hb⟩ := hrel
        have HBR := Lib.hid hb
        replace c0 := kept hb c0
        replace c1 := kept hb c1
        have hsz := hb.size
        have hr := h0.below (hb.mono hB0)
        clear hb h0
        by_cases hlt : k < n
        · have hkl : k < l.length := by rw [HL.out]; exact hlt
          obtain ⟨ev, hev⟩ : ∃ ev, l[k]? = some ev := ⟨_, List.getElem?_eq_getElem hkl⟩
          obtain ⟨z0, z1, z2⟩ := rgCells_at l k ev hev
          obtain ⟨bb, off, rfl, hbB, e0, e1, e2⟩ := hr.at3 z0 z1 z2
          rw [drop_cons' hev, rdGo] at hgo
          obtain ⟨f, td, wr_⟩ := ev
          simp only at e0 e1 e2
          have HGO := Lib.hid hgo
          have hba : Below wr.heap.size wr (wr.alloc (.cells #[.int .i64 f, .int .i64 td, .bool wr_] 148)) := (Below.refl _ _).alloc (Nat.le_refl _) _
          have HBK := Lib.hid (HBR.out.trans (hba.mono hsz))
          have kb : (wr.alloc (.cells #[.int .i64 f, .int .i64 td, .bool wr_] 148)).heap[wr.heap.size]? = some (.cells #[.int .i64 f, .int .i64 td, .bool wr_] 148 (0, 0)) := by rw [heapq_alloc, if_pos rfl]
          have m0 := (cell_of_row _ _ 0 _ _ _ kb).trans (by rfl : _ = some (.int .i64 f))
          have m1 := (cell_of_row _ _ 1 _ _ _ kb).trans (by rfl : _ = some (.int .i64 td))
          replace c0 := kept hba c0
          have hsa := hba.size
          clear hba kb z0 z1 z2 hev hkl hr HBR hgo
          go_upto_region 8 with (fail)
          generalize wr.alloc (.cells #[.int .i64 f, .int .i64 td, .bool wr_] 148) = wa at *
          generalize wr.heap.size = zb at *
          obtain ⟨er, her⟩ : ∃ er, er = rdE bm (f, td, wr_) := ⟨_, rfl⟩
          have HER := Lib.hid her
          clear her
          have x0 := fun y : Xt wa => y.cell c0
          have x1 := fun y : Xt wa => y.cell m0
          have x2 := fun y : Xt wa => y.cell m1
          have HE : Hid (er = firstE [unlessE (withinB f 0 (bm - 1) && withinB td 0 (bm - 1)) 6, unlessE (decide (f ≤ td)) 9]) := by
            rw [Hid, HER.out, rdE]
            cases withinB f 0 (bm - 1) && withinB td 0 (bm - 1)
            · simp [firstE, unlessE]
            · by_cases h : f ≤ td
              · rw [if_pos rfl, if_pos h, decide_eq_true h]
                rfl
              · rw [if_pos rfl, if_neg h, decide_eq_false h]
                rfl
          cases q1 : withinB f 0 (bm - 1) <;> cases q2 : withinB td 0 (bm - 1)
          all_goals
            have HQ1 := Lib.hid q1
            have HQ2 := Lib.hid q2
            refine wp_region_cut [] [0, 1, 2, 3, 4, 5, 6, 7, 8, 9, 10, 11, 12, 13, 14, 15, 16] 17 [18, 19] (fun w' => ∃ y : Xt wa, w' = y.1) (by kernel_rfl) (by kernel_rfl) ⟨⟨wa.drew, (Below.refl _ _).drew⟩, rfl⟩ ?_
            simp only [opsAt_nil, opsAt_cons, consOpt_some, List.getElem?_toArray, List.getElem?_cons_zero, List.getElem?_cons_succ]
            refine wpQuiet_nil ?_
            show wpQuiet _ _ _ _ _ _
            repeat (go_big_quiet_step (first | (go_at_call_of 108 (Value.int .i64 f); exact Xt.calls_same (isBeam_val _ _ _ _ q1 hbm0 hbm1 _ (x0 _))) | (go_at_call_of 108 (Value.int .i64 td); exact Xt.calls_same (isBeam_val _ _ _ _ q2 hbm0 hbm1 _ (x0 _))) | (go_at_call 62; exact Xt.calls_same (unless_any _ _ _))))
            refine wpQuiet_nil ?_
            intro w3 hx
            have hbX := Xt.below hx
            clear hx q1 q2
            have F2 := fun a b => first2 w3 a b
            go_wp2_with (go_at_call 61; refine (F2 _ _).mono ?_; rintro e w' ⟨rfl, rfl⟩)
            refine onlyNormal_mk ?_
            first
              | (have e1 : firstE [unlessE true 6, unlessE (decide (f ≤ td)) 9] = er := by rw [HE.out, HQ1.out, HQ2.out]; rfl
                 have HB4 := Lib.hid ((HBK.out.trans (hbX.mono (Nat.le_trans hsz hsa))).alloc (Nat.le_trans (Nat.le_trans hsz hsa) hbX.size) (.cells #[.int .i64 (unlessE true 6), .int .i64 (unlessE (decide (f ≤ td)) 9)] 29))
                 rw [e1]
                 generalize w3.alloc (.cells #[.int .i64 (unlessE true 6), .int .i64 (unlessE (decide (f ≤ td)) 9)] 29) = w4 at *
                 clear e1 HE HQ1 HQ2 hbX x0 x1 x2 F2
                 by_cases her : er = 0
                 · have e2 : (er != 0) = false := by rw [her]; rfl
                   have HG : Hid (rdGo bm (l.drop (k + 1)) = rdGo bm l) := by
                     have := HGO.out
                     rw [← HER.out, if_pos her] at this
                     exact this
                   clear her
                   go_wp2
                   go_roundw
                   case rel => exact ⟨k + 1, by omega, by go_num, HG.out, HB4.out⟩
                   case measure => simp [intOf]; omega
                 · have e2 : (er != 0) = true := bne_iff_ne.2 her
                   have HG : Hid (rdGo bm l = er) := by
                     have := HGO.out
                     rw [← HER.out, if_neg her] at this
                     exact this.symm
                   clear her
                   go_wp2
                   go_ret
                   exact ⟨by rw [HV.out, HG.out]; rfl, HB.out.trans (HB4.out.mono hs0)⟩)
              | (have e1 : firstE [unlessE false 6, unlessE (decide (f ≤ td)) 9] = er := by rw [HE.out, HQ1.out, HQ2.out]; rfl
                 have HB4 := Lib.hid ((HBK.out.trans (hbX.mono (Nat.le_trans hsz hsa))).alloc (Nat.le_trans (Nat.le_trans hsz hsa) hbX.size) (.cells #[.int .i64 (unlessE false 6), .int .i64 (unlessE (decide (f ≤ td)) 9)] 29))
                 rw [e1]
                 generalize w3.alloc (.cells #[.int .i64 (unlessE false 6), .int .i64 (unlessE (decide (f ≤ td)) 9)] 29) = w4 at *
                 clear e1 HE HQ1 HQ2 hbX x0 x1 x2 F2
                 by_cases her : er = 0
                 · have e2 : (er != 0) = false := by rw [her]; rfl
                   have HG : Hid (rdGo bm (l.drop (k + 1)) = rdGo bm l) := by
                     have := HGO.out
                     rw [← HER.out, if_pos her] at this
                     exact this
                   clear her
                   go_wp2
                   go_roundw
                   case rel => exact ⟨k + 1, by omega, by go_num, HG.out, HB4.out⟩
                   case measure => simp [intOf]; omega
                 · have e2 : (er != 0) = true := bne_iff_ne.2 her
                   have HG : Hid (rdGo bm l = er) := by
                     have := HGO.out
                     rw [← HER.out, if_neg her] at this
                     exact this.symm
                   clear her
                   go_wp2
                   go_ret
                   exact ⟨by rw [HV.out, HG.out]; rfl, HB.out.trans (HB4.out.mono hs0)⟩)
        · obtain rfl : k = n := by omega
          have hd : l.drop k = [] := by rw [List.drop_eq_nil_iff]; rw [HL.out]; exact Nat.le_refl _
          rw [hd] at hgo
          have HG : Hid (rdGo bm l = 0) := hgo.symm
          clear hgo hd
          go_wp2
          go_ret
          exact ⟨by rw [HV.out, HG.out]; rfl, HB.out.trans (HBR.out.mono hs0)⟩
    · have HV : Hid (recM bm l = 8) := by rw [Hid, recM, HB1.out, if_pos rfl, if_neg (by rw [HL.out]; exact hn40)]
      have e1 : firstE [unlessE true 2, unlessE (decide ((n : Int) ≤ 40)) 8] = 8 := by
        have : decide ((n : Int) ≤ 40) = false := by simp; omega
        rw [this]
        rfl
      rw [e1]
      clear e1
      go_wp2
      go_ret
      exact ⟨by rw [HV.out]; rfl, HB.out⟩
end Go.Proofs.YtlbgocgocanloaaGreatDoor
