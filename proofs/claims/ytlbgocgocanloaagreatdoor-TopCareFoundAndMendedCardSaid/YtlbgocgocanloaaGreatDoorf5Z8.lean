/- The reference's Has, Ints, Suspects, explained. -/
import Derived.Test.YtlbgocgocanloaaGreatDoorf5Z4
import Derived.IntWalk
namespace Go.Proofs.YtlbgocgocanloaaGreatDoor
open Go.RowKit
theorem hasI_cons (a : Int) (l : List Int) (x : Int) : hasI (a :: l) x = (a == x || hasI l x) := rfl
theorem Has_any (A : Option Addr) (n c B : Nat) (l : List Int) (x : Int) (w : World) (hn : n ≤ 1000000000) (hl : l.length = n) (h : Rd w B A (intCells l)) :
    Calls Tryz.prog 80 #[.slice A n c, .int .i64 x] w fun e w' => e = .returned (.bool (hasI l x)) ∧ w = w' := by
  have HL := Lib.hid hl; clear hl
  go_enter Tryz.func80, Tryz.ntmps80
  go_wp2
  go_loop [5] (fun i => ∃ k : Nat, k ≤ n ∧ i = .int .i64 k ∧ hasI (l.drop k) x = hasI l x) (fun i => n - (intOf i).toNat)
  case atStart => exact ⟨0, Nat.zero_le _, rfl, by simp⟩
  case round =>
    obtain ⟨k, hk, rfl, he⟩ := hrel
    have HE := Lib.hid he; clear he
    by_cases hlt : k < n
    · have hkl : k < l.length := by rw [HL.out]; exact hlt
      obtain ⟨b, off, rfl, _, hc⟩ := h.at_ (intCells_at l k hkl)
      have HS := Lib.hid (drop_at l 0 k hkl)
      clear hkl
      generalize l[k]?.getD 0 = q at *
      by_cases hz : q = x
      · subst hz
        have HZ : Hid (hasI l q = true) := by
          rw [Hid, ← HE.out, HS.out, hasI_cons, beq_self_eq_true, Bool.true_or]
        clear HE HS
        go_wp2
        go_ret
        exact ⟨by rw [HZ.out]; rfl, rfl⟩
      · have h1 : (q == x) = false := beq_eq_false_iff_ne.2 hz
        have HZ := Lib.hid h1
        clear hz
        go_wp2
        go_round
        case rel => exact ⟨k + 1, by omega, by go_num, by rw [← HE.out, HS.out, hasI_cons, HZ.out, Bool.false_or]⟩
        case measure => simp [intOf]; omega
    · go_wp2
      go_ret
      have : l.drop k = [] := by rw [List.drop_eq_nil_iff]; rw [HL.out]; omega
      exact ⟨by rw [← HE.out, this]; rfl, rfl⟩
set_option maxHeartbeats 2000000 in
theorem Ints_same (A1 A2 : Option Addr) (n c1 c2 B1 B2 : Nat) (l : List Int) (w : World) (hn : n ≤ 1000000000) (hl : l.length = n) (h1 : Rd w B1 A1 (intCells l)) (h2 : Rd w B2 A2 (intCells l)) (hB1 : B1 ≤ w.heap.size) (hB2 : B2 ≤ w.heap.size) :
    Calls Tryz.prog 35 #[.slice A1 n c1, .slice A2 n c2] w fun e w' => e = .returned (.bool true) ∧ Below w.heap.size w w' := by
  have HL := Lib.hid hl; clear hl
  go_enter Tryz.func35, Tryz.ntmps35
  go_wp2
  go_loopw [5] (fun i wr => ∃ k : Nat, k ≤ n ∧ i = .int .i64 k ∧ Below w.heap.size w wr) (fun i _ => n - (intOf i).toNat)
  case atStart => exact ⟨0, Nat.zero_le _, rfl, Below.refl _ _⟩
  case round =>
    obtain ⟨k, hk, rfl, hb⟩ := hrel
    by_cases hlt : k < n
    · have hkl : k < l.length := by rw [HL.out]; exact hlt
      obtain ⟨b, off, rfl, _, d1⟩ := (h1.below (hb.mono hB1)).at_ (intCells_at l k hkl)
      obtain ⟨b', off', rfl, _, d2⟩ := (h2.below (hb.mono hB2)).at_ (intCells_at l k hkl)
      have HBW := Lib.hid hb
      have hsz := hb.size
      clear hkl hb
      generalize l[k]?.getD 0 = q at *
      have e0 : (q != q) = false := by simp
      go_upto_region 6 with (fail)
      have x0 := fun y : Xt wr => y.cell d1
      have x1 := fun y : Xt wr => y.cell d2
      refine wp_region_xt (by kernel_rfl) (by kernel_rfl) ?_
      repeat (go_big_quiet_step (fail))
      refine wpQuiet_nil ?_
      intro w1 hx
      have hb1 := Xt.below hx
      clear hx x0 x1 d1 d2
      have HBN := Lib.hid (HBW.out.trans (hb1.mono hsz))
      clear hb1
      go_wp2
      go_roundw
      case rel => exact ⟨k + 1, by omega, by go_num, HBN.out⟩
      case measure => simp [intOf]; omega
    · go_wp2
      go_ret
      exact ⟨rfl, hb⟩
def GoodRel (w0 : World) (l : List Rg) (b : Int) (n : Nat) (tot : Bool) (v : Value) (S : List Int) (u5 u6 : Value) (wr : World) : Prop :=
  ∃ (j : Nat) (g : Bool), j ≤ n ∧ u6 = .int .i64 j ∧ u5 = .bool g ∧ (g || (l.drop j).any (goodB b)) = tot ∧ wr.ownsRow w0.heap.size 3 1 v S.length (intCells S) ∧ Below w0.heap.size w0 wr
set_option maxRecDepth 100000 in
set_option maxHeartbeats 8000000 in
theorem refSuspects_any (w : World) (B : Nat) (bm : Nat) (A : Option Addr) (n c : Nat) (l : List Rg) (hl : l.length = n) (h : Rd w B A (rgCells l)) (hB : B ≤ w.heap.size) (hn : n ≤ 40) (hbm : bm ≤ 40) :
    Calls Tryz.prog 79 #[.agg #[.int .i64 bm, .slice A n c]] w (IntsPost w (suspK l bm) (suspK l bm).length) := by
  obtain ⟨i1, hi1, hy0, hy1, hy2⟩ := info_parts info3
  have hb0 : Below w.heap.size w (w.alloc (.cells #[.int .i64 (bm : Int), .slice A n c] 70)) := (Below.refl _ _).alloc (Nat.le_refl _) _
  have h0 := h.below (hb0.mono hB)
  have k0 : (w.alloc (.cells #[.int .i64 (bm : Int), .slice A n c] 70)).heap[w.heap.size]? = some (.cells #[.int .i64 (bm : Int), .slice A n c] 70 (0, 0)) := by rw [heapq_alloc, if_pos rfl]
  have c0 : (w.alloc (.cells #[.int .i64 (bm : Int), .slice A n c] 70)).cell? ⟨w.heap.size, 0, none⟩ = some (.int .i64 (bm : Int)) := (cell_of_row _ _ 0 _ _ _ k0).trans rfl
  have c1 : (w.alloc (.cells #[.int .i64 (bm : Int), .slice A n c] 70)).cell? ⟨w.heap.size, 1, none⟩ = some (.slice A n c) := (cell_of_row _ _ 1 _ _ _ k0).trans rfl
  have hs0 : w.heap.size ≤ (w.alloc (.cells #[.int .i64 (bm : Int), .slice A n c] 70)).heap.size := hb0.size
  have hB0 := Nat.le_trans hB hs0
  have HL := Lib.hid hl
  have HB := Lib.hid hb0
  clear h hl hb0 k0
  go_enter Tryz.func79, Tryz.ntmps79
  go_upto_region 1 with (fail)
  generalize w.alloc (.cells #[.int .i64 (bm : Int), .slice A n c] 70) = w0 at *
  have c0_ := c0
  have c1_ := c1
  have h0_ := h0
  have C0 := Lib.hid c0
  have C1 := Lib.hid c1
  clear c0_ c1_ h0_
  go_wp2
  go_loopw [3, 4] (fun u3 u4 wr => SuspRel w0 l bm u3 u4 wr) (fun _ u4 _ => bm - (intOf u4).toNat)
  case atStart => exact ⟨0, Nat.zero_le _, rfl, ⟨rfl, .inl ⟨rfl, rfl⟩⟩, Below.refl _ _⟩
  case round =>
    obtain ⟨k, hk, rfl, hown, hb⟩ := hrel
    have HOWN := Lib.hid hown
    obtain ⟨Au, cu, rfl⟩ := rowForm hown
    have HBW := Lib.hid hb
    have hsz := hb.size
    replace c0 := kept hb c0
    replace c1 := kept hb c1
    have hr := h0.below (hb.mono hB0)
    have hB1 := Nat.le_trans hB0 hsz
    have hl41 := suspK_len l k
    clear hb hown
    by_cases hlt : k < bm
    · obtain ⟨tot, htot⟩ : ∃ b, l.any (goodB (k : Int)) = b := ⟨_, rfl⟩
      have HTOT := Lib.hid htot
      clear htot
      go_wp2
      go_loopw [5, 6] (fun u5 u6 wr => GoodRel w0 l (k : Int) n tot (.slice Au (suspK l k).length cu) (suspK l k) u5 u6 wr) (fun _ u6 _ => n - (intOf u6).toNat)
      case atStart => exact ⟨0, false, Nat.zero_le _, rfl, rfl, by rw [Bool.false_or, List.drop_zero]; exact HTOT.out, HOWN.out, HBW.out⟩
      case round =>
        clear HOWN HBW hsz c0 hr hB1
        obtain ⟨j, g, hj, rfl, rfl, hg, hown, hb⟩ := hrel
        have HOWN := Lib.hid hown
        have HBJ := Lib.hid hb
        have c0' := kept hb C0.out
        have c1' := kept hb C1.out
        have hsj := hb.size
        have hrj := h0.below (hb.mono hB0)
        have HG := Lib.hid hg
        clear hb hg hown c1
        by_cases hjn : j < n
        · have hjl : j < l.length := by rw [HL.out]; exact hjn
          obtain ⟨ev, hev⟩ : ∃ ev, l[j]? = some ev := ⟨_, List.getElem?_eq_getElem hjl⟩
          obtain ⟨z0, z1, z2⟩ := rgCells_at l j ev hev
          obtain ⟨bb, off, rfl, hbB, e0, e1, e2⟩ := hrj.at3 z0 z1 z2
          have HD := Lib.hid (drop_cons' hev)
          obtain ⟨f, td, wr_⟩ := ev
          simp only at e0 e1 e2
          have hba : Below wr.heap.size wr (wr.alloc (.cells #[.int .i64 f, .int .i64 td, .bool wr_] 148)) := (Below.refl _ _).alloc (Nat.le_refl _) _
          have HBK := Lib.hid (HBJ.out.trans (hba.mono hsj))
          have HOWK := Lib.hid (ownsRow_below HOWN.out hba)
          have kb : (wr.alloc (.cells #[.int .i64 f, .int .i64 td, .bool wr_] 148)).heap[wr.heap.size]? = some (.cells #[.int .i64 f, .int .i64 td, .bool wr_] 148 (0, 0)) := by rw [heapq_alloc, if_pos rfl]
          have m0 := (cell_of_row _ _ 0 _ _ _ kb).trans (by rfl : _ = some (.int .i64 f))
          have m1 := (cell_of_row _ _ 1 _ _ _ kb).trans (by rfl : _ = some (.int .i64 td))
          have m2 := (cell_of_row _ _ 2 _ _ _ kb).trans (by rfl : _ = some (.bool wr_))
          clear hba kb z0 z1 z2 hev hjl hrj HBJ HOWN
          go_upto_region 10 with (fail)
          generalize wr.alloc (.cells #[.int .i64 f, .int .i64 td, .bool wr_] 148) = wa at *
          generalize wr.heap.size = zb at *
          cases g with
          | true =>
            have HT : Hid ((true || (l.drop (j + 1)).any (goodB (k : Int))) = tot) := HG.out
            clear HG HD
            go_wp2
            go_roundw
            case rel => exact ⟨j + 1, true, by omega, by go_num, rfl, HT.out, HOWK.out, HBK.out⟩
            case measure => simp [intOf]; omega
          | false =>
            cases wr_ with
            | true =>
              have HT : Hid ((false || (l.drop (j + 1)).any (goodB (k : Int))) = tot) := by
                have := HG.out
                rw [HD.out, List.any_cons] at this
                exact this
              clear HG HD
              go_wp2
              go_roundw
              case rel => exact ⟨j + 1, false, by omega, by go_num, rfl, HT.out, HOWK.out, HBK.out⟩
              case measure => simp [intOf]; omega
            | false =>
              cases hq : withinB (k : Int) f td
              all_goals
                have HQ := Lib.hid hq
                have HT : Hid ((withinB (k : Int) f td || (l.drop (j + 1)).any (goodB (k : Int))) = tot) := by
                  have := HG.out
                  rw [HD.out, List.any_cons] at this
                  exact this
                rw [hq] at HT
                clear HG HD
                go_wp2_with (go_at_call 19; refine (Within_val _ _ _ _ hq _).mono ?_; rintro e w' ⟨rfl, rfl⟩)
                go_roundw
                case rel => exact ⟨j + 1, _, by omega, by go_num, rfl, HT.out, HOWK.out, HBK.out⟩
                case measure => simp [intOf]; omega
        · obtain rfl : j = n := by omega
          have hd : l.drop j = [] := by rw [List.drop_eq_nil_iff]; rw [HL.out]; exact Nat.le_refl _
          have HT : Hid (g = tot) := by
            have := HG.out
            rw [hd, List.any_nil, Bool.or_false] at this
            exact this
          clear hd HG hrj
          cases g with
          | true =>
            have HK := Lib.hid (suspK_no (HTOT.out.trans HT.out.symm))
            go_wp2
            go_roundw
            case rel => exact ⟨k + 1, by omega, by go_num, by rw [HK.out]; exact HOWN.out, HBJ.out⟩
            case measure => simp [intOf]; omega
          | false =>
            have HK := Lib.hid (suspK_yes (HTOT.out.trans HT.out.symm))
            go_wp2_with (at_builtin; refine stp ?_)
            unfold Stp
            refine wpList_append_lies _ rfl _ _ 44 rfl w0.heap.size 3 i1 _ 1 8 Tryz.underlying44 hi1 hy0 hy1 hy2 rfl (by omega) (.slice Au (suspK l k).length cu) (suspK l k).length (intCells (suspK l k)) rfl (HOWN.out.alloc _) ⟨wr.heap.size, 0, none⟩ 1 1 [.int .i64 (k : Int)] rfl rfl (news1 (by simp)) (by simp [Value.oneCell']) (by omega) (by simp only [maxLen]; omega) (by omega) (by simp; omega) _ rfl ?_
            intro gg cap w3 hown1 hgrow hat hlt9
            have hb9 : Below w0.heap.size w0 w3 := (HBJ.out.alloc hsj _).grown hgrow (by simp; omega) (fun k hk => (ownBlk HOWN.out hk).1)
            have HOWN1 := Lib.hid hown1
            have HB9 := Lib.hid hb9
            clear hown1 hgrow hat hlt9 hb9
            go_wp2
            go_roundw
            case rel => exact ⟨k + 1, by omega, by go_num, (by rw [HK.out]; simpa [intCells] using HOWN1.out), HB9.out⟩
            case measure => simp [intOf]; omega
    · obtain rfl : k = bm := by omega
      go_wp2
      go_ret
      exact ⟨_, _, rfl, rd_own HOWN.out, HB.out.trans (HBW.out.mono hs0)⟩
end Go.Proofs.YtlbgocgocanloaaGreatDoor

/- The reference's explained; CheckFaults; FaultsErr. -/
namespace Go.Proofs.YtlbgocgocanloaaGreatDoor
open Go.RowKit
def OverRel (w0 : World) (f td : Int) (bs : List Int) (n2 : Nat) (tot : Bool) (u7 u8 : Value) (wr : World) : Prop :=
  ∃ (j : Nat) (g : Bool), j ≤ n2 ∧ u8 = .int .i64 j ∧ u7 = .bool g ∧ (g || (bs.drop j).any fun n => withinB n f td) = tot ∧ Below w0.heap.size w0 wr
def ExplRel (w0 : World) (l : List Rg) (bs : List Int) (n : Nat) (tot : Bool) (u5 : Value) (wr : World) : Prop :=
  ∃ i : Nat, i ≤ n ∧ u5 = .int .i64 i ∧ (l.drop i).any (missB bs) = tot ∧ Below w0.heap.size w0 wr
set_option maxRecDepth 100000 in
set_option maxHeartbeats 8000000 in
theorem explained_any (w : World) (B : Nat) (bm : Int) (A A2 : Option Addr) (n c n2 c2 : Nat) (l : List Rg) (bs : List Int) (hl : l.length = n) (hl2 : bs.length = n2) (h : Rd w B A (rgCells l)) (h2 : Rd w B A2 (intCells bs)) (hB : B ≤ w.heap.size) (hn : n ≤ 1000000000) (hn2 : n2 ≤ 1000000000) :
    Calls Tryz.prog 81 #[.agg #[.int .i64 bm, .slice A n c], .slice A2 n2 c2] w fun e w' => e = .returned (.bool (!l.any (missB bs))) ∧ Below w.heap.size w w' := by
  have hb0 : Below w.heap.size w (w.alloc (.cells #[.int .i64 bm, .slice A n c] 70)) := (Below.refl _ _).alloc (Nat.le_refl _) _
  have h0 := h.below (hb0.mono hB)
  have h20 := h2.below (hb0.mono hB)
  have k0 : (w.alloc (.cells #[.int .i64 bm, .slice A n c] 70)).heap[w.heap.size]? = some (.cells #[.int .i64 bm, .slice A n c] 70 (0, 0)) := by rw [heapq_alloc, if_pos rfl]
  have c1 : (w.alloc (.cells #[.int .i64 bm, .slice A n c] 70)).cell? ⟨w.heap.size, 1, none⟩ = some (.slice A n c) := (cell_of_row _ _ 1 _ _ _ k0).trans rfl
  have hs0 := hb0.size
  have hB0 := Nat.le_trans hB hs0
  have HL := Lib.hid hl
  have HL2 := Lib.hid hl2
  have HB := Lib.hid hb0
  obtain ⟨tot, htot⟩ : ∃ b, l.any (missB bs) = b := ⟨_, rfl⟩
  rw [htot]
  have HTOT := Lib.hid htot
  clear h h2 hl hl2 hb0 k0 htot
  go_enter Tryz.func81, Tryz.ntmps81
  go_upto_region 1 with (fail)
  generalize w.alloc (.cells #[.int .i64 bm, .slice A n c] 70) = w0 at *
  have C1 := Lib.hid c1
  go_wp2
  go_loopw [5] (fun u5 wr => ExplRel w0 l bs n tot u5 wr) (fun u5 _ => n - (intOf u5).toNat)
  case atStart => exact ⟨0, Nat.zero_le _, rfl, by rw [List.drop_zero]; exact HTOT.out, Below.refl _ _⟩
  case round =>
    obtain ⟨i, hi, rfl, hany, hb⟩ := hrel
    have HANY := Lib.hid hany
    have HBI := Lib.hid hb
    replace c1 := kept hb c1
    have hsi := hb.size
    have hr := h0.below (hb.mono hB0)
    clear hb hany
    by_cases hin : i < n
    · have hil : i < l.length := by rw [HL.out]; exact hin
      obtain ⟨ev, hev⟩ : ∃ ev, l[i]? = some ev := ⟨_, List.getElem?_eq_getElem hil⟩
      obtain ⟨z0, z1, z2⟩ := rgCells_at l i ev hev
      obtain ⟨bb, off, rfl, hbB, e0, e1, e2⟩ := hr.at3 z0 z1 z2
      have HD := Lib.hid (drop_cons' hev)
      obtain ⟨f, td, wr_⟩ := ev
      simp only at e0 e1 e2
      have hba : Below wr.heap.size wr (wr.alloc (.cells #[.int .i64 f, .int .i64 td, .bool wr_] 148)) := (Below.refl _ _).alloc (Nat.le_refl _) _
      have HBK := Lib.hid (HBI.out.trans (hba.mono hsi))
      have kb : (wr.alloc (.cells #[.int .i64 f, .int .i64 td, .bool wr_] 148)).heap[wr.heap.size]? = some (.cells #[.int .i64 f, .int .i64 td, .bool wr_] 148 (0, 0)) := by rw [heapq_alloc, if_pos rfl]
      have m0 := (cell_of_row _ _ 0 _ _ _ kb).trans (by rfl : _ = some (.int .i64 f))
      have m1 := (cell_of_row _ _ 1 _ _ _ kb).trans (by rfl : _ = some (.int .i64 td))
      have m2 := (cell_of_row _ _ 2 _ _ _ kb).trans (by rfl : _ = some (.bool wr_))
      have hsa := Nat.le_trans hsi hba.size
      clear hba kb z0 z1 z2 hev hil hr HBI
      go_upto_region 5 with (fail)
      generalize wr.alloc (.cells #[.int .i64 f, .int .i64 td, .bool wr_] 148) = wa at *
      generalize wr.heap.size = zb at *
      obtain ⟨ti, hti⟩ : ∃ b, (!wr_ || bs.any fun n => withinB n f td) = b := ⟨_, rfl⟩
      have HTI := Lib.hid hti
      have HMI : Hid (missB bs (f, td, wr_) = !ti) := by
        rw [Hid, ← hti, missB]
        simp
      clear hti
      have M0 := Lib.hid m0
      have M1 := Lib.hid m1
      go_wp2
      go_loopw [7, 8] (fun u7 u8 wr => OverRel wa f td bs n2 ti u7 u8 wr) (fun _ u8 _ => n2 - (intOf u8).toNat)
      case atStart => exact ⟨0, !wr_, Nat.zero_le _, rfl, rfl, by rw [List.drop_zero]; exact HTI.out, Below.refl _ _⟩
      case round =>
        obtain ⟨j, g, hj, rfl, rfl, hg, hb⟩ := hrel
        have HG := Lib.hid hg
        have HBJ := Lib.hid hb
        have m0' := kept hb M0.out
        have m1' := kept hb M1.out
        have hsj := hb.size
        have h2r := h20.below ((HBK.out.trans (hb.mono hsa)).mono hB0)
        clear hb hg m0 m1 m2 c1
        by_cases hjn : j < n2
        · have hjl : j < bs.length := by rw [HL2.out]; exact hjn
          obtain ⟨b2, off2, rfl, _, d1⟩ := h2r.at_ (k := j) (u := .int .i64 (bs[j]?.getD 0)) (intCells_at bs j hjl)
          have HS := Lib.hid (drop_at bs 0 j hjl)
          generalize bs[j]?.getD 0 = q at *
          clear hjl h2r
          go_upto_region 9 with (fail)
          have x0 := fun y : Xt wr => y.cell d1
          have x1 := fun y : Xt wr => y.cell m0'
          have x2 := fun y : Xt wr => y.cell m1'
          cases g with
          | true =>
            have HT : Hid ((true || (bs.drop (j + 1)).any fun n => withinB n f td) = ti) := HG.out
            clear HG HS
            refine wp_region_xt (by kernel_rfl) (by kernel_rfl) ?_
            repeat (go_big_quiet_step (fail))
            refine wpQuiet_nil ?_
            intro w1 hx
            have hb1 := Xt.below hx
            clear hx x0 x1 x2 d1 m0' m1'
            have HBN := Lib.hid (HBJ.out.trans (hb1.mono hsj))
            clear hb1
            go_wp2
            go_roundw
            case rel => exact ⟨j + 1, true, by omega, by go_num, rfl, HT.out, HBN.out⟩
            case measure => simp [intOf]; omega
          | false =>
            cases hq : withinB q f td
            all_goals
              have HT : Hid ((withinB q f td || (bs.drop (j + 1)).any fun n => withinB n f td) = ti) := by
                have := HG.out
                rw [HS.out, List.any_cons] at this
                exact this
              rw [hq] at HT
              clear HG HS
              refine wp_region_xt (by kernel_rfl) (by kernel_rfl) ?_
              repeat (go_big_quiet_step ((go_at_call 19; exact Xt.calls_same (Within_val _ _ _ _ hq _))))
              refine wpQuiet_nil ?_
              intro w1 hx
              have hb1 := Xt.below hx
              clear hx x0 x1 x2 d1 m0' m1' hq
              have HBN := Lib.hid (HBJ.out.trans (hb1.mono hsj))
              clear hb1
              go_wp2
              go_roundw
              case rel => exact ⟨j + 1, _, by omega, by go_num, rfl, HT.out, HBN.out⟩
              case measure => simp [intOf]; omega
        · obtain rfl : j = n2 := by omega
          have hd : bs.drop j = [] := by rw [List.drop_eq_nil_iff]; rw [HL2.out]; exact Nat.le_refl _
          have HT : Hid (g = ti) := by
            have := HG.out
            rw [hd, List.any_nil, Bool.or_false] at this
            exact this
          have HBE := Lib.hid (HBK.out.trans (HBJ.out.mono hsa))
          clear hd HG h2r
          cases g with
          | true =>
            have HA : Hid ((l.drop (i + 1)).any (missB bs) = tot) := by
              have := HANY.out
              rw [HD.out, List.any_cons, HMI.out, ← HT.out] at this
              exact this
            clear HANY HD HMI
            go_wp2
            go_roundw
            case rel => exact ⟨i + 1, by omega, by go_num, HA.out, HBE.out⟩
            case measure => simp [intOf]; omega
          | false =>
            have HA : Hid (tot = true) := by
              have := HANY.out
              rw [HD.out, List.any_cons, HMI.out, ← HT.out] at this
              exact this.symm
            clear HANY HD HMI
            go_wp2
            go_ret
            exact ⟨by rw [HA.out]; rfl, HB.out.trans (HBE.out.mono hs0)⟩
    · obtain rfl : i = n := by omega
      have hd : l.drop i = [] := by rw [List.drop_eq_nil_iff]; rw [HL.out]; exact Nat.le_refl _
      have HA : Hid (tot = false) := by
        have := HANY.out
        rw [hd, List.any_nil] at this
        exact this.symm
      clear hd HANY
      go_wp2
      go_ret
      exact ⟨by rw [HA.out]; rfl, HB.out.trans (HBI.out.mono hs0)⟩
end Go.Proofs.YtlbgocgocanloaaGreatDoor

/- CheckFaults; the reference's FaultsErr. -/
namespace Go.Proofs.YtlbgocgocanloaaGreatDoor
open Go.RowKit
/-- the error of a beam behind another one -/
def fE (bm : Int) (S : List Int) (x last : Int) : Int := firstE [unlessE (withinB x 0 (bm - 1)) 6, unlessE (decide (last < x)) 9, unlessE (hasI S x) 13]
def faultGo (bm : Int) (S : List Int) : List Int → Int → Int
  | [], _ => 0
  | x :: l, last => if fE bm S x last = 0 then faultGo bm S l x else fE bm S x last
/-- the error of beams that explain a right record -/
def faultsM (bm : Int) (l : List Rg) (S bs : List Int) : Int := if faultGo bm S bs (-1) = 0 then (if l.any (missB bs) = true then 14 else 0) else faultGo bm S bs (-1)
end Go.Proofs.YtlbgocgocanloaaGreatDoor

/- The reference's FaultsErr. -/
namespace Go.Proofs.YtlbgocgocanloaaGreatDoor
open Go.RowKit
/-- the beam ahead of the k-th one -/
def lastAt (bs : List Int) (k : Nat) : Int := if k = 0 then -1 else bs[k - 1]?.getD 0
def RefFaultRel (w0 : World) (bm : Int) (S bs : List Int) (n2 : Nat) (tot : Int) (u6 : Value) (wr : World) : Prop :=
  ∃ k : Nat, k ≤ n2 ∧ u6 = .int .i64 k ∧ faultGo bm S (bs.drop k) (lastAt bs k) = tot ∧ Below w0.heap.size w0 wr
theorem fE_6 {bm : Int} {S : List Int} {x last : Int} (h : withinB x 0 (bm - 1) = false) : fE bm S x last = 6 := by
  unfold fE
  rw [h]
  rfl
theorem fE_9 {bm : Int} {S : List Int} {x last : Int} (h : withinB x 0 (bm - 1) = true) (h1 : ¬ last < x) : fE bm S x last = 9 := by
  unfold fE
  rw [h, decide_eq_false h1]
  rfl
theorem fE_13 {bm : Int} {S : List Int} {x last : Int} (h : withinB x 0 (bm - 1) = true) (h1 : last < x) (h2 : hasI S x = false) : fE bm S x last = 13 := by
  unfold fE
  rw [h, decide_eq_true h1, h2]
  rfl
theorem fE_0 {bm : Int} {S : List Int} {x last : Int} (h : withinB x 0 (bm - 1) = true) (h1 : last < x) (h2 : hasI S x = true) : fE bm S x last = 0 := by
  unfold fE
  rw [h, decide_eq_true h1, h2]
  rfl
set_option maxRecDepth 100000 in
set_option maxHeartbeats 8000000 in
theorem FaultsErr_any (w : World) (B : Nat) (bm : Nat) (A A2 : Option Addr) (n c n2 c2 : Nat) (l : List Rg) (bs : List Int) (hl : l.length = n) (hl2 : bs.length = n2) (h : Rd w B A (rgCells l)) (h2 : Rd w B A2 (intCells bs)) (hB : B ≤ w.heap.size) (hn2 : n2 ≤ 1000000000) (h0 : recM bm l = 0) (E : Int) (hE : faultsM bm l (suspK l bm) bs = E) :
    Calls Tryz.prog 32 #[.agg #[.int .i64 bm, .slice A n c], .slice A2 n2 c2] w (ErrVal w E) := by
  obtain ⟨r1, r2, r3⟩ := recM_zero h0
  rw [hl] at r3
  have hb0 : Below w.heap.size w (w.alloc (.cells #[.int .i64 (bm : Int), .slice A n c] 70)) := (Below.refl _ _).alloc (Nat.le_refl _) _
  have hr0 := h.below (hb0.mono hB)
  have h20 := h2.below (hb0.mono hB)
  have k0 : (w.alloc (.cells #[.int .i64 (bm : Int), .slice A n c] 70)).heap[w.heap.size]? = some (.cells #[.int .i64 (bm : Int), .slice A n c] 70 (0, 0)) := by rw [heapq_alloc, if_pos rfl]
  have c0 : (w.alloc (.cells #[.int .i64 (bm : Int), .slice A n c] 70)).cell? ⟨w.heap.size, 0, none⟩ = some (.int .i64 (bm : Int)) := (cell_of_row _ _ 0 _ _ _ k0).trans rfl
  have c1 : (w.alloc (.cells #[.int .i64 (bm : Int), .slice A n c] 70)).cell? ⟨w.heap.size, 1, none⟩ = some (.slice A n c) := (cell_of_row _ _ 1 _ _ _ k0).trans rfl
  have hs0 := hb0.size
  have hB0 := Nat.le_trans hB hs0
  have HL := Lib.hid hl
  have HL2 := Lib.hid hl2
  have HB := Lib.hid hb0
  have HE := Lib.hid hE
  clear h h2 hl hl2 hb0 k0 h0 hE
  go_enter Tryz.func32, Tryz.ntmps32
  go_upto_region 1 with (fail)
  generalize w.alloc (.cells #[.int .i64 (bm : Int), .slice A n c] 70) = w0 at *
  have S := refSuspects_any w0 B bm A n c l HL.out hr0 hB0 r3 (by omega)
  have hS40 : (suspK l bm).length ≤ 40 := Nat.le_trans (suspK_len l bm) (by omega)
  generalize suspK l bm = L at *
  go_upto_region 2 with (go_at_call 79; refine S.mono ?_; rintro e w2 ⟨A3, c3, rfl, h3, hb1⟩)
  replace c0 := kept hb1 c0
  replace c1 := kept hb1 c1
  replace hr0 := hr0.below (hb1.mono hB0)
  replace h20 := h20.below (hb1.mono hB0)
  replace HB := Lib.hid (HB.out.trans (hb1.mono hs0))
  replace hs0 := Nat.le_trans hs0 hb1.size
  replace hB0 := Nat.le_trans hB0 hb1.size
  clear hb1 S
  have C0 := Lib.hid c0
  have C1 := Lib.hid c1
  obtain ⟨tot, htot⟩ : ∃ t, faultGo bm L bs (-1) = t := ⟨_, rfl⟩
  have HTOT := Lib.hid htot
  clear htot
  go_wp2
  go_loopw [6] (fun u6 wr => RefFaultRel w2 bm L bs n2 tot u6 wr) (fun u6 _ => n2 - (intOf u6).toNat)
  case atStart => exact ⟨0, Nat.zero_le _, rfl, by rw [List.drop_zero]; exact HTOT.out, Below.refl _ _⟩
  case round =>
    clear c0 c1
    obtain ⟨k, hk, rfl, hgo, hb⟩ := hrel
    have HGO := Lib.hid hgo
    have HBK := Lib.hid hb
    have c0 := kept hb C0.out
    have c1 := kept hb C1.out
    have hsk := hb.size
    have h2r := h20.below (hb.mono hB0)
    have h3r := h3.below hb
    have hr := hr0.below (hb.mono hB0)
    clear hb hgo
    by_cases hkn : k < n2
    · have hkl : k < bs.length := by rw [HL2.out]; exact hkn
      obtain ⟨b2, off2, hA2, _, d1⟩ := h2r.at_ (k := k) (u := .int .i64 (bs[k]?.getD 0)) (intCells_at bs k hkl)
      have HS := Lib.hid (drop_at bs 0 k hkl)
      have HLA : Hid (lastAt bs (k + 1) = bs[k]?.getD 0) := by rw [Hid, lastAt, if_neg (by omega)]; rfl
      have HNX : Hid (fE bm L (bs[k]?.getD 0) (lastAt bs k) = 0 → faultGo bm L (bs.drop (k + 1)) (lastAt bs (k + 1)) = tot) := fun h => by
        have := HGO.out
        rw [HS.out, faultGo, if_pos h] at this
        rw [HLA.out]
        exact this
      have HER : Hid (fE bm L (bs[k]?.getD 0) (lastAt bs k) ≠ 0 → E = fE bm L (bs[k]?.getD 0) (lastAt bs k)) := fun h => by
        have := HGO.out
        rw [HS.out, faultGo, if_neg h] at this
        rw [← HE.out, faultsM, HTOT.out, ← this, if_neg h]
      have HP : Hid (k ≠ 0 → wr.cell? ⟨b2, off2 + (k - 1), none⟩ = some (.int .i64 (lastAt bs k))) := fun h => by
        obtain ⟨b3, off3, hA3, _, d2⟩ := h2r.at_ (k := k - 1) (u := .int .i64 (bs[k - 1]?.getD 0)) (intCells_at bs (k - 1) (by omega))
        rw [hA2] at hA3
        simp only [Option.some.injEq, Addr.mk.injEq, and_true] at hA3
        obtain ⟨rfl, rfl⟩ := hA3
        rw [lastAt, if_neg h]
        exact d2
      have HL0 : Hid (k = 0 → lastAt bs k = -1) := fun h => by rw [lastAt, if_pos h]
      generalize bs[k]?.getD 0 = q at *
      generalize lastAt bs k = last at *
      subst hA2
      clear hkl HS HGO hr c1
      have HBF := Lib.hid (HB.out.trans (HBK.out.mono hs0))
      cases hq : withinB q 0 ((bm : Int) - 1) with
      | false =>
        have H6 : Hid (E = 6) := by
          have h6 := fE_6 (S := L) (last := last) hq
          rw [Hid, HER.out (by rw [h6]; decide), h6]
        clear HER HNX HLA
        go_upto_region 5 with (fail)
        have x0 := fun y : Xt wr => y.cell c0
        have x1 := fun y : Xt wr => y.cell d1
        have v0 : IntKind.i64.wrap ((bm : Int) - 1) = (bm : Int) - 1 := IntWalk.i64_in _ (by omega)
        refine wp_region_xt (by kernel_rfl) (by kernel_rfl) ?_
        repeat (go_big_quiet_step ((go_at_call 19; exact Xt.calls_same (Within_val _ _ _ _ hq _))))
        refine wpQuiet_nil ?_
        intro w4 hx
        have hb1 := Xt.below hx
        clear hx x0 x1 v0 hq d1 c0
        have HBE := Lib.hid (HBF.out.trans (hb1.mono (Nat.le_trans hs0 hsk)))
        clear hb1
        go_wp2
        go_ret
        exact ⟨by rw [H6.out]; rfl, HBE.out⟩
      | true =>
        have hq0 : 0 ≤ q := by
          simp only [withinB, Bool.and_eq_true, decide_eq_true_eq] at hq
          exact hq.1
        have HQ := Lib.hid hq
        go_upto_region 5 with (fail)
        have x0 := fun y : Xt wr => y.cell c0
        have x1 := fun y : Xt wr => y.cell d1
        have v0 : IntKind.i64.wrap ((bm : Int) - 1) = (bm : Int) - 1 := IntWalk.i64_in _ (by omega)
        refine wp_region_xt (by kernel_rfl) (by kernel_rfl) ?_
        repeat (go_big_quiet_step ((go_at_call 19; exact Xt.calls_same (Within_val _ _ _ _ hq _))))
        refine wpQuiet_nil ?_
        intro w4 hx
        have hb1 := Xt.below hx
        clear hx x0 x1 v0 hq c0
        have d1' := kept hb1 d1
        have h3r' := h3r.below (hb1.mono hsk)
        have HB4 := Lib.hid (HBK.out.trans (hb1.mono hsk))
        have HBF4 := Lib.hid (HBF.out.trans (hb1.mono (Nat.le_trans hs0 hsk)))
        have hs4 := hb1.size
        have HP4 : Hid (k ≠ 0 → w4.cell? ⟨b2, off2 + (k - 1), none⟩ = some (.int .i64 last)) := fun h => kept hb1 (HP.out h)
        clear hb1 d1 h3r HP HBK HBF
        go_upto_region 7 with (fail)
        have HSZ := Lib.hid (Nat.le_trans hsk hs4)
        have HSZ0 := Lib.hid (Nat.le_trans hs0 (Nat.le_trans hsk hs4))
        by_cases hk0 : k = 0
        · have f1 : decide ((0 : Int) < (k : Int)) = false := decide_eq_false (by omega)
          have f2 : decide (0 < k) = false := decide_eq_false (by omega)
          have hlq : Hid (last < q) := by rw [Hid, HL0.out hk0]; omega
          clear hk0 HP4 HL0
          have x1 := fun y : Xt w4 => y.cell d1'
          refine wp_region_xt (by kernel_rfl) (by kernel_rfl) ?_
          repeat (go_big_quiet_step (fail))
          refine wpQuiet_nil ?_
          intro w5 hx
          have hb1 := Xt.below hx
          clear hx x1 f1 f2
          have d2 := kept hb1 d1'
          have h35 := h3r'.below (hb1.mono (HSZ.out))
          have HB5 := Lib.hid (HB4.out.trans (hb1.mono (HSZ.out)))
          have HBF5 := Lib.hid (HBF4.out.trans (hb1.mono HSZ0.out))
          clear hb1 d1' h3r' HB4 HBF4
          cases hh : hasI L q with
          | true =>
            have HH := Has_any A3 L.length c3 w2.heap.size L q w5 (by omega) rfl h35
            rw [hh] at HH
            have HG := Lib.hid (HNX.out (fE_0 HQ.out hlq.out hh))
            clear hh HNX HER HLA
            go_wp2_with (go_at_call 80; refine HH.mono ?_; rintro e w' ⟨rfl, rfl⟩)
            go_roundw
            case rel => exact ⟨k + 1, by omega, by go_num, HG.out, HB5.out⟩
            case measure => simp [intOf]; omega
          | false =>
            have HH := Has_any A3 L.length c3 w2.heap.size L q w5 (by omega) rfl h35
            rw [hh] at HH
            have H13 : Hid (E = 13) := by
              have h6 := fE_13 HQ.out hlq.out hh
              rw [Hid, HER.out (by rw [h6]; decide), h6]
            clear hh HNX HER HLA
            go_wp2_with (go_at_call 80; refine HH.mono ?_; rintro e w' ⟨rfl, rfl⟩)
            go_ret
            exact ⟨by rw [H13.out]; rfl, HBF5.out⟩
        · have f1 : decide ((0 : Int) < (k : Int)) = true := decide_eq_true (by omega)
          have f2 : decide (0 < k) = true := decide_eq_true (by omega)
          have d0 := HP4.out hk0
          obtain ⟨j, hj⟩ : ∃ j, k = j + 1 := ⟨k - 1, by omega⟩
          have HKJ := Lib.hid hj
          have hjn : j < n2 := by omega
          rw [show off2 + (k - 1) = off2 + j by omega] at d0
          have v1 : IntKind.i64.wrap ((k : Int) - 1) = (j : Int) := by rw [IntWalk.i64_in _ (by omega)]; omega
          have hj0 : (0 : Int) ≤ (j : Int) := by exact Int.natCast_nonneg j
          clear hk0 HP4 HL0 hj
          have x1 := fun y : Xt w4 => y.cell d1'
          have x0 := fun y : Xt w4 => y.cell d0
          by_cases hle : q ≤ last
          · have H9 : Hid (E = 9) := by
              have h6 := fE_9 (S := L) (last := last) HQ.out (Int.not_lt.2 hle)
              rw [Hid, HER.out (by rw [h6]; decide), h6]
            refine wp_region_xt (by kernel_rfl) (by kernel_rfl) ?_
            repeat (go_big_quiet_step (fail))
            refine wpQuiet_nil ?_
            intro w5 hx
            have hb1 := Xt.below hx
            clear hx x0 x1 v1 f1 f2
            have HBF5 := Lib.hid (HBF4.out.trans (hb1.mono HSZ0.out))
            clear hb1 d1' d0 h3r' HB4 HBF4
            go_wp2
            go_ret
            exact ⟨by rw [H9.out]; rfl, HBF5.out⟩
          · have hlq : Hid (last < q) := Int.not_le.1 hle
            refine wp_region_xt (by kernel_rfl) (by kernel_rfl) ?_
            repeat (go_big_quiet_step (fail))
            refine wpQuiet_nil ?_
            intro w5 hx
            have hb1 := Xt.below hx
            clear hx x0 x1 v1 f1 f2
            have d2 := kept hb1 d1'
            have h35 := h3r'.below (hb1.mono (HSZ.out))
            have HB5 := Lib.hid (HB4.out.trans (hb1.mono (HSZ.out)))
            have HBF5 := Lib.hid (HBF4.out.trans (hb1.mono HSZ0.out))
            clear hb1 d1' d0 h3r' HB4 HBF4
            cases hh : hasI L q with
            | true =>
              have HH := Has_any A3 L.length c3 w2.heap.size L q w5 (by omega) rfl h35
              rw [hh] at HH
              have HG := Lib.hid (HNX.out (fE_0 HQ.out hlq.out hh))
              clear hh HNX HER HLA
              go_wp2_with (go_at_call 80; refine HH.mono ?_; rintro e w' ⟨rfl, rfl⟩)
              go_roundw
              case rel => exact ⟨k + 1, by omega, by go_num, HG.out, HB5.out⟩
              case measure => simp [intOf]; omega
            | false =>
              have HH := Has_any A3 L.length c3 w2.heap.size L q w5 (by omega) rfl h35
              rw [hh] at HH
              have H13 : Hid (E = 13) := by
                have h6 := fE_13 HQ.out hlq.out hh
                rw [Hid, HER.out (by rw [h6]; decide), h6]
              clear hh HNX HER HLA
              go_wp2_with (go_at_call 80; refine HH.mono ?_; rintro e w' ⟨rfl, rfl⟩)
              go_ret
              exact ⟨by rw [H13.out]; rfl, HBF5.out⟩
    · obtain rfl : k = n2 := by omega
      have hd : bs.drop k = [] := by rw [List.drop_eq_nil_iff]; rw [HL2.out]; exact Nat.le_refl _
      have HT : Hid (tot = 0) := by
        have := HGO.out
        rw [hd] at this
        exact this.symm
      have X := explained_any wr B bm A A2 n c k c2 l bs HL.out HL2.out hr h2r (Nat.le_trans hB0 hsk) (by omega) hn2
      have HV : Hid (E = if l.any (missB bs) = true then 14 else 0) := by
        rw [Hid, ← HE.out, faultsM, HTOT.out, HT.out, if_pos rfl]
      clear hd HGO h2r h3r hr
      cases hx : l.any (missB bs) with
      | true =>
        rw [hx] at X HV
        have HV2 : Hid (E = 14) := HV.out
        clear hx HV
        go_wp2_with (go_at_call 81; refine X.mono ?_; rintro e w3 ⟨rfl, hb3⟩)
        go_ret
        exact ⟨by rw [HV2.out]; rfl, HB.out.trans ((HBK.out.trans (hb3.mono hsk)).mono hs0)⟩
      | false =>
        rw [hx] at X HV
        have HV2 : Hid (E = 0) := HV.out
        clear hx HV
        go_wp2_with (go_at_call 81; refine X.mono ?_; rintro e w3 ⟨rfl, hb3⟩)
        go_ret
        exact ⟨by rw [HV2.out]; rfl, HB.out.trans ((HBK.out.trans (hb3.mono hsk)).mono hs0)⟩
end Go.Proofs.YtlbgocgocanloaaGreatDoor
