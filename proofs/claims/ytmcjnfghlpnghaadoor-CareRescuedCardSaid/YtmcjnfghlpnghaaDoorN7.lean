/- CareRescued: the walk. -/
import Derived.Test.YtmcjnfghlpnghaaDoorM9
namespace Go.Proofs.YtmcjnfghlpnghaaDoor
open Go.RowKit

theorem cast_toNat (T : List Nat) : (T.map fun (i : Nat) => (i : Int)).map Int.toNat = T := by
  rw [List.map_map]
  have : (Int.toNat ∘ fun (i : Nat) => (i : Int)) = id := by
    funext i
    simp
  rw [this, List.map_id]

set_option maxRecDepth 100000 in
set_option maxHeartbeats 16000000 in
theorem CareRescued_all (w : World) (L : Int) (A D : Option Addr) (n c md e : Nat) (l : List Dep) (ds : List Int) (n0 n1 : Int) (hk : KindsAt w) (hl : l.length = n) (hm : ds.length = md) (hr : Rd w w.heap.size A (depCells l)) (hd : Rd w w.heap.size D (intCells ds)) :
    Calls Tryd.prog 14 #[.agg #[.int .i64 L, .slice A n c], .slice D md e, .agg #[.int .i64 n0, .int .i64 n1]] w (AwakePost w) := by
  have hb0 : Below w.heap.size w ((w.alloc (.cells #[.int .i64 L, .slice A n c] 107)).alloc (.cells #[.int .i64 n0, .int .i64 n1] 108)) := ((Below.refl _ _).alloc (Nat.le_refl _) _).alloc (by simp) _
  replace hr := hr.below hb0
  replace hd := hd.below hb0
  have hs : w.heap.size ≤ ((w.alloc (.cells #[.int .i64 L, .slice A n c] 107)).alloc (.cells #[.int .i64 n0, .int .i64 n1] 108)).heap.size := hb0.size
  have k0 : ((w.alloc (.cells #[.int .i64 L, .slice A n c] 107)).alloc (.cells #[.int .i64 n0, .int .i64 n1] 108)).heap[w.heap.size]? = some (.cells #[.int .i64 L, .slice A n c] 107 (0, 0)) := by rw [heapq_alloc, if_neg (by simp), heapq_alloc, if_pos rfl]
  have k1 : ((w.alloc (.cells #[.int .i64 L, .slice A n c] 107)).alloc (.cells #[.int .i64 n0, .int .i64 n1] 108)).heap[w.heap.size + 1]? = some (.cells #[.int .i64 n0, .int .i64 n1] 108 (0, 0)) := by rw [heapq_alloc, if_pos (by simp)]
  have a0 : ((w.alloc (.cells #[.int .i64 L, .slice A n c] 107)).alloc (.cells #[.int .i64 n0, .int .i64 n1] 108)).cell? ⟨w.heap.size, 0, none⟩ = some (.int .i64 L) := (cell_of_row _ _ 0 _ _ _ k0).trans rfl
  have a1 : ((w.alloc (.cells #[.int .i64 L, .slice A n c] 107)).alloc (.cells #[.int .i64 n0, .int .i64 n1] 108)).cell? ⟨w.heap.size, 1, none⟩ = some (.slice A n c) := (cell_of_row _ _ 1 _ _ _ k0).trans rfl
  have q0 : ((w.alloc (.cells #[.int .i64 L, .slice A n c] 107)).alloc (.cells #[.int .i64 n0, .int .i64 n1] 108)).cell? ⟨w.heap.size + 1, 0, none⟩ = some (.int .i64 n0) := (cell_of_row _ _ 0 _ _ _ k1).trans rfl
  have q1 : ((w.alloc (.cells #[.int .i64 L, .slice A n c] 107)).alloc (.cells #[.int .i64 n0, .int .i64 n1] 108)).cell? ⟨w.heap.size + 1, 1, none⟩ = some (.int .i64 n1) := (cell_of_row _ _ 1 _ _ _ k1).trans rfl
  have A0 := awake_any _ (hk.below hb0)
  have HB := Lib.hid hb0
  have HL := Lib.hid hl
  have HM := Lib.hid hm
  clear hl hm hb0 k0 k1 hk
  go_enter Tryd.func14, Tryd.ntmps14
  go_upto_region 1 with (fail)
  generalize ((w.alloc (.cells #[.int .i64 L, .slice A n c] 107)).alloc (.cells #[.int .i64 n0, .int .i64 n1] 108)) = w0 at *
  go_wp2_with fail
  refine (A0).mono ?_
  rintro e w1 ⟨rfl, hb1⟩
  replace a0 := kept hb1 a0
  replace a1 := kept hb1 a1
  replace q0 := kept hb1 q0
  replace q1 := kept hb1 q1
  replace hr := hr.below (hb1.mono hs)
  replace hd := hd.below (hb1.mono hs)
  replace HB := Lib.hid (HB.out.trans (hb1.mono hs))
  replace hs := Nat.le_trans hs hb1.size
  clear hb1
  clear A0
  by_cases h5 : 5 < n
  · go_wp2
    go_ret
    exact ⟨rfl, HB.out⟩
  · by_cases h8 : 8 < md
    · go_wp2
      go_ret
      exact ⟨rfl, HB.out⟩
    · have RE := fun W B A1 c1 (h1 : Rd W B A1 (depCells l)) (h3 : B ≤ W.heap.size) => RescueErr_any W B L A1 n c1 l HL.out h1 h3
      unfold ErrVal at RE
      by_cases hz : rescueM L l = 0
      · have DE := fun W B A1 A3 c1 c3 (h1 : Rd W B A3 (intCells ds)) (h3 : B ≤ W.heap.size) => DepotsErr_any W B L A1 A3 n c1 md c3 ds HM.out h1 h3 (by omega) (by omega)
        unfold ErrVal at DE
        rw [hz] at RE
        by_cases hdz : depsE n ds = 0
        · rw [hdz] at DE
          have PE := fun W => PlaceErr_any n0 W
          by_cases hpz : placeE n0 = 0
          · rw [hpz] at PE
            obtain ⟨⟨hL0, hL1⟩, hn0, hn8, hok⟩ := rescueM_ok hz
            rw [HL.out] at hn0 hn8
            have HOK := Lib.hid hok
            have HZ := Lib.hid hz
            obtain ⟨hm0, hgo⟩ : 0 < md ∧ depsGo n (-1) ds = 0 := by
              have h := hdz
              unfold depsE at h
              rw [HM.out] at h
              split at h
              · exact absurd h (by decide)
              · exact ⟨by omega, h⟩
            obtain ⟨hp0, hp1⟩ := placeE_zero hpz
            have hmem := depsGo_mem ds (-1) hgo
            have hnat := nat_of_ints ds (fun d hd => (hmem d hd).1)
            have hset : ds.map Int.toNat ∈ refSets n := deps_set hgo (fun h => by rw [h] at HM; have := HM.out; simp at this; omega)
            have hdd : ∀ i ∈ ds.map Int.toNat, i < n := by
              intro i hi
              obtain ⟨d, hd, rfl⟩ := List.mem_map.1 hi
              have := hmem d hd
              omega
            have hlen : (ds.map Int.toNat).length = md := by rw [List.length_map]; exact HM.out
            have WP := fun W B A1 A3 c1 c3 (h1 : Rd W B A1 (depCells l)) (h2 : Rd W B A3 (intCells ds)) (h3 : B ≤ W.heap.size) => WorstPlace_yes W B L A1 A3 n c1 md c3 l ds HL.out HM.out h1 h2 h3 HZ.out hm0 hgo
            have BH := fun p (hp : 0 ≤ p ∧ p ≤ 2000000000) W B A1 A3 c1 c3 (h1 : Rd W B A1 (depCells l)) (h2 : Rd W B A3 (natCells (ds.map Int.toNat))) (h3 : B ≤ W.heap.size) => Behind_any W B L A1 A3 n c1 md c3 l (ds.map Int.toNat) HL.out hlen h1 h2 h3 (fun d hd => (HOK.out d hd).1) hdd (by omega) p hp
            rw [hnat] at BH
            obtain ⟨⟨hw0, hw1⟩, hw2, hw3⟩ := worst_is (L := L) (fun d hd => (hok d hd).1) (ds := ds.map Int.toNat) (fun h => by rw [h] at hlen; simp at hlen; omega) hL0
            obtain ⟨R, hR⟩ : ∃ R, bestGo (okDep l L n0) none (careSets n) = R := ⟨_, rfl⟩
            have FD := fun W B A1 c1 (h1 : Rd W B A1 (depCells l)) (h3 : B ≤ W.heap.size) => FewestDepots_yes W B L n0 A1 n c1 l HL.out h1 h3 (by omega) HZ.out hpz R hR
            unfold FewPost at FD
            have HRR : Hid (fewestM l L n0 n = R) := hR
            have HSET := Lib.hid hset
            have hwo : (worstM l L (ds.map Int.toNat)).2 = (worstM l L (ds.map Int.toNat)).2 := rfl
            obtain ⟨⟨o1, o2⟩, hom⟩ : ∃ om, worstM l L (ds.map Int.toNat) = om := ⟨_, rfl⟩
            rw [hom] at WP hw0 hw1 hw2 hw3
            have HOM := Lib.hid hom
            unfold WPPost at WP
            unfold ErrVal at BH
            simp only at WP hw0 hw1 hw2 hw3
            have BH1 := BH o1 (by omega)
            rw [hw2] at BH1
            have HLEN := Lib.hid hlen
            clear hok hgo hmem hnat hset hwo hom hw2 hz hlen hdd
            go_upto_region 5 with (first | (go_at_call 71; refine (RE w1 w.heap.size A c hr hs).mono ?_; rintro e w2 ⟨rfl, hb1⟩; have hd2 := hd.below (hb1.mono hs); have hs2 := Nat.le_trans hs hb1.size; have a02 := kept hb1 a0; have a12 := kept hb1 a1; have q02 := kept hb1 q0) | (go_at_call 72; refine (DE w2 w.heap.size A D c e hd2 hs2).mono ?_; rintro e w3 ⟨rfl, hb2⟩; have q03 := kept hb2 q02) | (go_at_call 23; refine (PE _).mono ?_; rintro e w' ⟨rfl, rfl⟩))
            have hb1 := hb1.trans (hb2.mono hb1.size)
            clear hd2 hs2 a02 a12 q02 q03 hb2 RE
            replace a0 := kept hb1 a0
            replace a1 := kept hb1 a1
            replace q0 := kept hb1 q0
            replace q1 := kept hb1 q1
            replace hr := hr.below (hb1.mono hs)
            replace hd := hd.below (hb1.mono hs)
            replace HB := Lib.hid (HB.out.trans (hb1.mono hs))
            replace hs := Nat.le_trans hs hb1.size
            clear hb1
            go_wp2_with fail
            refine (CopyRescue_any w3 w.heap.size L A n c l HL.out (by omega) hr hs).mono ?_
            rintro e w4 ⟨A1, c1, rfl, hq1, hb1⟩
            replace a0 := kept hb1 a0
            replace a1 := kept hb1 a1
            replace q0 := kept hb1 q0
            replace q1 := kept hb1 q1
            replace hr := hr.below (hb1.mono hs)
            replace hd := hd.below (hb1.mono hs)
            replace HB := Lib.hid (HB.out.trans (hb1.mono hs))
            replace hs := Nat.le_trans hs hb1.size
            clear hb1
            go_wp2_with fail
            refine (CopyInts_any w4 w.heap.size D md e ds HM.out (by omega) hd hs).mono ?_
            rintro e w5 ⟨A3, c3, rfl, ht1, hb1⟩
            replace a0 := kept hb1 a0
            replace a1 := kept hb1 a1
            replace q0 := kept hb1 q0
            replace q1 := kept hb1 q1
            replace hr := hr.below (hb1.mono hs)
            replace hd := hd.below (hb1.mono hs)
            replace hq1 := (hq1.below hb1).mono hb1.size
            replace HB := Lib.hid (HB.out.trans (hb1.mono hs))
            replace hs := Nat.le_trans hs hb1.size
            clear hb1
            go_wp2_with fail
            refine (WP w5 w5.heap.size A1 A3 c1 c3 hq1 ht1 (Nat.le_refl _)).mono ?_
            rintro e w6 ⟨rfl, hb1⟩
            replace a0 := kept hb1 a0
            replace a1 := kept hb1 a1
            replace q0 := kept hb1 q0
            replace q1 := kept hb1 q1
            replace hr := hr.below (hb1.mono hs)
            replace hd := hd.below (hb1.mono hs)
            replace hq1 := (hq1.below hb1).mono hb1.size
            replace ht1 := (ht1.below hb1).mono hb1.size
            replace HB := Lib.hid (HB.out.trans (hb1.mono hs))
            replace hs := Nat.le_trans hs hb1.size
            clear hb1
            clear hq1 ht1
            obtain ⟨b0, b1, hb1⟩ := box2 w6 o1 o2
            go_upto_region 6 with fail
            generalize w6.alloc (.cells #[.int .i64 o1, .int .i64 o2] 108) = wF at *
            replace a0 := kept hb1 a0
            replace a1 := kept hb1 a1
            replace q0 := kept hb1 q0
            replace q1 := kept hb1 q1
            replace hr := hr.below (hb1.mono hs)
            replace hd := hd.below (hb1.mono hs)
            replace HB := Lib.hid (HB.out.trans (hb1.mono hs))
            replace hs := Nat.le_trans hs hb1.size
            clear hb1
            have WV := fun W => Within_val o1 0 (2 * L) true (by simp [withinB]; omega) W
            have x0 := fun y : Xt wF => y.cell a0
            have x1 := fun y : Xt wF => y.cell a1
            have x2 := fun y : Xt wF => y.cell b0
            have x3 := fun y : Xt wF => y.cell b1
            have hbd : Below wF.heap.size wF wF.drew := (Below.refl _ _).drew
            have BD := BH1 wF.drew w.heap.size A D c e ((hr.below (hbd.mono hs))) ((hd.below (hbd.mono hs))) (Nat.le_trans hs hbd.size)
            refine wp_region_eager [19, 20] (fun w' => ∃ x : Xt wF, w' = x.1) (by kernel_rfl) ⟨⟨wF.drew, (Below.refl _ _).drew⟩, rfl⟩ ?_
            refine wpE_reads2 [0, 1, 2, 3, 4, 5, 6, 7] 13 rfl (by kernel_rfl) ?_
            simp only [opsAt_nil, opsAt_cons, consOpt_some, List.getElem?_toArray, List.getElem?_cons_zero, List.getElem?_cons_succ]
            repeat (go_big_quiet_step (fail))
            refine wpQuiet_nil ?_
            show wpE _ _ _ _ _ _ _ _ _ wF.drew
            refine wpE_one (i := 8) rfl (by kernel_rfl) rfl ?_
            unfold wpMid
            simp only [opsAt_nil, opsAt_cons, consOpt_some, List.getElem?_toArray, List.getElem?_cons_zero, List.getElem?_cons_succ]
            go_wp2_with (go_at_call 49; refine (WV _).mono ?_; rintro e w' ⟨rfl, rfl⟩)
            refine onlyNormal_mk ⟨⟨⟨_, hbd⟩, rfl⟩, ?_⟩
            refine wpE_reads2 [9, 10, 11, 12, 13, 14, 15, 17, 18] 3 rfl (by kernel_rfl) ?_
            simp only [opsAt_nil, opsAt_cons, consOpt_some, List.getElem?_toArray, List.getElem?_cons_zero, List.getElem?_cons_succ]
            repeat (go_big_quiet_step (fail))
            refine wpQuiet_nil ?_
            show wpE _ _ _ _ _ _ _ _ _ wF.drew
            clear x0 x1 x2 x3
            refine wpE_one (i := 16) rfl (by kernel_rfl) rfl ?_
            unfold wpMid
            simp only [opsAt_nil, opsAt_cons, consOpt_some, List.getElem?_toArray, List.getElem?_cons_zero, List.getElem?_cons_succ]
            go_wp2_with (go_at_call 75; refine BD.mono ?_; rintro e w7 ⟨rfl, hb5⟩)
            have hb1 := hbd.trans (hb5.mono hbd.size)
            clear BD BH1 WV hb5 hbd
            refine onlyNormal_mk ⟨⟨⟨_, hb1⟩, rfl⟩, ?_⟩
            refine wpE_tail rfl (by kernel_rfl) ?_
            simp only [opsAt_nil, opsAt_cons, consOpt_some, List.getElem?_toArray, List.getElem?_cons_zero, List.getElem?_cons_succ]
            go_wp2
            refine onlyNormal_mk ?_
            replace a0 := kept hb1 a0
            replace a1 := kept hb1 a1
            replace q0 := kept hb1 q0
            replace q1 := kept hb1 q1
            replace b0 := kept hb1 b0
            replace b1 := kept hb1 b1
            replace hr := hr.below (hb1.mono hs)
            replace hd := hd.below (hb1.mono hs)
            replace HB := Lib.hid (HB.out.trans (hb1.mono hs))
            replace hs := Nat.le_trans hs hb1.size
            clear hb1
            go_upto_region 8 with fail
            cases hin : withinB n1 0 (2 * L) with
            | true =>
              have WV := fun W => Within_val n1 0 (2 * L) true hin W
              have hin2 : 0 ≤ n1 ∧ n1 ≤ 2 * L := by simpa [withinB] using hin
              have hle := hw3 n1 hin2.1 hin2.2
              have BH2 := BH n1 (by omega)
              obtain ⟨rr, hrr⟩ : ∃ rr, reachGo l n1 (-1) (ds.map Int.toNat) = rr := ⟨_, rfl⟩
              rw [hrr] at BH2 hle
              clear hrr hin2
              clear hin
              have x0 := fun y : Xt w7 => y.cell a0
              have x1 := fun y : Xt w7 => y.cell a1
              have x2 := fun y : Xt w7 => y.cell q0
              have x3 := fun y : Xt w7 => y.cell q1
              have x4 := fun y : Xt w7 => y.cell b0
              have x5 := fun y : Xt w7 => y.cell b1
              have hbd : Below w7.heap.size w7 w7.drew := (Below.refl _ _).drew
              have BD := BH2 w7.drew w.heap.size A D c e ((hr.below (hbd.mono hs))) ((hd.below (hbd.mono hs))) (Nat.le_trans hs hbd.size)
              refine wp_region_eager [14, 15] (fun w' => ∃ x : Xt w7, w' = x.1) (by kernel_rfl) ⟨⟨w7.drew, (Below.refl _ _).drew⟩, rfl⟩ ?_
              refine wpE_reads2 [0, 1, 2, 3, 4] 11 rfl (by kernel_rfl) ?_
              simp only [opsAt_nil, opsAt_cons, consOpt_some, List.getElem?_toArray, List.getElem?_cons_zero, List.getElem?_cons_succ]
              repeat (go_big_quiet_step (fail))
              refine wpQuiet_nil ?_
              show wpE _ _ _ _ _ _ _ _ _ w7.drew
              refine wpE_one (i := 5) rfl (by kernel_rfl) rfl ?_
              unfold wpMid
              simp only [opsAt_nil, opsAt_cons, consOpt_some, List.getElem?_toArray, List.getElem?_cons_zero, List.getElem?_cons_succ]
              go_wp2_with (go_at_call 49; refine (WV _).mono ?_; rintro e w' ⟨rfl, rfl⟩)
              refine onlyNormal_mk ⟨⟨⟨_, hbd⟩, rfl⟩, ?_⟩
              refine wpE_reads2 [6, 7, 8, 9, 10, 12, 13] 3 rfl (by kernel_rfl) ?_
              simp only [opsAt_nil, opsAt_cons, consOpt_some, List.getElem?_toArray, List.getElem?_cons_zero, List.getElem?_cons_succ]
              repeat (go_big_quiet_step (fail))
              refine wpQuiet_nil ?_
              show wpE _ _ _ _ _ _ _ _ _ w7.drew
              clear x0 x1 x2 x3 x4 x5
              refine wpE_one (i := 11) rfl (by kernel_rfl) rfl ?_
              unfold wpMid
              simp only [opsAt_nil, opsAt_cons, consOpt_some, List.getElem?_toArray, List.getElem?_cons_zero, List.getElem?_cons_succ]
              go_wp2_with (go_at_call 75; refine BD.mono ?_; rintro e w8 ⟨rfl, hb5⟩)
              have hb1 := hbd.trans (hb5.mono hbd.size)
              clear BD BH2 BH hb5 hbd WV
              refine onlyNormal_mk ⟨⟨⟨_, hb1⟩, rfl⟩, ?_⟩
              refine wpE_tail rfl (by kernel_rfl) ?_
              simp only [opsAt_nil, opsAt_cons, consOpt_some, List.getElem?_toArray, List.getElem?_cons_zero, List.getElem?_cons_succ]
              go_wp2
              refine onlyNormal_mk ?_
              replace a0 := kept hb1 a0
              replace a1 := kept hb1 a1
              replace q0 := kept hb1 q0
              replace q1 := kept hb1 q1
              replace b0 := kept hb1 b0
              replace b1 := kept hb1 b1
              replace hr := hr.below (hb1.mono hs)
              replace hd := hd.below (hb1.mono hs)
              replace HB := Lib.hid (HB.out.trans (hb1.mono hs))
              replace hs := Nat.le_trans hs hb1.size
              clear hb1
              clear hw3
              go_upto_region 10 with fail
              have x0 := fun y : Xt w8 => y.cell a0
              have x1 := fun y : Xt w8 => y.cell a1
              have x2 := fun y : Xt w8 => y.cell q0
              have x3 := fun y : Xt w8 => y.cell q1
              have hbd : Below w8.heap.size w8 w8.drew := (Below.refl _ _).drew
              have CR := CopyRescue_any w8.drew w.heap.size L A n c l HL.out (by omega) (hr.below (hbd.mono hs)) (Nat.le_trans hs hbd.size)
              refine wp_region_eager [9] (fun w' => ∃ x : Xt w8, w' = x.1) (by kernel_rfl) ⟨⟨w8.drew, (Below.refl _ _).drew⟩, rfl⟩ ?_
              refine wpE_reads2 [0, 2, 3] 7 rfl (by kernel_rfl) ?_
              simp only [opsAt_nil, opsAt_cons, consOpt_some, List.getElem?_toArray, List.getElem?_cons_zero, List.getElem?_cons_succ]
              repeat (go_big_quiet_step (fail))
              refine wpQuiet_nil ?_
              show wpE _ _ _ _ _ _ _ _ _ w8.drew
              clear x0 x1 x2 x3
              refine wpE_one (i := 1) rfl (by kernel_rfl) rfl ?_
              unfold wpMid
              simp only [opsAt_nil, opsAt_cons, consOpt_some, List.getElem?_toArray, List.getElem?_cons_zero, List.getElem?_cons_succ]
              go_wp2_with (go_at_call 69; refine CR.mono ?_; rintro e w9 ⟨A1, c1, rfl, hq1, hb5⟩)
              have hb6 := hbd.trans (hb5.mono hbd.size)
              refine onlyNormal_mk ⟨⟨⟨_, hb6⟩, rfl⟩, ?_⟩
              have FDD := FD w9 w9.heap.size A1 c1 hq1 (Nat.le_refl _)
              clear CR FD hb5 hbd hq1
              refine wpE_one (i := 4) rfl (by kernel_rfl) rfl ?_
              unfold wpMid
              simp only [opsAt_nil, opsAt_cons, consOpt_some, List.getElem?_toArray, List.getElem?_cons_zero, List.getElem?_cons_succ]
              cases R with
              | none =>
                go_wp2_with (go_at_call 70; refine FDD.mono ?_; rintro e w10 ⟨v4, rfl, hbest, hb7⟩; have hv4 : v4 = .slice none 0 0 := hbest; subst hv4)
                have hb1 := hb6.trans (hb7.mono hb6.size)
                clear hb6 hb7 hbest FDD
                refine onlyNormal_mk ⟨⟨⟨_, hb1⟩, rfl⟩, ?_⟩
                refine wpE_reads2 [5, 6, 7, 8] 1 rfl (by kernel_rfl) ?_
                simp only [opsAt_nil, opsAt_cons, consOpt_some, List.getElem?_toArray, List.getElem?_cons_zero, List.getElem?_cons_succ]
                repeat (go_big_quiet_step (fail))
                refine wpQuiet_nil ?_
                refine wpE_tail rfl (by kernel_rfl) ?_
                simp only [opsAt_nil, opsAt_cons, consOpt_some, List.getElem?_toArray, List.getElem?_cons_zero, List.getElem?_cons_succ]
                go_wp2
                refine onlyNormal_mk ?_
                replace a0 := kept hb1 a0
                replace a1 := kept hb1 a1
                replace q0 := kept hb1 q0
                replace q1 := kept hb1 q1
                replace b0 := kept hb1 b0
                replace b1 := kept hb1 b1
                replace hr := hr.below (hb1.mono hs)
                replace hd := hd.below (hb1.mono hs)
                replace HB := Lib.hid (HB.out.trans (hb1.mono hs))
                replace hs := Nat.le_trans hs hb1.size
                clear hb1
                have hnone := fewestM_none (by omega) HRR.out _ HSET.out
                rw [HOM.out] at hnone
                simp only at hnone
                go_wp2
                go_ret
                exact ⟨rfl, HB.out⟩
              | some T =>
                go_wp2_with (go_at_call 70; refine FDD.mono ?_; rintro e w10 ⟨v4, rfl, ⟨g4, k4, rfl, hL4⟩, hb7⟩)
                have hb1 := hb6.trans (hb7.mono hb6.size)
                clear hb6 hb7 FDD
                refine onlyNormal_mk ⟨⟨⟨_, hb1⟩, rfl⟩, ?_⟩
                refine wpE_reads2 [5, 6, 7, 8] 1 rfl (by kernel_rfl) ?_
                simp only [opsAt_nil, opsAt_cons, consOpt_some, List.getElem?_toArray, List.getElem?_cons_zero, List.getElem?_cons_succ]
                repeat (go_big_quiet_step (fail))
                refine wpQuiet_nil ?_
                refine wpE_tail rfl (by kernel_rfl) ?_
                simp only [opsAt_nil, opsAt_cons, consOpt_some, List.getElem?_toArray, List.getElem?_cons_zero, List.getElem?_cons_succ]
                go_wp2
                refine onlyNormal_mk ?_
                replace a0 := kept hb1 a0
                replace a1 := kept hb1 a1
                replace q0 := kept hb1 q0
                replace q1 := kept hb1 q1
                replace b0 := kept hb1 b0
                replace b1 := kept hb1 b1
                replace hr := hr.below (hb1.mono hs)
                replace hd := hd.below (hb1.mono hs)
                replace HB := Lib.hid (HB.out.trans (hb1.mono hs))
                replace hs := Nat.le_trans hs hb1.size
                clear hb1
                obtain ⟨f1, f2, f3⟩ := fewestM_some (by omega) HRR.out
                obtain ⟨t0, t1, t2, t3⟩ := set_deps f1
                have f4 := f3 _ HSET.out
                rw [HLEN.out, HOM.out] at f4
                simp only at f4
                have hTl : T.length ≤ 1000 := by omega
                have hTp : 0 < T.length := List.length_pos_iff.2 t0
                rw [← nat_cast_cells] at hL4
                have DT := fun W B A1 A3 c1 c3 (h1 : Rd W B A3 (intCells (T.map fun (i : Nat) => (i : Int)))) (h3 : B ≤ W.heap.size) => DepotsErr_any W B L A1 A3 n c1 T.length c3 (T.map fun (i : Nat) => (i : Int)) (List.length_map ..) h1 h3 (by omega) (by omega)
                have hdT : depsE n (T.map fun (i : Nat) => (i : Int)) = 0 := by
                  rw [depsE, if_neg (by rw [List.length_map]; omega)]
                  exact t1
                unfold ErrVal at DT
                rw [hdT] at DT
                have WT := fun W B A1 A3 c1 c3 (h1 : Rd W B A1 (depCells l)) (h2 : Rd W B A3 (intCells (T.map fun (i : Nat) => (i : Int)))) (h3 : B ≤ W.heap.size) => WorstPlace_yes W B L A1 A3 n c1 T.length c3 l (T.map fun (i : Nat) => (i : Int)) HL.out (List.length_map ..) h1 h2 h3 HZ.out hTp t1
                rw [cast_toNat] at WT
                obtain ⟨⟨v1, v2⟩, hvm⟩ : ∃ om, worstM l L T = om := ⟨_, rfl⟩
                rw [hvm] at WT f2
                unfold WPPost at WT
                simp only at WT f2
                clear hvm hdT t0 t1 t2 t3 f1 f3
                go_upto_region 13 with fail
                by_cases hlt : md < T.length
                · have DTD := DT w10 w10.heap.size A (some ⟨g4, 0, none⟩) c k4 hL4 (Nat.le_refl _)
                  have hgt : 2 * n0 < o2 := by
                    rcases Int.lt_or_le (2 * n0) o2 with h | h
                    · exact h
                    · have := f4 h
                      omega
                  go_upto_region 15 with (go_at_call 72; refine DTD.mono ?_; rintro e w11 ⟨rfl, hb1⟩; have b1' := kept hb1 b1; have q0' := kept hb1 q0)
                  clear b1' q0'
                  replace a0 := kept hb1 a0
                  replace a1 := kept hb1 a1
                  replace q0 := kept hb1 q0
                  replace q1 := kept hb1 q1
                  replace b0 := kept hb1 b0
                  replace b1 := kept hb1 b1
                  replace hr := hr.below (hb1.mono hs)
                  replace hd := hd.below (hb1.mono hs)
                  replace hL4 := (hL4.below hb1).mono hb1.size
                  replace HB := Lib.hid (HB.out.trans (hb1.mono hs))
                  replace hs := Nat.le_trans hs hb1.size
                  clear hb1
                  clear DTD DT
                  go_wp2_with fail
                  refine (CopyRescue_any w11 w.heap.size L A n c l HL.out (by omega) hr hs).mono ?_
                  rintro e w12 ⟨A1, c1, rfl, hq1, hb1⟩
                  replace a0 := kept hb1 a0
                  replace a1 := kept hb1 a1
                  replace q0 := kept hb1 q0
                  replace q1 := kept hb1 q1
                  replace b0 := kept hb1 b0
                  replace b1 := kept hb1 b1
                  replace hr := hr.below (hb1.mono hs)
                  replace hd := hd.below (hb1.mono hs)
                  replace hL4 := (hL4.below hb1).mono hb1.size
                  replace HB := Lib.hid (HB.out.trans (hb1.mono hs))
                  replace hs := Nat.le_trans hs hb1.size
                  clear hb1
                  go_wp2_with fail
                  refine (CopyInts_any w12 w12.heap.size (some ⟨g4, 0, none⟩) T.length k4 (T.map fun (i : Nat) => (i : Int)) (List.length_map ..) (by omega) hL4 (Nat.le_refl _)).mono ?_
                  rintro e w13 ⟨A3, c3, rfl, ht1, hb1⟩
                  replace a0 := kept hb1 a0
                  replace a1 := kept hb1 a1
                  replace q0 := kept hb1 q0
                  replace q1 := kept hb1 q1
                  replace b0 := kept hb1 b0
                  replace b1 := kept hb1 b1
                  replace hr := hr.below (hb1.mono hs)
                  replace hd := hd.below (hb1.mono hs)
                  replace hL4 := (hL4.below hb1).mono hb1.size
                  replace hq1 := (hq1.below hb1).mono hb1.size
                  replace HB := Lib.hid (HB.out.trans (hb1.mono hs))
                  replace hs := Nat.le_trans hs hb1.size
                  clear hb1
                  go_wp2_with fail
                  refine (WT w13 w13.heap.size A1 A3 c1 c3 hq1 ht1 (Nat.le_refl _)).mono ?_
                  rintro e w14 ⟨rfl, hb1⟩
                  replace a0 := kept hb1 a0
                  replace a1 := kept hb1 a1
                  replace q0 := kept hb1 q0
                  replace q1 := kept hb1 q1
                  replace b0 := kept hb1 b0
                  replace b1 := kept hb1 b1
                  replace hr := hr.below (hb1.mono hs)
                  replace hd := hd.below (hb1.mono hs)
                  replace hL4 := (hL4.below hb1).mono hb1.size
                  replace hq1 := (hq1.below hb1).mono hb1.size
                  replace ht1 := (ht1.below hb1).mono hb1.size
                  replace HB := Lib.hid (HB.out.trans (hb1.mono hs))
                  replace hs := Nat.le_trans hs hb1.size
                  clear hb1
                  clear hq1 ht1 hL4 WT
                  obtain ⟨d0, d1, hb1⟩ := box2 w14 v1 v2
                  go_upto_region 16 with fail
                  generalize w14.alloc (.cells #[.int .i64 v1, .int .i64 v2] 108) = wG at *
                  replace a0 := kept hb1 a0
                  replace a1 := kept hb1 a1
                  replace q0 := kept hb1 q0
                  replace q1 := kept hb1 q1
                  replace b0 := kept hb1 b0
                  replace b1 := kept hb1 b1
                  replace hr := hr.below (hb1.mono hs)
                  replace hd := hd.below (hb1.mono hs)
                  replace HB := Lib.hid (HB.out.trans (hb1.mono hs))
                  replace hs := Nat.le_trans hs hb1.size
                  clear hb1
                  go_wp2
                  go_ret
                  exact ⟨rfl, HB.out⟩
                · have DTD := DT w10 w10.heap.size A (some ⟨g4, 0, none⟩) c k4 hL4 (Nat.le_refl _)
                  go_upto_region 15 with (go_at_call 72; refine DTD.mono ?_; rintro e w11 ⟨rfl, hb1⟩; have b1' := kept hb1 b1; have q0' := kept hb1 q0)
                  clear b1' q0'
                  replace a0 := kept hb1 a0
                  replace a1 := kept hb1 a1
                  replace q0 := kept hb1 q0
                  replace q1 := kept hb1 q1
                  replace b0 := kept hb1 b0
                  replace b1 := kept hb1 b1
                  replace hr := hr.below (hb1.mono hs)
                  replace hd := hd.below (hb1.mono hs)
                  replace hL4 := (hL4.below hb1).mono hb1.size
                  replace HB := Lib.hid (HB.out.trans (hb1.mono hs))
                  replace hs := Nat.le_trans hs hb1.size
                  clear hb1
                  clear DTD DT
                  go_wp2_with fail
                  refine (CopyRescue_any w11 w.heap.size L A n c l HL.out (by omega) hr hs).mono ?_
                  rintro e w12 ⟨A1, c1, rfl, hq1, hb1⟩
                  replace a0 := kept hb1 a0
                  replace a1 := kept hb1 a1
                  replace q0 := kept hb1 q0
                  replace q1 := kept hb1 q1
                  replace b0 := kept hb1 b0
                  replace b1 := kept hb1 b1
                  replace hr := hr.below (hb1.mono hs)
                  replace hd := hd.below (hb1.mono hs)
                  replace hL4 := (hL4.below hb1).mono hb1.size
                  replace HB := Lib.hid (HB.out.trans (hb1.mono hs))
                  replace hs := Nat.le_trans hs hb1.size
                  clear hb1
                  go_wp2_with fail
                  refine (CopyInts_any w12 w12.heap.size (some ⟨g4, 0, none⟩) T.length k4 (T.map fun (i : Nat) => (i : Int)) (List.length_map ..) (by omega) hL4 (Nat.le_refl _)).mono ?_
                  rintro e w13 ⟨A3, c3, rfl, ht1, hb1⟩
                  replace a0 := kept hb1 a0
                  replace a1 := kept hb1 a1
                  replace q0 := kept hb1 q0
                  replace q1 := kept hb1 q1
                  replace b0 := kept hb1 b0
                  replace b1 := kept hb1 b1
                  replace hr := hr.below (hb1.mono hs)
                  replace hd := hd.below (hb1.mono hs)
                  replace hL4 := (hL4.below hb1).mono hb1.size
                  replace hq1 := (hq1.below hb1).mono hb1.size
                  replace HB := Lib.hid (HB.out.trans (hb1.mono hs))
                  replace hs := Nat.le_trans hs hb1.size
                  clear hb1
                  go_wp2_with fail
                  refine (WT w13 w13.heap.size A1 A3 c1 c3 hq1 ht1 (Nat.le_refl _)).mono ?_
                  rintro e w14 ⟨rfl, hb1⟩
                  replace a0 := kept hb1 a0
                  replace a1 := kept hb1 a1
                  replace q0 := kept hb1 q0
                  replace q1 := kept hb1 q1
                  replace b0 := kept hb1 b0
                  replace b1 := kept hb1 b1
                  replace hr := hr.below (hb1.mono hs)
                  replace hd := hd.below (hb1.mono hs)
                  replace hL4 := (hL4.below hb1).mono hb1.size
                  replace hq1 := (hq1.below hb1).mono hb1.size
                  replace ht1 := (ht1.below hb1).mono hb1.size
                  replace HB := Lib.hid (HB.out.trans (hb1.mono hs))
                  replace hs := Nat.le_trans hs hb1.size
                  clear hb1
                  clear hq1 ht1 hL4 WT
                  obtain ⟨d0, d1, hb1⟩ := box2 w14 v1 v2
                  go_upto_region 16 with fail
                  generalize w14.alloc (.cells #[.int .i64 v1, .int .i64 v2] 108) = wG at *
                  replace a0 := kept hb1 a0
                  replace a1 := kept hb1 a1
                  replace q0 := kept hb1 q0
                  replace q1 := kept hb1 q1
                  replace b0 := kept hb1 b0
                  replace b1 := kept hb1 b1
                  replace hr := hr.below (hb1.mono hs)
                  replace hd := hd.below (hb1.mono hs)
                  replace HB := Lib.hid (HB.out.trans (hb1.mono hs))
                  replace hs := Nat.le_trans hs hb1.size
                  clear hb1
                  go_wp2
                  go_ret
                  exact ⟨rfl, HB.out⟩
            | false =>
              have WV := fun W => Within_val n1 0 (2 * L) false hin W
              clear hin
              have x0 := fun y : Xt w7 => y.cell a0
              have x1 := fun y : Xt w7 => y.cell a1
              have x2 := fun y : Xt w7 => y.cell q0
              have x3 := fun y : Xt w7 => y.cell q1
              have x4 := fun y : Xt w7 => y.cell b0
              have x5 := fun y : Xt w7 => y.cell b1
              have hbd : Below w7.heap.size w7 w7.drew := (Below.refl _ _).drew
              refine wp_region_eager [14, 15] (fun w' => ∃ x : Xt w7, w' = x.1) (by kernel_rfl) ⟨⟨w7.drew, (Below.refl _ _).drew⟩, rfl⟩ ?_
              refine wpE_reads2 [0, 1, 2, 3, 4] 11 rfl (by kernel_rfl) ?_
              simp only [opsAt_nil, opsAt_cons, consOpt_some, List.getElem?_toArray, List.getElem?_cons_zero, List.getElem?_cons_succ]
              repeat (go_big_quiet_step (fail))
              refine wpQuiet_nil ?_
              show wpE _ _ _ _ _ _ _ _ _ w7.drew
              refine wpE_one (i := 5) rfl (by kernel_rfl) rfl ?_
              unfold wpMid
              simp only [opsAt_nil, opsAt_cons, consOpt_some, List.getElem?_toArray, List.getElem?_cons_zero, List.getElem?_cons_succ]
              go_wp2_with (go_at_call 49; refine (WV _).mono ?_; rintro e w' ⟨rfl, rfl⟩)
              refine onlyNormal_mk ⟨⟨⟨_, hbd⟩, rfl⟩, ?_⟩
              refine wpE_reads2 [6, 7, 8, 9, 10, 12, 13] 3 rfl (by kernel_rfl) ?_
              simp only [opsAt_nil, opsAt_cons, consOpt_some, List.getElem?_toArray, List.getElem?_cons_zero, List.getElem?_cons_succ]
              repeat (go_big_quiet_step (fail))
              refine wpQuiet_nil ?_
              show wpE _ _ _ _ _ _ _ _ _ w7.drew
              clear x0 x1 x2 x3 x4 x5
              refine wpE_one (i := 11) rfl (by kernel_rfl) rfl ?_
              unfold wpMid
              simp only [opsAt_nil, opsAt_cons, consOpt_some, List.getElem?_toArray, List.getElem?_cons_zero, List.getElem?_cons_succ]
              go_wp2
              have hb1 := hbd
              clear BH hbd WV
              generalize w7.drew = w8 at *
              refine onlyNormal_mk ⟨⟨⟨_, hb1⟩, rfl⟩, ?_⟩
              refine wpE_tail rfl (by kernel_rfl) ?_
              simp only [opsAt_nil, opsAt_cons, consOpt_some, List.getElem?_toArray, List.getElem?_cons_zero, List.getElem?_cons_succ]
              go_wp2
              refine onlyNormal_mk ?_
              replace a0 := kept hb1 a0
              replace a1 := kept hb1 a1
              replace q0 := kept hb1 q0
              replace q1 := kept hb1 q1
              replace b0 := kept hb1 b0
              replace b1 := kept hb1 b1
              replace hr := hr.below (hb1.mono hs)
              replace hd := hd.below (hb1.mono hs)
              replace HB := Lib.hid (HB.out.trans (hb1.mono hs))
              replace hs := Nat.le_trans hs hb1.size
              clear hb1
              clear hw3
              go_upto_region 10 with fail
              have x0 := fun y : Xt w8 => y.cell a0
              have x1 := fun y : Xt w8 => y.cell a1
              have x2 := fun y : Xt w8 => y.cell q0
              have x3 := fun y : Xt w8 => y.cell q1
              have hbd : Below w8.heap.size w8 w8.drew := (Below.refl _ _).drew
              have CR := CopyRescue_any w8.drew w.heap.size L A n c l HL.out (by omega) (hr.below (hbd.mono hs)) (Nat.le_trans hs hbd.size)
              refine wp_region_eager [9] (fun w' => ∃ x : Xt w8, w' = x.1) (by kernel_rfl) ⟨⟨w8.drew, (Below.refl _ _).drew⟩, rfl⟩ ?_
              refine wpE_reads2 [0, 2, 3] 7 rfl (by kernel_rfl) ?_
              simp only [opsAt_nil, opsAt_cons, consOpt_some, List.getElem?_toArray, List.getElem?_cons_zero, List.getElem?_cons_succ]
              repeat (go_big_quiet_step (fail))
              refine wpQuiet_nil ?_
              show wpE _ _ _ _ _ _ _ _ _ w8.drew
              clear x0 x1 x2 x3
              refine wpE_one (i := 1) rfl (by kernel_rfl) rfl ?_
              unfold wpMid
              simp only [opsAt_nil, opsAt_cons, consOpt_some, List.getElem?_toArray, List.getElem?_cons_zero, List.getElem?_cons_succ]
              go_wp2_with (go_at_call 69; refine CR.mono ?_; rintro e w9 ⟨A1, c1, rfl, hq1, hb5⟩)
              have hb6 := hbd.trans (hb5.mono hbd.size)
              refine onlyNormal_mk ⟨⟨⟨_, hb6⟩, rfl⟩, ?_⟩
              have FDD := FD w9 w9.heap.size A1 c1 hq1 (Nat.le_refl _)
              clear CR FD hb5 hbd hq1
              refine wpE_one (i := 4) rfl (by kernel_rfl) rfl ?_
              unfold wpMid
              simp only [opsAt_nil, opsAt_cons, consOpt_some, List.getElem?_toArray, List.getElem?_cons_zero, List.getElem?_cons_succ]
              cases R with
              | none =>
                go_wp2_with (go_at_call 70; refine FDD.mono ?_; rintro e w10 ⟨v4, rfl, hbest, hb7⟩; have hv4 : v4 = .slice none 0 0 := hbest; subst hv4)
                have hb1 := hb6.trans (hb7.mono hb6.size)
                clear hb6 hb7 hbest FDD
                refine onlyNormal_mk ⟨⟨⟨_, hb1⟩, rfl⟩, ?_⟩
                refine wpE_reads2 [5, 6, 7, 8] 1 rfl (by kernel_rfl) ?_
                simp only [opsAt_nil, opsAt_cons, consOpt_some, List.getElem?_toArray, List.getElem?_cons_zero, List.getElem?_cons_succ]
                repeat (go_big_quiet_step (fail))
                refine wpQuiet_nil ?_
                refine wpE_tail rfl (by kernel_rfl) ?_
                simp only [opsAt_nil, opsAt_cons, consOpt_some, List.getElem?_toArray, List.getElem?_cons_zero, List.getElem?_cons_succ]
                go_wp2
                refine onlyNormal_mk ?_
                replace a0 := kept hb1 a0
                replace a1 := kept hb1 a1
                replace q0 := kept hb1 q0
                replace q1 := kept hb1 q1
                replace b0 := kept hb1 b0
                replace b1 := kept hb1 b1
                replace hr := hr.below (hb1.mono hs)
                replace hd := hd.below (hb1.mono hs)
                replace HB := Lib.hid (HB.out.trans (hb1.mono hs))
                replace hs := Nat.le_trans hs hb1.size
                clear hb1
                have hnone := fewestM_none (by omega) HRR.out _ HSET.out
                rw [HOM.out] at hnone
                simp only at hnone
                go_wp2
                go_ret
                exact ⟨rfl, HB.out⟩
              | some T =>
                go_wp2_with (go_at_call 70; refine FDD.mono ?_; rintro e w10 ⟨v4, rfl, ⟨g4, k4, rfl, hL4⟩, hb7⟩)
                have hb1 := hb6.trans (hb7.mono hb6.size)
                clear hb6 hb7 FDD
                refine onlyNormal_mk ⟨⟨⟨_, hb1⟩, rfl⟩, ?_⟩
                refine wpE_reads2 [5, 6, 7, 8] 1 rfl (by kernel_rfl) ?_
                simp only [opsAt_nil, opsAt_cons, consOpt_some, List.getElem?_toArray, List.getElem?_cons_zero, List.getElem?_cons_succ]
                repeat (go_big_quiet_step (fail))
                refine wpQuiet_nil ?_
                refine wpE_tail rfl (by kernel_rfl) ?_
                simp only [opsAt_nil, opsAt_cons, consOpt_some, List.getElem?_toArray, List.getElem?_cons_zero, List.getElem?_cons_succ]
                go_wp2
                refine onlyNormal_mk ?_
                replace a0 := kept hb1 a0
                replace a1 := kept hb1 a1
                replace q0 := kept hb1 q0
                replace q1 := kept hb1 q1
                replace b0 := kept hb1 b0
                replace b1 := kept hb1 b1
                replace hr := hr.below (hb1.mono hs)
                replace hd := hd.below (hb1.mono hs)
                replace HB := Lib.hid (HB.out.trans (hb1.mono hs))
                replace hs := Nat.le_trans hs hb1.size
                clear hb1
                obtain ⟨f1, f2, f3⟩ := fewestM_some (by omega) HRR.out
                obtain ⟨t0, t1, t2, t3⟩ := set_deps f1
                have f4 := f3 _ HSET.out
                rw [HLEN.out, HOM.out] at f4
                simp only at f4
                have hTl : T.length ≤ 1000 := by omega
                have hTp : 0 < T.length := List.length_pos_iff.2 t0
                rw [← nat_cast_cells] at hL4
                have DT := fun W B A1 A3 c1 c3 (h1 : Rd W B A3 (intCells (T.map fun (i : Nat) => (i : Int)))) (h3 : B ≤ W.heap.size) => DepotsErr_any W B L A1 A3 n c1 T.length c3 (T.map fun (i : Nat) => (i : Int)) (List.length_map ..) h1 h3 (by omega) (by omega)
                have hdT : depsE n (T.map fun (i : Nat) => (i : Int)) = 0 := by
                  rw [depsE, if_neg (by rw [List.length_map]; omega)]
                  exact t1
                unfold ErrVal at DT
                rw [hdT] at DT
                have WT := fun W B A1 A3 c1 c3 (h1 : Rd W B A1 (depCells l)) (h2 : Rd W B A3 (intCells (T.map fun (i : Nat) => (i : Int)))) (h3 : B ≤ W.heap.size) => WorstPlace_yes W B L A1 A3 n c1 T.length c3 l (T.map fun (i : Nat) => (i : Int)) HL.out (List.length_map ..) h1 h2 h3 HZ.out hTp t1
                rw [cast_toNat] at WT
                obtain ⟨⟨v1, v2⟩, hvm⟩ : ∃ om, worstM l L T = om := ⟨_, rfl⟩
                rw [hvm] at WT f2
                unfold WPPost at WT
                simp only at WT f2
                clear hvm hdT t0 t1 t2 t3 f1 f3
                go_upto_region 13 with fail
                by_cases hlt : md < T.length
                · have DTD := DT w10 w10.heap.size A (some ⟨g4, 0, none⟩) c k4 hL4 (Nat.le_refl _)
                  have hgt : 2 * n0 < o2 := by
                    rcases Int.lt_or_le (2 * n0) o2 with h | h
                    · exact h
                    · have := f4 h
                      omega
                  go_upto_region 15 with (go_at_call 72; refine DTD.mono ?_; rintro e w11 ⟨rfl, hb1⟩; have b1' := kept hb1 b1; have q0' := kept hb1 q0)
                  clear b1' q0'
                  replace a0 := kept hb1 a0
                  replace a1 := kept hb1 a1
                  replace q0 := kept hb1 q0
                  replace q1 := kept hb1 q1
                  replace b0 := kept hb1 b0
                  replace b1 := kept hb1 b1
                  replace hr := hr.below (hb1.mono hs)
                  replace hd := hd.below (hb1.mono hs)
                  replace hL4 := (hL4.below hb1).mono hb1.size
                  replace HB := Lib.hid (HB.out.trans (hb1.mono hs))
                  replace hs := Nat.le_trans hs hb1.size
                  clear hb1
                  clear DTD DT
                  go_wp2_with fail
                  refine (CopyRescue_any w11 w.heap.size L A n c l HL.out (by omega) hr hs).mono ?_
                  rintro e w12 ⟨A1, c1, rfl, hq1, hb1⟩
                  replace a0 := kept hb1 a0
                  replace a1 := kept hb1 a1
                  replace q0 := kept hb1 q0
                  replace q1 := kept hb1 q1
                  replace b0 := kept hb1 b0
                  replace b1 := kept hb1 b1
                  replace hr := hr.below (hb1.mono hs)
                  replace hd := hd.below (hb1.mono hs)
                  replace hL4 := (hL4.below hb1).mono hb1.size
                  replace HB := Lib.hid (HB.out.trans (hb1.mono hs))
                  replace hs := Nat.le_trans hs hb1.size
                  clear hb1
                  go_wp2_with fail
                  refine (CopyInts_any w12 w12.heap.size (some ⟨g4, 0, none⟩) T.length k4 (T.map fun (i : Nat) => (i : Int)) (List.length_map ..) (by omega) hL4 (Nat.le_refl _)).mono ?_
                  rintro e w13 ⟨A3, c3, rfl, ht1, hb1⟩
                  replace a0 := kept hb1 a0
                  replace a1 := kept hb1 a1
                  replace q0 := kept hb1 q0
                  replace q1 := kept hb1 q1
                  replace b0 := kept hb1 b0
                  replace b1 := kept hb1 b1
                  replace hr := hr.below (hb1.mono hs)
                  replace hd := hd.below (hb1.mono hs)
                  replace hL4 := (hL4.below hb1).mono hb1.size
                  replace hq1 := (hq1.below hb1).mono hb1.size
                  replace HB := Lib.hid (HB.out.trans (hb1.mono hs))
                  replace hs := Nat.le_trans hs hb1.size
                  clear hb1
                  go_wp2_with fail
                  refine (WT w13 w13.heap.size A1 A3 c1 c3 hq1 ht1 (Nat.le_refl _)).mono ?_
                  rintro e w14 ⟨rfl, hb1⟩
                  replace a0 := kept hb1 a0
                  replace a1 := kept hb1 a1
                  replace q0 := kept hb1 q0
                  replace q1 := kept hb1 q1
                  replace b0 := kept hb1 b0
                  replace b1 := kept hb1 b1
                  replace hr := hr.below (hb1.mono hs)
                  replace hd := hd.below (hb1.mono hs)
                  replace hL4 := (hL4.below hb1).mono hb1.size
                  replace hq1 := (hq1.below hb1).mono hb1.size
                  replace ht1 := (ht1.below hb1).mono hb1.size
                  replace HB := Lib.hid (HB.out.trans (hb1.mono hs))
                  replace hs := Nat.le_trans hs hb1.size
                  clear hb1
                  clear hq1 ht1 hL4 WT
                  obtain ⟨d0, d1, hb1⟩ := box2 w14 v1 v2
                  go_upto_region 16 with fail
                  generalize w14.alloc (.cells #[.int .i64 v1, .int .i64 v2] 108) = wG at *
                  replace a0 := kept hb1 a0
                  replace a1 := kept hb1 a1
                  replace q0 := kept hb1 q0
                  replace q1 := kept hb1 q1
                  replace b0 := kept hb1 b0
                  replace b1 := kept hb1 b1
                  replace hr := hr.below (hb1.mono hs)
                  replace hd := hd.below (hb1.mono hs)
                  replace HB := Lib.hid (HB.out.trans (hb1.mono hs))
                  replace hs := Nat.le_trans hs hb1.size
                  clear hb1
                  go_wp2
                  go_ret
                  exact ⟨rfl, HB.out⟩
                · have DTD := DT w10 w10.heap.size A (some ⟨g4, 0, none⟩) c k4 hL4 (Nat.le_refl _)
                  go_upto_region 15 with (go_at_call 72; refine DTD.mono ?_; rintro e w11 ⟨rfl, hb1⟩; have b1' := kept hb1 b1; have q0' := kept hb1 q0)
                  clear b1' q0'
                  replace a0 := kept hb1 a0
                  replace a1 := kept hb1 a1
                  replace q0 := kept hb1 q0
                  replace q1 := kept hb1 q1
                  replace b0 := kept hb1 b0
                  replace b1 := kept hb1 b1
                  replace hr := hr.below (hb1.mono hs)
                  replace hd := hd.below (hb1.mono hs)
                  replace hL4 := (hL4.below hb1).mono hb1.size
                  replace HB := Lib.hid (HB.out.trans (hb1.mono hs))
                  replace hs := Nat.le_trans hs hb1.size
                  clear hb1
                  clear DTD DT
                  go_wp2_with fail
                  refine (CopyRescue_any w11 w.heap.size L A n c l HL.out (by omega) hr hs).mono ?_
                  rintro e w12 ⟨A1, c1, rfl, hq1, hb1⟩
                  replace a0 := kept hb1 a0
                  replace a1 := kept hb1 a1
                  replace q0 := kept hb1 q0
                  replace q1 := kept hb1 q1
                  replace b0 := kept hb1 b0
                  replace b1 := kept hb1 b1
                  replace hr := hr.below (hb1.mono hs)
                  replace hd := hd.below (hb1.mono hs)
                  replace hL4 := (hL4.below hb1).mono hb1.size
                  replace HB := Lib.hid (HB.out.trans (hb1.mono hs))
                  replace hs := Nat.le_trans hs hb1.size
                  clear hb1
                  go_wp2_with fail
                  refine (CopyInts_any w12 w12.heap.size (some ⟨g4, 0, none⟩) T.length k4 (T.map fun (i : Nat) => (i : Int)) (List.length_map ..) (by omega) hL4 (Nat.le_refl _)).mono ?_
                  rintro e w13 ⟨A3, c3, rfl, ht1, hb1⟩
                  replace a0 := kept hb1 a0
                  replace a1 := kept hb1 a1
                  replace q0 := kept hb1 q0
                  replace q1 := kept hb1 q1
                  replace b0 := kept hb1 b0
                  replace b1 := kept hb1 b1
                  replace hr := hr.below (hb1.mono hs)
                  replace hd := hd.below (hb1.mono hs)
                  replace hL4 := (hL4.below hb1).mono hb1.size
                  replace hq1 := (hq1.below hb1).mono hb1.size
                  replace HB := Lib.hid (HB.out.trans (hb1.mono hs))
                  replace hs := Nat.le_trans hs hb1.size
                  clear hb1
                  go_wp2_with fail
                  refine (WT w13 w13.heap.size A1 A3 c1 c3 hq1 ht1 (Nat.le_refl _)).mono ?_
                  rintro e w14 ⟨rfl, hb1⟩
                  replace a0 := kept hb1 a0
                  replace a1 := kept hb1 a1
                  replace q0 := kept hb1 q0
                  replace q1 := kept hb1 q1
                  replace b0 := kept hb1 b0
                  replace b1 := kept hb1 b1
                  replace hr := hr.below (hb1.mono hs)
                  replace hd := hd.below (hb1.mono hs)
                  replace hL4 := (hL4.below hb1).mono hb1.size
                  replace hq1 := (hq1.below hb1).mono hb1.size
                  replace ht1 := (ht1.below hb1).mono hb1.size
                  replace HB := Lib.hid (HB.out.trans (hb1.mono hs))
                  replace hs := Nat.le_trans hs hb1.size
                  clear hb1
                  clear hq1 ht1 hL4 WT
                  obtain ⟨d0, d1, hb1⟩ := box2 w14 v1 v2
                  go_upto_region 16 with fail
                  generalize w14.alloc (.cells #[.int .i64 v1, .int .i64 v2] 108) = wG at *
                  replace a0 := kept hb1 a0
                  replace a1 := kept hb1 a1
                  replace q0 := kept hb1 q0
                  replace q1 := kept hb1 q1
                  replace b0 := kept hb1 b0
                  replace b1 := kept hb1 b1
                  replace hr := hr.below (hb1.mono hs)
                  replace hd := hd.below (hb1.mono hs)
                  replace HB := Lib.hid (HB.out.trans (hb1.mono hs))
                  replace hs := Nat.le_trans hs hb1.size
                  clear hb1
                  go_wp2
                  go_ret
                  exact ⟨rfl, HB.out⟩
          · obtain ⟨ep, hep⟩ : ∃ ep, placeE n0 = ep := ⟨_, rfl⟩
            rw [hep] at PE hpz
            have e1 : (ep != 0) = true := bne_iff_ne.2 hpz
            clear hpz hep hz hdz
            go_wp2_with (first | (go_at_call 71; refine (RE w1 w.heap.size A c hr hs).mono ?_; rintro e w2 ⟨rfl, hb1⟩; have hd2 := hd.below (hb1.mono hs); have hs2 := Nat.le_trans hs hb1.size; have a02 := kept hb1 a0; have a12 := kept hb1 a1; have q02 := kept hb1 q0) | (go_at_call 72; refine (DE w2 w.heap.size A D c e hd2 hs2).mono ?_; rintro e w3 ⟨rfl, hb2⟩; have q03 := kept hb2 q02) | (go_at_call 23; refine (PE _).mono ?_; rintro e w' ⟨rfl, rfl⟩))
            go_ret
            exact ⟨rfl, HB.out.trans ((hb1.trans (hb2.mono hb1.size)).mono hs)⟩
        · obtain ⟨ed, hed⟩ : ∃ ed, depsE n ds = ed := ⟨_, rfl⟩
          rw [hed] at DE hdz
          have e1 : (ed != 0) = true := bne_iff_ne.2 hdz
          clear hdz hed hz
          go_wp2_with (first | (go_at_call 71; refine (RE w1 w.heap.size A c hr hs).mono ?_; rintro e w2 ⟨rfl, hb1⟩; have hd2 := hd.below (hb1.mono hs); have hs2 := Nat.le_trans hs hb1.size; have a02 := kept hb1 a0; have a12 := kept hb1 a1; have q02 := kept hb1 q0) | (go_at_call 72; refine (DE w2 w.heap.size A D c e hd2 hs2).mono ?_; rintro e w3 ⟨rfl, hb2⟩; have q03 := kept hb2 q02))
          go_ret
          exact ⟨rfl, HB.out.trans ((hb1.trans (hb2.mono hb1.size)).mono hs)⟩
      · obtain ⟨er, her⟩ : ∃ er, rescueM L l = er := ⟨_, rfl⟩
        rw [her] at RE hz
        have e1 : (er != 0) = true := bne_iff_ne.2 hz
        clear hz her
        go_wp2_with (go_at_call 71; refine (RE w1 w.heap.size A c hr hs).mono ?_; rintro e w2 ⟨rfl, hb1⟩; have hd2 := hd.below (hb1.mono hs); have hs2 := Nat.le_trans hs hb1.size; have a02 := kept hb1 a0; have a12 := kept hb1 a1; have q02 := kept hb1 q0)
        go_ret
        exact ⟨rfl, HB.out.trans (hb1.mono hs)⟩
end Go.Proofs.YtmcjnfghlpnghaaDoor
