/- CareBegins: the walk. -/
import Derived.Test.YtmcjnfghlpnghaaDoorF1
namespace Go.Proofs.YtmcjnfghlpnghaaDoor
open Go.RowKit

def zeroTr : Tr := ⟨false, false, 0, [], []⟩
theorem zeroAt (w : World) (B : Nat) : StAt w B none none 0 0 zeroTr := ⟨rfl, rfl, fun k u h => by simp [zeroTr] at h, fun k u h => by simp [zeroTr] at h, by omega, by omega⟩
theorem sameB_self (s : Tr) : sameB s s = true := by simp [sameB, (eqGo_iff s.gates s.gates).2 rfl, (eqGo_iff s.doors s.doors).2 rfl]

theorem SameZero (W : World) : Calls Tryd.prog 25 #[.agg #[.bool false, .bool false, .int .i64 0, .slice none 0 0, .slice none 0 0], .agg #[.bool false, .bool false, .int .i64 0, .slice none 0 0, .slice none 0 0]] W fun e w' => e = .returned (.bool true) ∧ Below W.heap.size W w' := by
  have S := Same_any W W.heap.size none none none none 0 0 0 0 0 0 0 0 zeroTr zeroTr (zeroAt _ _) (zeroAt _ _) (Nat.le_refl _)
  rw [sameB_self] at S
  exact S

set_option maxRecDepth 100000 in
set_option maxHeartbeats 4000000 in
theorem CareBegins_any (w : World) (D T S place : Int) (hk : KindsAt w) :
    Calls Tryd.prog 5 #[.agg #[.int .i64 D, .int .i64 T, .int .i64 S], .int .i64 place] w (AwakePost w) := by
  have hb0 : Below w.heap.size w (w.alloc (.cells #[.int .i64 D, .int .i64 T, .int .i64 S] 23)) := (Below.refl _ _).alloc (Nat.le_refl _) _
  have hk0 := hk.below hb0
  have k0 : (w.alloc (.cells #[.int .i64 D, .int .i64 T, .int .i64 S] 23)).heap[w.heap.size]? = some (.cells #[.int .i64 D, .int .i64 T, .int .i64 S] 23 (0, 0)) := by rw [heapq_alloc, if_pos rfl]
  have A := awake_any _ hk0
  have HB0 := Lib.hid hb0
  clear hk hk0 hb0
  go_enter Tryd.func5, Tryd.ntmps5
  go_wp2_with fail
  generalize w.alloc (.cells #[.int .i64 D, .int .i64 T, .int .i64 S] 23) = w0 at *
  refine A.mono ?_
  rintro e w1 ⟨rfl, hb1⟩
  have k1 := (hb1.block w.heap.size (lt_of_block k0)).trans k0
  have c0 := cell_of_row _ _ 0 _ _ _ k1
  have c1 := cell_of_row _ _ 1 _ _ _ k1
  have c2 := cell_of_row _ _ 2 _ _ _ k1
  simp at c0 c1 c2
  have HBW := Lib.hid (HB0.out.trans (hb1.mono HB0.out.size))
  clear hb1 k0 k1 A
  go_upto_region 3 with (fail)
  by_cases hE : doorsE D T S = 0
  · by_cases hP : placeE place = 0
    · have hF : firstE [doorsE D T S, placeE place] = 0 := by
        simp only [firstE, hE, hP]
        simp
      obtain ⟨⟨hD1, hD2⟩, _, _⟩ := doorsE_zero hE
      obtain ⟨D, rfl⟩ := Int.eq_ofNat_of_zero_le (show 0 ≤ D by omega)
      have Bn := fun W => Begin_yes D T S place W (by omega) hF
      have Rn := fun W => refBegin_any D T S place W (by omega)
      have Dn := fun W => DoorsErr_any (D : Int) T S W
      have Cn := CheckDoors_any (D : Int) T S w1
      have Pn := fun W => PlaceErr_any place W
      simp only [hE] at Dn Cn
      simp only [hP] at Pn
      clear hF hE hP hD1
      have C1 := Cn
      go_wp2_with fail
      refine C1.mono ?_
      rintro e w2 ⟨rfl, hb2⟩
      have c0' := kept hb2 c0
      have c1' := kept hb2 c1
      have c2' := kept hb2 c2
      have HB2 := Lib.hid (HBW.out.trans (hb2.mono HBW.out.size))
      clear hb2 c0 c1 c2 C1
      go_wp2_with fail
      refine (Bn w2).mono ?_
      rintro e w3 ⟨Ag, Ad, cg, cd, rfl, hst, hb3⟩
      simp only [stV, begin0]
      have d0 := cell_alloc_old (.cells #[.bool false, .bool false, .int .i64 place, .slice Ag D cg, .slice Ad D cd] 28) (kept hb3 c0')
      have d1 := cell_alloc_old (.cells #[.bool false, .bool false, .int .i64 place, .slice Ag D cg, .slice Ad D cd] 28) (kept hb3 c1')
      have d2 := cell_alloc_old (.cells #[.bool false, .bool false, .int .i64 place, .slice Ag D cg, .slice Ad D cd] 28) (kept hb3 c2')
      have ky : (w3.alloc (.cells #[.bool false, .bool false, .int .i64 place, .slice Ag D cg, .slice Ad D cd] 28)).heap[w3.heap.size]? = some (.cells #[.bool false, .bool false, .int .i64 place, .slice Ag D cg, .slice Ad D cd] 28 (0, 0)) := by rw [heapq_alloc, if_pos rfl]
      have HB3 := Lib.hid ((HB2.out.trans (hb3.mono HB2.out.size)).alloc (by have h1 := HB2.out.size; have h2 := hb3.size; omega) (.cells #[.bool false, .bool false, .int .i64 place, .slice Ag D cg, .slice Ad D cd] 28))
      have HST := Lib.hid (hst.below ((Below.refl _ _).alloc (Nat.le_refl _) (.cells #[.bool false, .bool false, .int .i64 place, .slice Ag D cg, .slice Ad D cd] 28)))
      have hyl : w3.heap.size < (w3.alloc (.cells #[.bool false, .bool false, .int .i64 place, .slice Ag D cg, .slice Ad D cd] 28)).heap.size := by simp
      clear hb3 c0' c1' c2' hst
      go_upto_region 5 with (fail)
      generalize (w3.alloc (.cells #[.bool false, .bool false, .int .i64 place, .slice Ag D cg, .slice Ad D cd] 28)) = w4 at *
      generalize w3.heap.size = y at *
      go_wp2_with fail
      refine (Dn _).mono ?_
      rintro e w5 ⟨rfl, hb5⟩
      have ky5 := (hb5.block y (lt_of_block ky)).trans ky
      obtain ⟨e0, e1, e2, e3, e4⟩ := cells5 ky5
      have d05 := kept hb5 d0
      have d15 := kept hb5 d1
      have d25 := kept hb5 d2
      have HB5 := Lib.hid (HB3.out.trans (hb5.mono HB3.out.size))
      have HST5 := Lib.hid (HST.out.below (hb5.mono (by omega)))
      have hyl5 : y < w5.heap.size := by have := hb5.size; omega
      clear ky ky5 hb5 d0 d1 d2
      go_upto_region 12 with (go_at_call 23; refine (Pn _).mono ?_; rintro e w' ⟨rfl, rfl⟩)
      have x0 := fun x : Xt w5 => x.cell e0
      have x1 := fun x : Xt w5 => x.cell e1
      have x2 := fun x : Xt w5 => x.cell e2
      have x3 := fun x : Xt w5 => x.cell e3
      have x4 := fun x : Xt w5 => x.cell e4
      have x5 := fun x : Xt w5 => x.cell d05
      have x6 := fun x : Xt w5 => x.cell d15
      have x7 := fun x : Xt w5 => x.cell d25
      refine wp_region_mid [0, 1, 2] [3, 4, 5] 1 [7, 8, 9] (fun w' => ∃ x : Xt w5, w' = x.1) (by kernel_rfl) (by kernel_rfl) ⟨⟨w5.drew, (Below.refl _ _).drew⟩, rfl⟩ ?_
      simp only [opsAt_nil, opsAt_cons, consOpt_some, List.getElem?_toArray, List.getElem?_cons_zero, List.getElem?_cons_succ]
      repeat (go_big_quiet_step (fail))
      refine wpQuiet_nil ?_
      show wpQuiet _ _ _ _ _ _
      repeat (go_big_quiet_step (fail))
      refine wpQuiet_nil ?_
      show wpOrders _ _ _ _ _ _ _ _ w5.drew
      refine wpOrders_one (i := 6) (by kernel_rfl) ?_
      unfold wpMid
      simp only [opsAt_nil, opsAt_cons, consOpt_some, List.getElem?_toArray, List.getElem?_cons_zero, List.getElem?_cons_succ]
      go_wp2_with fail
      refine (Rn _).mono ?_
      rintro e w6 ⟨Ag', Ad', cg', cd', rfl, hst6, hb6⟩
      have hb6' : Below w5.heap.size w5 w6 := ((Below.refl _ _).drew).trans hb6
      have hst56 := (HST5.out.below (hb6'.mono (by omega))).mono (show y ≤ w6.heap.size by have := hb6'.size; omega)
      have Sm := Same_any w6 w6.heap.size Ag Ad Ag' Ad' D D cg cd D D cg' cd' (begin0 D place) (begin0 D place) hst56 hst6 (Nat.le_refl _)
      rw [sameB_self] at Sm
      have HB6 := Lib.hid (HB5.out.trans (hb6'.mono HB5.out.size))
      have HX6 := Lib.hid hb6'
      clear hb6 hb6' hst6 hst56 x0 x1 x2 x3 x4 x5 x6 x7 e0 e1 e2 e3 e4 d05 d15 d25
      simp only [stV, begin0]
      simp only [stV, begin0] at Sm
      go_wp2
      refine onlyNormal_mk ⟨⟨⟨_, HX6.out⟩, rfl⟩, ?_⟩
      refine wpOrders_zero ?_
      go_wp2_with (go_at_call 25; refine Sm.mono ?_; rintro e w7 ⟨rfl, hb7⟩)
      refine onlyNormal_mk ?_
      go_wp2
      go_ret
      exact ⟨rfl, HB6.out.trans (hb7.mono HB6.out.size)⟩
    · have hF : firstE [doorsE D T S, placeE place] = placeE place := by
        simp only [firstE, hE]
        simp [hP]
      have Bn := fun W => Begin_no D T S place W (by rw [hF]; exact hP)
      rw [hF] at Bn
      have Dn := fun W => DoorsErr_any D T S W
      have Cn := CheckDoors_any D T S w1
      simp only [hE] at Dn Cn
      have Pn := fun W => PlaceErr_any place W
      have hP1 : (placeE place == 0) = false := beq_eq_false_iff_ne.2 hP
      have hP2 : (placeE place != 0) = true := bne_iff_ne.2 hP
      clear hE hF
      generalize placeE place = E at *
      clear hP
      have C1 := Cn
      go_wp2_with fail
      refine C1.mono ?_
      rintro e w2 ⟨rfl, hb2⟩
      have c0' := kept hb2 c0
      have c1' := kept hb2 c1
      have c2' := kept hb2 c2
      have HB2 := Lib.hid (HBW.out.trans (hb2.mono HBW.out.size))
      clear hb2 c0 c1 c2 C1
      go_wp2_with fail
      refine (Bn w2).mono ?_
      rintro e w3 ⟨rfl, hb3⟩
      simp only [zeroSt]
      have d0 := cell_alloc_old (.cells #[.bool false, .bool false, .int .i64 0, .slice none 0 0, .slice none 0 0] 28) (kept hb3 c0')
      have d1 := cell_alloc_old (.cells #[.bool false, .bool false, .int .i64 0, .slice none 0 0, .slice none 0 0] 28) (kept hb3 c1')
      have d2 := cell_alloc_old (.cells #[.bool false, .bool false, .int .i64 0, .slice none 0 0, .slice none 0 0] 28) (kept hb3 c2')
      have ky : (w3.alloc (.cells #[.bool false, .bool false, .int .i64 0, .slice none 0 0, .slice none 0 0] 28)).heap[w3.heap.size]? = some (.cells #[.bool false, .bool false, .int .i64 0, .slice none 0 0, .slice none 0 0] 28 (0, 0)) := by rw [heapq_alloc, if_pos rfl]
      have HB3 := Lib.hid ((HB2.out.trans (hb3.mono HB2.out.size)).alloc (by have h1 := HB2.out.size; have h2 := hb3.size; omega) (.cells #[.bool false, .bool false, .int .i64 0, .slice none 0 0, .slice none 0 0] 28))
      clear hb3 c0' c1' c2'
      go_upto_region 5 with (fail)
      generalize (w3.alloc (.cells #[.bool false, .bool false, .int .i64 0, .slice none 0 0, .slice none 0 0] 28)) = w4 at *
      generalize w3.heap.size = y at *
      go_wp2_with fail
      refine (Dn _).mono ?_
      rintro e w5 ⟨rfl, hb5⟩
      have ky5 := (hb5.block y (lt_of_block ky)).trans ky
      obtain ⟨e0, e1, e2, e3, e4⟩ := cells5 ky5
      have HB5 := Lib.hid (HB3.out.trans (hb5.mono HB3.out.size))
      clear ky ky5 hb5
      go_wp2_with (first | (go_at_call 23; refine (Pn _).mono ?_; rintro e w' ⟨rfl, rfl⟩) | (go_at_call 25; refine (SameZero _).mono ?_; rintro e w6 ⟨rfl, hb6⟩))
      go_ret
      exact ⟨rfl, HB5.out.trans (hb6.mono HB5.out.size)⟩
  · have hF : firstE [doorsE D T S, placeE place] = doorsE D T S := by
      simp only [firstE, hE]
      simp
    have Bn := fun W => Begin_no D T S place W (by rw [hF]; exact hE)
    rw [hF] at Bn
    have Dn := fun W => DoorsErr_any D T S W
    have Cn := CheckDoors_any D T S w1
    have hE1 : (doorsE D T S == 0) = false := beq_eq_false_iff_ne.2 hE
    have hE2 : (doorsE D T S != 0) = true := bne_iff_ne.2 hE
    clear hF
    generalize doorsE D T S = E at *
    clear hE
    have C1 := Cn
    go_wp2_with fail
    refine C1.mono ?_
    rintro e w2 ⟨rfl, hb2⟩
    have c0' := kept hb2 c0
    have c1' := kept hb2 c1
    have c2' := kept hb2 c2
    have HB2 := Lib.hid (HBW.out.trans (hb2.mono HBW.out.size))
    clear hb2 c0 c1 c2 C1
    go_wp2_with fail
    refine (Bn w2).mono ?_
    rintro e w3 ⟨rfl, hb3⟩
    simp only [zeroSt]
    have d0 := cell_alloc_old (.cells #[.bool false, .bool false, .int .i64 0, .slice none 0 0, .slice none 0 0] 28) (kept hb3 c0')
    have d1 := cell_alloc_old (.cells #[.bool false, .bool false, .int .i64 0, .slice none 0 0, .slice none 0 0] 28) (kept hb3 c1')
    have d2 := cell_alloc_old (.cells #[.bool false, .bool false, .int .i64 0, .slice none 0 0, .slice none 0 0] 28) (kept hb3 c2')
    have ky : (w3.alloc (.cells #[.bool false, .bool false, .int .i64 0, .slice none 0 0, .slice none 0 0] 28)).heap[w3.heap.size]? = some (.cells #[.bool false, .bool false, .int .i64 0, .slice none 0 0, .slice none 0 0] 28 (0, 0)) := by rw [heapq_alloc, if_pos rfl]
    have HB3 := Lib.hid ((HB2.out.trans (hb3.mono HB2.out.size)).alloc (by have h1 := HB2.out.size; have h2 := hb3.size; omega) (.cells #[.bool false, .bool false, .int .i64 0, .slice none 0 0, .slice none 0 0] 28))
    clear hb3 c0' c1' c2'
    go_upto_region 5 with (fail)
    generalize (w3.alloc (.cells #[.bool false, .bool false, .int .i64 0, .slice none 0 0, .slice none 0 0] 28)) = w4 at *
    generalize w3.heap.size = y at *
    go_wp2_with fail
    refine (Dn _).mono ?_
    rintro e w5 ⟨rfl, hb5⟩
    have ky5 := (hb5.block y (lt_of_block ky)).trans ky
    obtain ⟨e0, e1, e2, e3, e4⟩ := cells5 ky5
    have HB5 := Lib.hid (HB3.out.trans (hb5.mono HB3.out.size))
    clear ky ky5 hb5
    go_wp2_with (go_at_call 25; refine (SameZero _).mono ?_; rintro e w6 ⟨rfl, hb6⟩)
    go_ret
    exact ⟨rfl, HB5.out.trans (hb6.mono HB5.out.size)⟩
end Go.Proofs.YtmcjnfghlpnghaaDoor
