/- The reference: an event applied: X5. The reference: an event applied: X6. -/
import Derived.Test.YtmcjnfghlpnghaaDoorK16
namespace Go.Proofs.YtmcjnfghlpnghaaDoor
open Go.RowKit

set_option maxRecDepth 100000 in
set_option maxHeartbeats 4000000 in
theorem rapply_0 (w : World) (B : Nat) (D : Nat) (T S : Int) (Ag Ad : Option Addr) (cg cd : Nat) (s : Tr) (pl : Int) (dr : Int) (h : StAt w B Ag Ad D D s) (hB : B ≤ w.heap.size) (hD : D ≤ 1000000) :
    Calls Tryd.prog 45 #[.agg #[.int .i64 D, .int .i64 T, .int .i64 S], stV s Ag Ad D D cg cd, .agg #[.int .i64 0, .int .i64 pl, .int .i64 dr]] w (RApplyPost w D { s with mv := true } (leaveE s)) := by
  have A := apply_start w B D T S Ag Ad cg cd s 0 pl dr h hB hD _ rfl
  unfold stV
  clear h
  go_enter Tryd.func45, Tryd.ntmps45
  go_wp2_with fail
  refine A.mono ?_
  rintro e W1 ⟨g1, g2, c1, c2, rfl, hA⟩
  simp only [stV]
  clear A
  go_upto_region 3 with (fail)
  generalize W1.alloc (.cells #[.bool s.mv, .bool s.al, .int .i64 s.place, .slice (some ⟨g1, 0, none⟩) D c1, .slice (some ⟨g2, 0, none⟩) D c2] 28) = W at *
  generalize W1.heap.size = y at *
  generalize hxx : w.heap.size = x at *
  have HXX := Lib.hid hxx
  clear hxx
  obtain ⟨s0, s1, s2, s3, s4⟩ := cells5 hA.st
  obtain ⟨y0, y1, y2, y3, y4, q0, q1, q2, q3, q4⟩ := res5 hA.cp
  have v0 := cell_of_row W (x + 2) 0 _ _ _ hA.ev
  have v1 := cell_of_row W (x + 2) 1 _ _ _ hA.ev
  have v2 := cell_of_row W (x + 2) 2 _ _ _ hA.ev
  have r0 := cell_of_row W x 0 _ _ _ hA.r
  have r1 := cell_of_row W x 1 _ _ _ hA.r
  have r2 := cell_of_row W x 2 _ _ _ hA.r
  simp at v0 v1 v2 r0 r1 r2
  have HA := Lib.hid hA
  clear hA
  cases hm : s.mv
  · cases hg : hasB s.gates true
    · cases hd : hasB s.doors true
      · have HC : Hid (leaveE s = 0) := by simp [Hid, leaveE, isOpenB, hm, hg, hd, firstE, unlessE]
        rw [hm] at s0
        have G1 := anyOpen_val Ag D cg x s.gates _ hg W (by omega) HA.out.at_.lg HA.out.at_.rg
        have G2 := anyOpen_val Ad D cd x s.doors _ hd W (by omega) HA.out.at_.ld HA.out.at_.rd
        clear hm hg hd
        have HE := Lib.hid (HA.out.endAt.setMv true)
        go_upto_region 52 with (first | (go_at_call 106; first | ((with_reducible refine G1.mono ?_); rintro e w' ⟨rfl, rfl⟩) | ((with_reducible refine G2.mono ?_); rintro e w' ⟨rfl, rfl⟩)))
        generalize W.setCell ⟨y, 0, none⟩ (.bool true) = Wm at *
        obtain ⟨t0, t1, t2, t3, t4, p0, p1, p2, p3, p4⟩ := res5 HE.out.res
        obtain ⟨e0, e1, e2, e3, e4⟩ := cells5 HE.out.cp
        clear s0 s1 s2 s3 s4 y0 y1 y2 y3 y4 q0 q1 q2 q3 q4 v0 v1 v2 r0 r1 r2
        go_wp2
        have HF := ApAt.end_ok (by omega) HE.out.below HE.out.cp HE.out.res HE.out.own
        refine bodyPost_ret (v := .tuple #[stV { s with mv := true } (some ⟨g1, 0, none⟩) (some ⟨g2, 0, none⟩) D D c1 c2, .int .i64 0]) (by simp [results, Tryd.results45, go_sem, stV, t0, t1, t2, t3, t4]) rfl ⟨⟨_, by rw [HC.out], by rw [HC.out, if_pos rfl, HXX.out]; exact HF.2⟩, by rw [HXX.out]; exact HF.1⟩
      · have HC : Hid (leaveE s = 23) := by simp [Hid, leaveE, isOpenB, hm, hg, hd, firstE, unlessE]
        rw [hm] at s0
        have G1 := anyOpen_val Ag D cg x s.gates _ hg W (by omega) HA.out.at_.lg HA.out.at_.rg
        have G2 := anyOpen_val Ad D cd x s.doors _ hd W (by omega) HA.out.at_.ld HA.out.at_.rd
        clear hm hg hd
        have HE := Lib.hid (HA.out.endAt.setMv true)
        go_upto_region 52 with (first | (go_at_call 106; first | ((with_reducible refine G1.mono ?_); rintro e w' ⟨rfl, rfl⟩) | ((with_reducible refine G2.mono ?_); rintro e w' ⟨rfl, rfl⟩)))
        generalize W.setCell ⟨y, 0, none⟩ (.bool true) = Wm at *
        obtain ⟨t0, t1, t2, t3, t4, p0, p1, p2, p3, p4⟩ := res5 HE.out.res
        obtain ⟨e0, e1, e2, e3, e4⟩ := cells5 HE.out.cp
        clear s0 s1 s2 s3 s4 y0 y1 y2 y3 y4 q0 q1 q2 q3 q4 v0 v1 v2 r0 r1 r2
        go_wp2
        refine bodyPost_ret (v := .tuple #[zeroSt, .int .i64 23]) (by simp [results, Tryd.results45, go_sem, zeroSt, t0, t1, t2, t3, t4]) rfl ⟨⟨_, by rw [HC.out], by rw [HC.out, if_neg (by decide)]⟩, by rw [HXX.out]; exact HE.out.zero _ _ _ _ _⟩
    · cases hd : hasB s.doors true
      · have HC : Hid (leaveE s = 23) := by simp [Hid, leaveE, isOpenB, hm, hg, hd, firstE, unlessE]
        rw [hm] at s0
        have G1 := anyOpen_val Ag D cg x s.gates _ hg W (by omega) HA.out.at_.lg HA.out.at_.rg
        have G2 := anyOpen_val Ad D cd x s.doors _ hd W (by omega) HA.out.at_.ld HA.out.at_.rd
        clear hm hg hd
        have HE := Lib.hid (HA.out.endAt.setMv true)
        go_upto_region 52 with (first | (go_at_call 106; first | ((with_reducible refine G1.mono ?_); rintro e w' ⟨rfl, rfl⟩) | ((with_reducible refine G2.mono ?_); rintro e w' ⟨rfl, rfl⟩)))
        generalize W.setCell ⟨y, 0, none⟩ (.bool true) = Wm at *
        obtain ⟨t0, t1, t2, t3, t4, p0, p1, p2, p3, p4⟩ := res5 HE.out.res
        obtain ⟨e0, e1, e2, e3, e4⟩ := cells5 HE.out.cp
        clear s0 s1 s2 s3 s4 y0 y1 y2 y3 y4 q0 q1 q2 q3 q4 v0 v1 v2 r0 r1 r2
        go_wp2
        refine bodyPost_ret (v := .tuple #[zeroSt, .int .i64 23]) (by simp [results, Tryd.results45, go_sem, zeroSt, t0, t1, t2, t3, t4]) rfl ⟨⟨_, by rw [HC.out], by rw [HC.out, if_neg (by decide)]⟩, by rw [HXX.out]; exact HE.out.zero _ _ _ _ _⟩
      · have HC : Hid (leaveE s = 23) := by simp [Hid, leaveE, isOpenB, hm, hg, hd, firstE, unlessE]
        rw [hm] at s0
        have G1 := anyOpen_val Ag D cg x s.gates _ hg W (by omega) HA.out.at_.lg HA.out.at_.rg
        have G2 := anyOpen_val Ad D cd x s.doors _ hd W (by omega) HA.out.at_.ld HA.out.at_.rd
        clear hm hg hd
        have HE := Lib.hid (HA.out.endAt.setMv true)
        go_upto_region 52 with (first | (go_at_call 106; first | ((with_reducible refine G1.mono ?_); rintro e w' ⟨rfl, rfl⟩) | ((with_reducible refine G2.mono ?_); rintro e w' ⟨rfl, rfl⟩)))
        generalize W.setCell ⟨y, 0, none⟩ (.bool true) = Wm at *
        obtain ⟨t0, t1, t2, t3, t4, p0, p1, p2, p3, p4⟩ := res5 HE.out.res
        obtain ⟨e0, e1, e2, e3, e4⟩ := cells5 HE.out.cp
        clear s0 s1 s2 s3 s4 y0 y1 y2 y3 y4 q0 q1 q2 q3 q4 v0 v1 v2 r0 r1 r2
        go_wp2
        refine bodyPost_ret (v := .tuple #[zeroSt, .int .i64 23]) (by simp [results, Tryd.results45, go_sem, zeroSt, t0, t1, t2, t3, t4]) rfl ⟨⟨_, by rw [HC.out], by rw [HC.out, if_neg (by decide)]⟩, by rw [HXX.out]; exact HE.out.zero _ _ _ _ _⟩
  · have HC : Hid (leaveE s = 22) := by simp [Hid, leaveE, hm, firstE, unlessE]
    rw [hm] at s0
    clear hm
    have HE := Lib.hid (HA.out.endAt.setMv true)
    go_upto_region 52 with (fail)
    generalize W.setCell ⟨y, 0, none⟩ (.bool true) = Wm at *
    obtain ⟨t0, t1, t2, t3, t4, p0, p1, p2, p3, p4⟩ := res5 HE.out.res
    obtain ⟨e0, e1, e2, e3, e4⟩ := cells5 HE.out.cp
    clear s0 s1 s2 s3 s4 y0 y1 y2 y3 y4 q0 q1 q2 q3 q4 v0 v1 v2 r0 r1 r2
    go_wp2
    refine bodyPost_ret (v := .tuple #[zeroSt, .int .i64 22]) (by simp [results, Tryd.results45, go_sem, zeroSt, t0, t1, t2, t3, t4]) rfl ⟨⟨_, by rw [HC.out], by rw [HC.out, if_neg (by decide)]⟩, by rw [HXX.out]; exact HE.out.zero _ _ _ _ _⟩

set_option maxRecDepth 100000 in
set_option maxHeartbeats 4000000 in
theorem rapply_6 (w : World) (B : Nat) (D : Nat) (T S : Int) (Ag Ad : Option Addr) (cg cd : Nat) (s : Tr) (pl : Int) (dr : Int) (h : StAt w B Ag Ad D D s) (hB : B ≤ w.heap.size) (hD : D ≤ 1000000) :
    Calls Tryd.prog 45 #[.agg #[.int .i64 D, .int .i64 T, .int .i64 S], stV s Ag Ad D D cg cd, .agg #[.int .i64 6, .int .i64 pl, .int .i64 dr]] w (RApplyPost w D { s with al := true } (alarmE s)) := by
  have A := apply_start w B D T S Ag Ad cg cd s 6 pl dr h hB hD _ rfl
  unfold stV
  clear h
  go_enter Tryd.func45, Tryd.ntmps45
  go_wp2_with fail
  refine A.mono ?_
  rintro e W1 ⟨g1, g2, c1, c2, rfl, hA⟩
  simp only [stV]
  clear A
  go_upto_region 3 with (fail)
  generalize W1.alloc (.cells #[.bool s.mv, .bool s.al, .int .i64 s.place, .slice (some ⟨g1, 0, none⟩) D c1, .slice (some ⟨g2, 0, none⟩) D c2] 28) = W at *
  generalize W1.heap.size = y at *
  generalize hxx : w.heap.size = x at *
  have HXX := Lib.hid hxx
  clear hxx
  obtain ⟨s0, s1, s2, s3, s4⟩ := cells5 hA.st
  obtain ⟨y0, y1, y2, y3, y4, q0, q1, q2, q3, q4⟩ := res5 hA.cp
  have v0 := cell_of_row W (x + 2) 0 _ _ _ hA.ev
  have v1 := cell_of_row W (x + 2) 1 _ _ _ hA.ev
  have v2 := cell_of_row W (x + 2) 2 _ _ _ hA.ev
  have r0 := cell_of_row W x 0 _ _ _ hA.r
  have r1 := cell_of_row W x 1 _ _ _ hA.r
  have r2 := cell_of_row W x 2 _ _ _ hA.r
  simp at v0 v1 v2 r0 r1 r2
  have HA := Lib.hid hA
  clear hA
  cases ha : s.al
  · have HC : Hid (alarmE s = 0) := by simp [Hid, alarmE, ha, firstE, unlessE]
    rw [ha] at s1
    clear ha
    have HE := Lib.hid (HA.out.endAt.setAl true)
    go_upto_region 52 with (fail)
    generalize W.setCell ⟨y, 1, none⟩ (.bool true) = Wm at *
    obtain ⟨t0, t1, t2, t3, t4, p0, p1, p2, p3, p4⟩ := res5 HE.out.res
    obtain ⟨e0, e1, e2, e3, e4⟩ := cells5 HE.out.cp
    clear s0 s1 s2 s3 s4 y0 y1 y2 y3 y4 q0 q1 q2 q3 q4 v0 v1 v2 r0 r1 r2
    go_wp2
    have HF := ApAt.end_ok (by omega) HE.out.below HE.out.cp HE.out.res HE.out.own
    refine bodyPost_ret (v := .tuple #[stV { s with al := true } (some ⟨g1, 0, none⟩) (some ⟨g2, 0, none⟩) D D c1 c2, .int .i64 0]) (by simp [results, Tryd.results45, go_sem, stV, t0, t1, t2, t3, t4]) rfl ⟨⟨_, by rw [HC.out], by rw [HC.out, if_pos rfl, HXX.out]; exact HF.2⟩, by rw [HXX.out]; exact HF.1⟩
  · have HC : Hid (alarmE s = 26) := by simp [Hid, alarmE, ha, firstE, unlessE]
    rw [ha] at s1
    clear ha
    have HE := Lib.hid (HA.out.endAt.setAl true)
    go_upto_region 52 with (fail)
    generalize W.setCell ⟨y, 1, none⟩ (.bool true) = Wm at *
    obtain ⟨t0, t1, t2, t3, t4, p0, p1, p2, p3, p4⟩ := res5 HE.out.res
    obtain ⟨e0, e1, e2, e3, e4⟩ := cells5 HE.out.cp
    clear s0 s1 s2 s3 s4 y0 y1 y2 y3 y4 q0 q1 q2 q3 q4 v0 v1 v2 r0 r1 r2
    go_wp2
    refine bodyPost_ret (v := .tuple #[zeroSt, .int .i64 26]) (by simp [results, Tryd.results45, go_sem, zeroSt, t0, t1, t2, t3, t4]) rfl ⟨⟨_, by rw [HC.out], by rw [HC.out, if_neg (by decide)]⟩, by rw [HXX.out]; exact HE.out.zero _ _ _ _ _⟩
end Go.Proofs.YtmcjnfghlpnghaaDoor

namespace Go.Proofs.YtmcjnfghlpnghaaDoor
open Go.RowKit

structure PlW (b : Nat) (pl : Int) where
  w : World
  c : w.cell? ⟨b, 1, none⟩ = some (.int .i64 pl)

set_option maxRecDepth 100000 in
set_option maxHeartbeats 4000000 in
theorem rapply_1 (w : World) (B : Nat) (D : Nat) (T S : Int) (Ag Ad : Option Addr) (cg cd : Nat) (s : Tr) (pl : Int) (dr : Int) (h : StAt w B Ag Ad D D s) (hB : B ≤ w.heap.size) (hD : D ≤ 1000000) :
    Calls Tryd.prog 45 #[.agg #[.int .i64 D, .int .i64 T, .int .i64 S], stV s Ag Ad D D cg cd, .agg #[.int .i64 1, .int .i64 pl, .int .i64 dr]] w (RApplyPost w D { s with mv := false, place := pl } (stopE s)) := by
  have A := apply_start w B D T S Ag Ad cg cd s 1 pl dr h hB hD _ rfl
  unfold stV
  clear h
  go_enter Tryd.func45, Tryd.ntmps45
  go_wp2_with fail
  refine A.mono ?_
  rintro e W1 ⟨g1, g2, c1, c2, rfl, hA⟩
  simp only [stV]
  clear A
  go_upto_region 3 with (fail)
  generalize W1.alloc (.cells #[.bool s.mv, .bool s.al, .int .i64 s.place, .slice (some ⟨g1, 0, none⟩) D c1, .slice (some ⟨g2, 0, none⟩) D c2] 28) = W at *
  generalize W1.heap.size = y at *
  generalize hxx : w.heap.size = x at *
  have HXX := Lib.hid hxx
  clear hxx
  obtain ⟨s0, s1, s2, s3, s4⟩ := cells5 hA.st
  obtain ⟨y0, y1, y2, y3, y4, q0, q1, q2, q3, q4⟩ := res5 hA.cp
  have v0 := cell_of_row W (x + 2) 0 _ _ _ hA.ev
  have v1 := cell_of_row W (x + 2) 1 _ _ _ hA.ev
  have v2 := cell_of_row W (x + 2) 2 _ _ _ hA.ev
  have r0 := cell_of_row W x 0 _ _ _ hA.r
  have r1 := cell_of_row W x 1 _ _ _ hA.r
  have r2 := cell_of_row W x 2 _ _ _ hA.r
  simp at v0 v1 v2 r0 r1 r2
  have HA := Lib.hid hA
  clear hA
  cases hm : s.mv
  · have HC : Hid (stopE s = 22) := by simp [Hid, stopE, hm, firstE, unlessE]
    rw [hm] at s0
    clear hm
    go_upto_region 13 with (fail)
    haveI : Nonempty (PlW (x + 2) pl) := ⟨⟨W, v1⟩⟩
    have z0 := fun z : PlW (x + 2) pl => z.c
    refine wp_region_mid [] [0, 1] 2 [4, 5] (fun w' => ∃ z : PlW (x + 2) pl, w' = z.w) (by kernel_rfl) (by kernel_rfl) ⟨⟨W.drew, v1⟩, rfl⟩ ?_
    simp only [opsAt_nil, opsAt_cons, consOpt_some, List.getElem?_toArray, List.getElem?_cons_zero, List.getElem?_cons_succ]
    refine wpQuiet_nil ?_
    show wpQuiet _ _ _ _ _ _
    repeat (go_big_quiet_step (fail))
    refine wpQuiet_nil ?_
    show wpOrders _ _ _ _ _ _ _ _ W.drew
    clear z0
    have hA2 := HA.out.keep ((Below.refl W.heap.size W).drew)
    have u1 : W.drew.cell? ⟨x + 2, 1, none⟩ = some (.int .i64 pl) := v1
    generalize W.drew = w2 at *
    obtain ⟨n0, n1, n2, n3, n4, m0, m1, m2, m3, m4⟩ := res5 hA2.cp
    obtain ⟨j0, j1, j2, j3, j4, l0, l1, l2, l3, l4⟩ := res5 (hA2.endAt.setMv false).cp
    have hye := hA2.ye
    have u2 : (w2.setCell ⟨y, 0, none⟩ (.bool false)).cell? ⟨x + 2, 1, none⟩ = some (.int .i64 pl) := by
      rw [World.cell?_setCell_far _ _ _ _ (by simp only; omega)]
      exact u1
    have HE := Lib.hid ((hA2.endAt.setMv false).setPl pl)
    clear hA2 hye
    refine wpOrders_one (i := 2) (by kernel_rfl) ?_
    unfold wpMid
    simp only [opsAt_nil, opsAt_cons, consOpt_some, List.getElem?_toArray, List.getElem?_cons_zero, List.getElem?_cons_succ]
    go_wp2
    refine onlyNormal_mk ⟨⟨⟨_, u1⟩, rfl⟩, ?_⟩
    refine wpOrders_one (i := 3) (by kernel_rfl) ?_
    unfold wpMid
    simp only [opsAt_nil, opsAt_cons, consOpt_some, List.getElem?_toArray, List.getElem?_cons_zero, List.getElem?_cons_succ]
    go_wp2
    refine onlyNormal_mk ⟨⟨⟨_, u2⟩, rfl⟩, ?_⟩
    refine wpOrders_zero ?_
    go_wp2
    refine onlyNormal_mk ?_
    go_upto_region 52 with (fail)
    clear n0 n1 n2 n3 n4 m0 m1 m2 m3 m4 j0 j1 j2 j3 j4 l0 l1 l2 l3 l4 u1 u2
    generalize (w2.setCell ⟨y, 0, none⟩ (.bool false)).setCell ⟨y, 2, none⟩ (.int .i64 pl) = Wm at *
    obtain ⟨t0, t1, t2, t3, t4, p0, p1, p2, p3, p4⟩ := res5 HE.out.res
    obtain ⟨e0, e1, e2, e3, e4⟩ := cells5 HE.out.cp
    clear s0 s1 s2 s3 s4 y0 y1 y2 y3 y4 q0 q1 q2 q3 q4 v0 v1 v2 r0 r1 r2
    go_wp2
    refine bodyPost_ret (v := .tuple #[zeroSt, .int .i64 22]) (by simp [results, Tryd.results45, go_sem, zeroSt, t0, t1, t2, t3, t4]) rfl ⟨⟨_, by rw [HC.out], by rw [HC.out, if_neg (by decide)]⟩, by rw [HXX.out]; exact HE.out.zero _ _ _ _ _⟩
  · have HC : Hid (stopE s = 0) := by simp [Hid, stopE, hm, firstE, unlessE]
    rw [hm] at s0
    clear hm
    go_upto_region 13 with (fail)
    haveI : Nonempty (PlW (x + 2) pl) := ⟨⟨W, v1⟩⟩
    have z0 := fun z : PlW (x + 2) pl => z.c
    refine wp_region_mid [] [0, 1] 2 [4, 5] (fun w' => ∃ z : PlW (x + 2) pl, w' = z.w) (by kernel_rfl) (by kernel_rfl) ⟨⟨W.drew, v1⟩, rfl⟩ ?_
    simp only [opsAt_nil, opsAt_cons, consOpt_some, List.getElem?_toArray, List.getElem?_cons_zero, List.getElem?_cons_succ]
    refine wpQuiet_nil ?_
    show wpQuiet _ _ _ _ _ _
    repeat (go_big_quiet_step (fail))
    refine wpQuiet_nil ?_
    show wpOrders _ _ _ _ _ _ _ _ W.drew
    clear z0
    have hA2 := HA.out.keep ((Below.refl W.heap.size W).drew)
    have u1 : W.drew.cell? ⟨x + 2, 1, none⟩ = some (.int .i64 pl) := v1
    generalize W.drew = w2 at *
    obtain ⟨n0, n1, n2, n3, n4, m0, m1, m2, m3, m4⟩ := res5 hA2.cp
    obtain ⟨j0, j1, j2, j3, j4, l0, l1, l2, l3, l4⟩ := res5 (hA2.endAt.setMv false).cp
    have hye := hA2.ye
    have u2 : (w2.setCell ⟨y, 0, none⟩ (.bool false)).cell? ⟨x + 2, 1, none⟩ = some (.int .i64 pl) := by
      rw [World.cell?_setCell_far _ _ _ _ (by simp only; omega)]
      exact u1
    have HE := Lib.hid ((hA2.endAt.setMv false).setPl pl)
    clear hA2 hye
    refine wpOrders_one (i := 2) (by kernel_rfl) ?_
    unfold wpMid
    simp only [opsAt_nil, opsAt_cons, consOpt_some, List.getElem?_toArray, List.getElem?_cons_zero, List.getElem?_cons_succ]
    go_wp2
    refine onlyNormal_mk ⟨⟨⟨_, u1⟩, rfl⟩, ?_⟩
    refine wpOrders_one (i := 3) (by kernel_rfl) ?_
    unfold wpMid
    simp only [opsAt_nil, opsAt_cons, consOpt_some, List.getElem?_toArray, List.getElem?_cons_zero, List.getElem?_cons_succ]
    go_wp2
    refine onlyNormal_mk ⟨⟨⟨_, u2⟩, rfl⟩, ?_⟩
    refine wpOrders_zero ?_
    go_wp2
    refine onlyNormal_mk ?_
    go_upto_region 52 with (fail)
    clear n0 n1 n2 n3 n4 m0 m1 m2 m3 m4 j0 j1 j2 j3 j4 l0 l1 l2 l3 l4 u1 u2
    generalize (w2.setCell ⟨y, 0, none⟩ (.bool false)).setCell ⟨y, 2, none⟩ (.int .i64 pl) = Wm at *
    obtain ⟨t0, t1, t2, t3, t4, p0, p1, p2, p3, p4⟩ := res5 HE.out.res
    obtain ⟨e0, e1, e2, e3, e4⟩ := cells5 HE.out.cp
    clear s0 s1 s2 s3 s4 y0 y1 y2 y3 y4 q0 q1 q2 q3 q4 v0 v1 v2 r0 r1 r2
    go_wp2
    have HF := ApAt.end_ok (by omega) HE.out.below HE.out.cp HE.out.res HE.out.own
    refine bodyPost_ret (v := .tuple #[stV { s with mv := false, place := pl } (some ⟨g1, 0, none⟩) (some ⟨g2, 0, none⟩) D D c1 c2, .int .i64 0]) (by simp [results, Tryd.results45, go_sem, stV, t0, t1, t2, t3, t4]) rfl ⟨⟨_, by rw [HC.out], by rw [HC.out, if_pos rfl, HXX.out]; exact HF.2⟩, by rw [HXX.out]; exact HF.1⟩

set_option maxRecDepth 100000 in
set_option maxHeartbeats 4000000 in
theorem rapply_3 (w : World) (B : Nat) (D : Nat) (T S : Int) (Ag Ad : Option Addr) (cg cd : Nat) (s : Tr) (pl : Int) (d : Nat) (h : StAt w B Ag Ad D D s) (hB : B ≤ w.heap.size) (hD : D ≤ 1000000) (hdD : d < D) :
    Calls Tryd.prog 45 #[.agg #[.int .i64 D, .int .i64 T, .int .i64 S], stV s Ag Ad D D cg cd, .agg #[.int .i64 3, .int .i64 pl, .int .i64 (d : Int)]] w (RApplyPost w D { s with gates := s.gates.set d false } (barE s d)) := by
  have A := apply_start w B D T S Ag Ad cg cd s 3 pl (d : Int) h hB hD _ rfl
  unfold stV
  clear h
  go_enter Tryd.func45, Tryd.ntmps45
  go_wp2_with fail
  refine A.mono ?_
  rintro e W1 ⟨g1, g2, c1, c2, rfl, hA⟩
  simp only [stV]
  clear A
  go_upto_region 3 with (fail)
  generalize W1.alloc (.cells #[.bool s.mv, .bool s.al, .int .i64 s.place, .slice (some ⟨g1, 0, none⟩) D c1, .slice (some ⟨g2, 0, none⟩) D c2] 28) = W at *
  generalize W1.heap.size = y at *
  generalize hxx : w.heap.size = x at *
  have HXX := Lib.hid hxx
  clear hxx
  obtain ⟨s0, s1, s2, s3, s4⟩ := cells5 hA.st
  obtain ⟨y0, y1, y2, y3, y4, q0, q1, q2, q3, q4⟩ := res5 hA.cp
  have v0 := cell_of_row W (x + 2) 0 _ _ _ hA.ev
  have v1 := cell_of_row W (x + 2) 1 _ _ _ hA.ev
  have v2 := cell_of_row W (x + 2) 2 _ _ _ hA.ev
  have r0 := cell_of_row W x 0 _ _ _ hA.r
  have r1 := cell_of_row W x 1 _ _ _ hA.r
  have r2 := cell_of_row W x 2 _ _ _ hA.r
  simp at v0 v1 v2 r0 r1 r2
  have HA := Lib.hid hA
  clear hA
  cases hg : s.gates[d]?.getD false
  · have HC : Hid (barE s d = 22) := by simp [Hid, barE, hg, firstE, unlessE]
    have hdg : d < s.gates.length := by rw [HA.out.at_.lg]; exact hdD
    obtain ⟨bg, og, rfl, _, gc⟩ := HA.out.at_.rg.at_ (k := d) (u := .bool (s.gates[d]?.getD false)) (by simp [hdg])
    clear hdg
    rw [hg] at gc
    clear hg
    go_upto_region 27 with (fail)
    have hAo := HA.out
    have oc := hAo.own.og.cellAt d (by omega)
    have of := hAo.own.og.frozenAt d
    have ol : d < s.gates.length := by rw [hAo.at_.lg]; exact hdD
    obtain ⟨ob, hob⟩ : ∃ b, (s.gates.map Value.bool)[d]? = some (.bool b) := ⟨s.gates[d], by simp [ol]⟩
    rw [hob] at oc
    have HE := Lib.hid (hAo.endAt.setGate d false)
    clear ol hob hAo
    go_upto_region 52 with (fail)
    clear oc of
    generalize W.setCell ⟨g1, d, none⟩ (.bool false) = Wm at *
    obtain ⟨t0, t1, t2, t3, t4, p0, p1, p2, p3, p4⟩ := res5 HE.out.res
    obtain ⟨e0, e1, e2, e3, e4⟩ := cells5 HE.out.cp
    clear s0 s1 s2 s3 s4 y0 y1 y2 y3 y4 q0 q1 q2 q3 q4 v0 v1 v2 r0 r1 r2
    go_wp2
    refine bodyPost_ret (v := .tuple #[zeroSt, .int .i64 22]) (by simp [results, Tryd.results45, go_sem, zeroSt, t0, t1, t2, t3, t4]) rfl ⟨⟨_, by rw [HC.out], by rw [HC.out, if_neg (by decide)]⟩, by rw [HXX.out]; exact HE.out.zero _ _ _ _ _⟩
  · cases hd : s.doors[d]?.getD false
    · have HC : Hid (barE s d = 0) := by simp [Hid, barE, hg, hd, firstE, unlessE]
      have hdg : d < s.gates.length := by rw [HA.out.at_.lg]; exact hdD
      obtain ⟨bg, og, rfl, _, gc⟩ := HA.out.at_.rg.at_ (k := d) (u := .bool (s.gates[d]?.getD false)) (by simp [hdg])
      clear hdg
      rw [hg] at gc
      have hdd : d < s.doors.length := by rw [HA.out.at_.ld]; exact hdD
      obtain ⟨bd, od, rfl, _, dc⟩ := HA.out.at_.rd.at_ (k := d) (u := .bool (s.doors[d]?.getD false)) (by simp [hdd])
      clear hdd
      rw [hd] at dc
      clear hg hd
      go_upto_region 27 with (fail)
      have hAo := HA.out
      have oc := hAo.own.og.cellAt d (by omega)
      have of := hAo.own.og.frozenAt d
      have ol : d < s.gates.length := by rw [hAo.at_.lg]; exact hdD
      obtain ⟨ob, hob⟩ : ∃ b, (s.gates.map Value.bool)[d]? = some (.bool b) := ⟨s.gates[d], by simp [ol]⟩
      rw [hob] at oc
      have HE := Lib.hid (hAo.endAt.setGate d false)
      clear ol hob hAo
      go_upto_region 52 with (fail)
      clear oc of
      generalize W.setCell ⟨g1, d, none⟩ (.bool false) = Wm at *
      obtain ⟨t0, t1, t2, t3, t4, p0, p1, p2, p3, p4⟩ := res5 HE.out.res
      obtain ⟨e0, e1, e2, e3, e4⟩ := cells5 HE.out.cp
      clear s0 s1 s2 s3 s4 y0 y1 y2 y3 y4 q0 q1 q2 q3 q4 v0 v1 v2 r0 r1 r2
      go_wp2
      have HF := ApAt.end_ok (by omega) HE.out.below HE.out.cp HE.out.res HE.out.own
      refine bodyPost_ret (v := .tuple #[stV { s with gates := s.gates.set d false } (some ⟨g1, 0, none⟩) (some ⟨g2, 0, none⟩) D D c1 c2, .int .i64 0]) (by simp [results, Tryd.results45, go_sem, stV, t0, t1, t2, t3, t4]) rfl ⟨⟨_, by rw [HC.out], by rw [HC.out, if_pos rfl, HXX.out]; exact HF.2⟩, by rw [HXX.out]; exact HF.1⟩
    · cases ha : s.al
      · have HC : Hid (barE s d = 23) := by simp [Hid, barE, hg, hd, ha, firstE, unlessE]
        have hdg : d < s.gates.length := by rw [HA.out.at_.lg]; exact hdD
        obtain ⟨bg, og, rfl, _, gc⟩ := HA.out.at_.rg.at_ (k := d) (u := .bool (s.gates[d]?.getD false)) (by simp [hdg])
        clear hdg
        rw [hg] at gc
        have hdd : d < s.doors.length := by rw [HA.out.at_.ld]; exact hdD
        obtain ⟨bd, od, rfl, _, dc⟩ := HA.out.at_.rd.at_ (k := d) (u := .bool (s.doors[d]?.getD false)) (by simp [hdd])
        clear hdd
        rw [hd] at dc
        rw [ha] at s1
        clear hg hd ha
        go_upto_region 27 with (fail)
        have hAo := HA.out
        have oc := hAo.own.og.cellAt d (by omega)
        have of := hAo.own.og.frozenAt d
        have ol : d < s.gates.length := by rw [hAo.at_.lg]; exact hdD
        obtain ⟨ob, hob⟩ : ∃ b, (s.gates.map Value.bool)[d]? = some (.bool b) := ⟨s.gates[d], by simp [ol]⟩
        rw [hob] at oc
        have HE := Lib.hid (hAo.endAt.setGate d false)
        clear ol hob hAo
        go_upto_region 52 with (fail)
        clear oc of
        generalize W.setCell ⟨g1, d, none⟩ (.bool false) = Wm at *
        obtain ⟨t0, t1, t2, t3, t4, p0, p1, p2, p3, p4⟩ := res5 HE.out.res
        obtain ⟨e0, e1, e2, e3, e4⟩ := cells5 HE.out.cp
        clear s0 s1 s2 s3 s4 y0 y1 y2 y3 y4 q0 q1 q2 q3 q4 v0 v1 v2 r0 r1 r2
        go_wp2
        refine bodyPost_ret (v := .tuple #[zeroSt, .int .i64 23]) (by simp [results, Tryd.results45, go_sem, zeroSt, t0, t1, t2, t3, t4]) rfl ⟨⟨_, by rw [HC.out], by rw [HC.out, if_neg (by decide)]⟩, by rw [HXX.out]; exact HE.out.zero _ _ _ _ _⟩
      · have HC : Hid (barE s d = 0) := by simp [Hid, barE, hg, hd, ha, firstE, unlessE]
        have hdg : d < s.gates.length := by rw [HA.out.at_.lg]; exact hdD
        obtain ⟨bg, og, rfl, _, gc⟩ := HA.out.at_.rg.at_ (k := d) (u := .bool (s.gates[d]?.getD false)) (by simp [hdg])
        clear hdg
        rw [hg] at gc
        have hdd : d < s.doors.length := by rw [HA.out.at_.ld]; exact hdD
        obtain ⟨bd, od, rfl, _, dc⟩ := HA.out.at_.rd.at_ (k := d) (u := .bool (s.doors[d]?.getD false)) (by simp [hdd])
        clear hdd
        rw [hd] at dc
        rw [ha] at s1
        clear hg hd ha
        go_upto_region 27 with (fail)
        have hAo := HA.out
        have oc := hAo.own.og.cellAt d (by omega)
        have of := hAo.own.og.frozenAt d
        have ol : d < s.gates.length := by rw [hAo.at_.lg]; exact hdD
        obtain ⟨ob, hob⟩ : ∃ b, (s.gates.map Value.bool)[d]? = some (.bool b) := ⟨s.gates[d], by simp [ol]⟩
        rw [hob] at oc
        have HE := Lib.hid (hAo.endAt.setGate d false)
        clear ol hob hAo
        go_upto_region 52 with (fail)
        clear oc of
        generalize W.setCell ⟨g1, d, none⟩ (.bool false) = Wm at *
        obtain ⟨t0, t1, t2, t3, t4, p0, p1, p2, p3, p4⟩ := res5 HE.out.res
        obtain ⟨e0, e1, e2, e3, e4⟩ := cells5 HE.out.cp
        clear s0 s1 s2 s3 s4 y0 y1 y2 y3 y4 q0 q1 q2 q3 q4 v0 v1 v2 r0 r1 r2
        go_wp2
        have HF := ApAt.end_ok (by omega) HE.out.below HE.out.cp HE.out.res HE.out.own
        refine bodyPost_ret (v := .tuple #[stV { s with gates := s.gates.set d false } (some ⟨g1, 0, none⟩) (some ⟨g2, 0, none⟩) D D c1 c2, .int .i64 0]) (by simp [results, Tryd.results45, go_sem, stV, t0, t1, t2, t3, t4]) rfl ⟨⟨_, by rw [HC.out], by rw [HC.out, if_pos rfl, HXX.out]; exact HF.2⟩, by rw [HXX.out]; exact HF.1⟩
end Go.Proofs.YtmcjnfghlpnghaaDoor
